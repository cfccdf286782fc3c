/- A struct of this program (api.Regs) is equal to itself, and so the machine says. No condition but what each theorem says. -/
import Derived.Test.YtpjilbhhhpikaaaGreatDoorProg
import Derived.Test.YtpjilbhhhpikaaaGreatDoorWEqStruct
import Derived.ChangeKeysEq
namespace Go.Ev
set_option linter.unusedVariables false
set_option linter.unusedSimpArgs false
open Go Go.Proofs Go.RowKit Go.Proofs.YtpjilbhhhpikaaaGreatDoorW.PrintWords
theorem part22 {xs : Array Value} {i : Nat} {v : Value} (h : xs[i]? = some v) (w : World) : (part 22 xs i).run Tryz.prog w = .ok v w := by
  have ha : (isAgg 22).run Tryz.prog w = .ok false w := by simp [isAgg, Sem.run_bind, run_underlying Tryz.underlying22, Result.andThen]
  simp [part, Sem.run_bind, ha, Result.andThen, h]
theorem part4 {xs : Array Value} {i : Nat} {v : Value} (h : xs[i]? = some v) (w : World) : (part 4 xs i).run Tryz.prog w = .ok v w := by
  have ha : (isAgg 4).run Tryz.prog w = .ok false w := by simp [isAgg, Sem.run_bind, run_underlying Tryz.underlying4, Result.andThen]
  simp [part, Sem.run_bind, ha, Result.andThen, h]
theorem eq22 (d : Nat) (z : Int) (w : World) : (Op.equalIn (d + 1) 22 (.int .u64 z) (.int .u64 z)).run Tryz.prog w = .ok true w := by
  simp [Op.equalIn, Sem.run_bind, run_underlying Tryz.underlying22, Result.andThen]
theorem eq4 (d : Nat) (z : Bool) (w : World) : (Op.equalIn (d + 1) 4 (.bool z) (.bool z)).run Tryz.prog w = .ok true w := by
  simp [Op.equalIn, Sem.run_bind, run_underlying Tryz.underlying4, Result.andThen]
theorem items_same (d : Nat) (xs : Array Value) (w : World) : ∀ is : List Nat, (∀ i ∈ is, ∃ z, xs[i]? = some (.int .u64 z)) → (Op.eqItems (d + 1) 22 1 xs xs is).run Tryz.prog w = .ok true w
  | [], _ => by simp [Op.eqItems]
  | i :: is, h => by
    obtain ⟨z, hz⟩ := h i (by simp)
    have ih := items_same d xs w is (fun j hj => h j (by simp [hj]))
    have hp := part22 (i := i * 1) (v := .int .u64 z) (by rw [Nat.mul_one]; exact hz) w
    simp only [Op.eqItems, Sem.run_bind, hp, eq22, Result.andThen_ok]
    simpa using ih
theorem cells22 : Tryz.prog.cellsOf 22 = 1 := by kernel_rfl
theorem info22' : ∃ i, Tryz.prog.info? 22 = some i := by
  have h : (Tryz.prog.info? 22).isSome = true := by kernel_rfl
  exact Option.isSome_iff_exists.mp h
theorem eqArr (d : Nat) (xs : Array Value) (w : World) (h : ∀ i, i < 16 → ∃ z, xs[i]? = some (.int .u64 z)) : (Op.equalIn (d + 2) 23 (.agg xs) (.agg xs)).run Tryz.prog w = .ok true w := by
  obtain ⟨i, hi⟩ := info22'
  rw [show d + 2 = (d + 1) + 1 from rfl, run_equalIn_array w (d + 1) xs xs Tryz.underlying23 hi, cells22]
  exact items_same d xs w (List.range 16) (fun i hi => h i (List.mem_range.mp hi))
theorem ext16 (cs : Array Value) (hs : cs.size = 23) {i : Nat} (hi : i < 16) : (cs.extract 0 16)[i]? = cs[i]? := by
  rw [Array.getElem?_extract]
  simp [hs, hi]
theorem part23 (cs : Array Value) (w : World) : (part 23 cs 0).run Tryz.prog w = .ok (.agg (cs.extract 0 16)) w := by
  have hi : ∃ i, Tryz.prog.info? 23 = some i ∧ i.size = 16 := by
    have h : (Tryz.prog.info? 23).map (·.size) = some 16 := by kernel_rfl
    cases hh : Tryz.prog.info? 23 with
    | none => rw [hh] at h; cases h
    | some i => rw [hh] at h; exact ⟨i, rfl, by simpa using h⟩
  obtain ⟨i, hi, hs⟩ := hi
  have ha : (isAgg 23).run Tryz.prog w = .ok true w := by simp [isAgg, Sem.run_bind, run_underlying Tryz.underlying23, Result.andThen]
  have hz : (sizeOf 23).run Tryz.prog w = .ok 16 w := by simp [sizeOf, typeInfo, Sem.run_bind, run_program, hi, hs, Result.andThen]
  simp [part, Sem.run_bind, ha, hz, Result.andThen]
set_option maxRecDepth 100000 in
theorem eqRegs (d : Nat) (a0 a1 a2 a3 a4 a5 a6 a7 a8 a9 a10 a11 a12 a13 a14 a15 a16 a17 : Int) (b0 b1 b2 b3 b4 : Bool) (w : World) : (Op.equalIn (d + 3) 25 (.agg #[.int .u64 a0, .int .u64 a1, .int .u64 a2, .int .u64 a3, .int .u64 a4, .int .u64 a5, .int .u64 a6, .int .u64 a7, .int .u64 a8, .int .u64 a9, .int .u64 a10, .int .u64 a11, .int .u64 a12, .int .u64 a13, .int .u64 a14, .int .u64 a15, .int .u64 a16, .int .u64 a17, .bool b0, .bool b1, .bool b2, .bool b3, .bool b4]) (.agg #[.int .u64 a0, .int .u64 a1, .int .u64 a2, .int .u64 a3, .int .u64 a4, .int .u64 a5, .int .u64 a6, .int .u64 a7, .int .u64 a8, .int .u64 a9, .int .u64 a10, .int .u64 a11, .int .u64 a12, .int .u64 a13, .int .u64 a14, .int .u64 a15, .int .u64 a16, .int .u64 a17, .bool b0, .bool b1, .bool b2, .bool b3, .bool b4])).run Tryz.prog w = .ok true w := by
  refine eqA_of Tryz.underlying25 Tryz.stoodInHeld25 ?_
  refine (eqf_cons (r := true) (s := true) (by rfl) (part23 _ w) (part23 _ w) (eqArr d _ w ?_) ?_)
  · intro i hi
    rw [ext16 _ rfl hi]
    have hc : i = 0 ∨ i = 1 ∨ i = 2 ∨ i = 3 ∨ i = 4 ∨ i = 5 ∨ i = 6 ∨ i = 7 ∨ i = 8 ∨ i = 9 ∨ i = 10 ∨ i = 11 ∨ i = 12 ∨ i = 13 ∨ i = 14 ∨ i = 15 := by omega
    rcases hc with rfl | rfl | rfl | rfl | rfl | rfl | rfl | rfl | rfl | rfl | rfl | rfl | rfl | rfl | rfl | rfl <;> exact ⟨_, rfl⟩
  refine (eqf_cons (r := true) (s := true) (by rfl) (part22 rfl w) (part22 rfl w) (eq22 _ _ w) ?_)
  refine (eqf_cons (r := true) (s := true) (by rfl) (part22 rfl w) (part22 rfl w) (eq22 _ _ w) ?_)
  refine (eqf_cons (r := true) (s := true) (by rfl) (part4 rfl w) (part4 rfl w) (eq4 _ _ w) ?_)
  refine (eqf_cons (r := true) (s := true) (by rfl) (part4 rfl w) (part4 rfl w) (eq4 _ _ w) ?_)
  refine (eqf_cons (r := true) (s := true) (by rfl) (part4 rfl w) (part4 rfl w) (eq4 _ _ w) ?_)
  refine (eqf_cons (r := true) (s := true) (by rfl) (part4 rfl w) (part4 rfl w) (eq4 _ _ w) ?_)
  exact (eqf_last (by rfl) (part4 rfl w) (part4 rfl w) (eq4 _ _ w))
section
variable {P : Program} {ops : Array Oper} {rest : List Oper} {o : Oper} {a : Act} {w : World} {Q : Exit → Act → World → Prop}
theorem eq_same_g (hw : Region.wanted o (yielded ops a.tmps) = true) (t : TypeId) (x y : Operand) (ho : o.op = .binOp .eql t x y t) (cs : Array Value) (hx : a.eval x = .agg cs) (hy : a.eval y = .agg cs)
    (he : (Op.equalIn 10000 t (.agg cs) (.agg cs)).run P w = .ok true w) (hgd : P.eqGuardType P.depth t = false) (h : wpList P ops Q rest (a.put o.dst (.bool true)) w) : wpList P ops Q (o :: rest) a w := by
  unfold wpList
  rw [if_pos hw]
  refine .inl ?_
  unfold Oper.wp
  simp [execOp, ho, hx, hy, run_eqGuard_agg, hgd, run_eql_struct, he, Result.andThen]
  exact h
end
end Go.Ev
