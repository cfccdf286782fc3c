/- ExecNil: the run. No condition but what each theorem says. -/
import Derived.Test.YtpjilbhhhpikaaaGreatEvU13
import Derived.Test.YtpjilbhhhpikaaaGreatEvB13
import Derived.Test.YtpjilbhhhpikaaaGreatEvEq
import Derived.Test.YtpjilbhhhpikaaaGreatXErr
import Derived.WalkKit
import Derived.OwnWalkIn
namespace Go.Ev
set_option linter.unusedVariables false
set_option linter.unusedSimpArgs false
open Go Go.Proofs Go.RowKit
theorem closed_ptrs {f : FuncId} {fuel : Nat} (h : isPtrs (run1 f [.snil, .snil] fuel) = true) (w : World) : Calls Tryz.prog f #[.slice none 0 0, .slice none 0 0] w fun e w' => (∃ a b, e = .returned (.tuple #[.pointer (some a), .pointer (some b)])) ∧ Below w.heap.size w w' := by
  unfold run1 at h
  generalize hr : callV Tryz.prog ov1 (evC Tryz.prog ov1 (regD Tryz.prog) fuel) f [.snil, .snil] ⟨0, .e⟩ = x at h
  unfold isPtrs at h
  split at h
  · rename_i k1 g1 o1 k2 g2 o2 h'
    refine (callV_ok ov1_ok (evC_ok entered ov1_ok (regD_ok mixedOrd) fuel).1 f _ ⟨0, .e⟩ _ h' hr (fun _ => none) w #[.slice none 0 0, .slice none 0 0] ⟨(fun _ _ h => by cases h), (fun _ _ _ _ h => by cases h), (fun _ _ h => by cases h)⟩ ⟨.snil, .snil, trivial⟩).mono ?_
    rintro e w' ⟨q, ρ', rfl, s, hq⟩
    refine ⟨?_, s.os, s.tape, s.output, s.size, fun b hb => s.frame b hb (fun _ _ h => by cases h)⟩
    cases hq with
    | @tup l cs hs hh =>
      have hs : cs.size = 2 := hs
      have p1 : ∀ {k g o : Nat} {c : Value}, VRel ρ' (.ptr k g o) c → ∃ a, c = .pointer (some a) := by
        intro k g o c hc
        cases hc with
        | ptr _ _ => exact ⟨_, rfl⟩
        | ptrOld _ _ => exact ⟨_, rfl⟩
      obtain ⟨a, ha⟩ := p1 (hh 0 _ cs[0] rfl (by simp [hs]))
      obtain ⟨b, hb⟩ := p1 (hh 1 _ cs[1] rfl (by simp [hs]))
      refine ⟨a, b, ?_⟩
      have : cs = #[cs[0], cs[1]] := by
        apply Array.ext (by simp [hs])
        intro i h1 h2
        have : i = 0 ∨ i = 1 := by omega
        rcases this with rfl | rfl <;> rfl
      rw [this, ha, hb]
  · cases h
set_option maxRecDepth 100000 in
set_option maxHeartbeats 2000000 in
theorem step_nil1 (a : Option Addr) (w : World) : Calls Tryz.prog 15 #[.pointer none, .pointer a] w fun e w' => e = .returned (.tuple #[.bool false, .iface 37 (.int .i64 1)]) ∧ w' = w := by
  refine calls_of_wp Tryz.func15 rfl ?_
  simp only [Tryz.ntmps15, List.size_toArray, List.length_cons, List.length_nil, Nat.reduceAdd, Nat.reduceSub, Array.replicate_succ, Array.replicate_zero, List.push_toArray, List.append_toArray, List.nil_append, List.cons_append]
  go_wp2
  go_ret2
  exact ⟨rfl, rfl⟩
set_option maxRecDepth 100000 in
set_option maxHeartbeats 2000000 in
theorem step_nil2 (a : Addr) (w : World) : Calls Tryz.prog 15 #[.pointer (some a), .pointer none] w fun e w' => e = .returned (.tuple #[.bool false, .iface 37 (.int .i64 1)]) ∧ w' = w := by
  refine calls_of_wp Tryz.func15 rfl ?_
  simp only [Tryz.ntmps15, List.size_toArray, List.length_cons, List.length_nil, Nat.reduceAdd, Nat.reduceSub, Array.replicate_succ, Array.replicate_zero, List.push_toArray, List.append_toArray, List.nil_append, List.cons_append]
  go_wp2
  go_ret2
  exact ⟨rfl, rfl⟩
theorem step_nil (a b : Option Addr) (h : a = none ∨ b = none) (w : World) : Calls Tryz.prog 15 #[.pointer a, .pointer b] w fun e w' => e = .returned (.tuple #[.bool false, .iface 37 (.int .i64 1)]) ∧ w' = w := by
  cases a with
  | none => exact step_nil1 b w
  | some a =>
    rcases h with h | rfl
    · cases h
    · exact step_nil2 a w
section
variable {P : Program} {ops : Array Oper} {rest : List Oper} {o : Oper} {a : Act} {w : World} {Q : Exit → Act → World → Prop}
theorem load_row_g (hw : Region.wanted o (yielded ops a.tmps) = true) (ty : TypeId) (x : Operand) (ho : o.op = .load ty x)
    (g : Nat) (hx : a.eval x = .pointer (some ⟨g, 0, none⟩)) (t : TypeId) (cs : Array Value) (fr : Nat × Nat) (d : TypeDesc) (hg : w.heap[g]? = some (.cells cs t fr))
    (hu : P.underlying ty = some d) (hd : (match d with | .struct _ | .array _ _ => true | _ => false) = true) (hi : (P.info? ty).map (·.size) = some cs.size)
    (h : wpList P ops Q rest (a.put o.dst (.agg cs)) w) : wpList P ops Q (o :: rest) a w := by
  unfold wpList
  rw [if_pos hw]
  exact .inl (wp_load_row ty x ho g hx t cs fr d hg hu hd hi h)
theorem store_box (hgd : o.guard = none) (ty : TypeId) (x y : Operand) (ho : o.op = .store ty x y)
    (g : Nat) (cells : Array Value) (hx : a.eval x = .pointer (some ⟨g, 0, none⟩)) (hy : a.eval y = .agg cells)
    (t : TypeId) (old : Array Value) (hg : w.heap[g]? = some (.cells old t (0, 0))) (hi : (P.info? ty).map (·.size) = some cells.size)
    (hold : old.size = cells.size) (h1 : cells.all (·.oneCell') = true)
    (h : ∀ w', w'.heap[g]? = some (.cells cells t (0, 0)) → w.grownBy w' (some g) → wpList P ops Q rest (a.put o.dst undef) w') : wpList P ops Q (o :: rest) a w :=
  wpList_store_row hgd ty x y ho g cells hx hy t old hg hi hold h1
    (h _ (setRow_heap _ _ _ _ _ _ hg) ⟨rfl, rfl, rfl, by simp, fun k _ hne => setRow_other _ _ _ _ (fun e => hne (by rw [e]))⟩)
end
theorem ifc33 : Tryz.prog.underlying 33 = some (.interface (Tryz.prog.methodsAt 33)) := by kernel_rfl
theorem cmp37 : (Tryz.prog.info? 37).map (fun i => i.comparable) = some true := by kernel_rfl
attribute [local go_sem] ifc33 cmp37
theorem size25 : (Tryz.prog.info? 25).map (·.size) = some 23 := by kernel_rfl
set_option maxRecDepth 100000 in
set_option maxHeartbeats 400000 in
theorem execNil_calls (a0 a1 a2 a3 a4 a5 a6 a7 a8 a9 a10 a11 a12 a13 a14 a15 a16 a17 : Int) (b0 b1 b2 b3 b4 : Bool) (w : World) : Calls Tryz.prog 4 #[.agg #[.int .u64 a0, .int .u64 a1, .int .u64 a2, .int .u64 a3, .int .u64 a4, .int .u64 a5, .int .u64 a6, .int .u64 a7, .int .u64 a8, .int .u64 a9, .int .u64 a10, .int .u64 a11, .int .u64 a12, .int .u64 a13, .int .u64 a14, .int .u64 a15, .int .u64 a16, .int .u64 a17, .bool b0, .bool b1, .bool b2, .bool b3, .bool b4]] w fun e w' => e = .returned (.bool true) ∧ Below w.heap.size w w' := by
  have cU : ∀ W : World, Calls Tryz.prog 11 #[] W _ := fun W => closed_true up13 W
  have cB : ∀ W : World, Calls Tryz.prog 14 #[.slice none 0 0, .slice none 0 0] W _ := fun W => closed_ptrs both13 W
  refine calls_of_wp Tryz.func4 rfl ?_
  simp only [Tryz.ntmps4, List.size_toArray, List.length_cons, List.length_nil, Nat.reduceAdd, Nat.reduceSub, Array.replicate_succ, Array.replicate_zero, List.push_toArray, List.append_toArray, List.nil_append, List.cons_append]
  go_wp2_with (first
    | (go_at_call 11; refine (cU _).mono ?_; rintro e w1 ⟨rfl, hb1⟩
       have h1 := (hb1.block w.heap.size (by simp)).trans (World.alloc_heap_new w _)
       have hlt1 : w.heap.size < w1.heap.size := (Array.getElem?_eq_some_iff.mp h1).1
       have hbel1 : Below w.heap.size w w1 := ((Below.refl _ w).alloc (Nat.le_refl _) _).trans (hb1.mono (by simp)))
    | (go_at_call 14; refine (cB _).mono ?_; rintro e w2 ⟨⟨p, q, rfl⟩, hb2⟩
       have h2 := (hb2.block _ hlt1).trans h1
       have hlt2 : w.heap.size < w2.heap.size := (Array.getElem?_eq_some_iff.mp h2).1
       have hbel2 : Below w.heap.size w w2 := hbel1.trans (hb2.mono (by omega)))
    | (go_at_call 15; refine Calls.mono (step_nil _ _ ?_ _) ?_; (first | exact Or.inl rfl | exact Or.inr rfl); rintro e w5 ⟨rfl, rfl⟩)
    | (refine wpList_load_row rfl 25 _ rfl w.heap.size rfl 25 _ (0, 0) _ h2 Tryz.underlying25 rfl size25 ?_)
    | (refine store_box rfl 25 _ _ rfl w2.heap.size _ rfl rfl 25 _ (World.alloc_heap_new w2 _) size25 rfl (by simp [Value.oneCell']) ?_; intro w4 h4 hg4
       have h3 : w4.heap[w.heap.size]? = _ := (hg4.block w.heap.size (by simp; omega) (by simp; omega)).trans ((Below.heap_alloc _ _ _ hlt2).trans h2)
       have hbel4 : Below w.heap.size w w4 := (hbel2.alloc (by omega) _).grown hg4 (by simp; omega) (fun k e => by cases e; omega))
    | (refine eq_same_g (by rfl) 25 _ _ rfl _ rfl rfl (eqRegs 9997 _ _ _ _ _ _ _ _ _ _ _ _ _ _ _ _ _ _ _ _ _ _ _ _) Tryz.eqGuardType25 ?_)
    | (refine load_row_g (by rfl) 25 _ rfl w2.heap.size rfl 25 _ (0, 0) _ h4 Tryz.underlying25 rfl size25 ?_)
    | (refine load_row_g (by rfl) 25 _ rfl w.heap.size rfl 25 _ (0, 0) _ h3 Tryz.underlying25 rfl size25 ?_))
  go_ret
  exact ⟨rfl, hbel4⟩
end Go.Ev
