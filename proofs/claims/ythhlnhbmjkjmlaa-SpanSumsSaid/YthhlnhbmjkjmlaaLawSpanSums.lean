/- The row of the law shacklelaw01.SpanSums (the first form): for every input the call returns true and every argument reads afterwards as it read before; out of its pure statement and the printed walk; no condition. -/
import Derived.Test.YthhlnhbmjkjmlaaRows
import Derived.Test.YthhlnhbmjkjmlaaXOpen
import Derived.Test.YthhlnhbmjkjmlaaPSpanSumsx2
import Derived.Test.YthhlnhbmjkjmlaaPureSpanSums
import Derived.WalkKit
import Derived.ProofKit
import Derived.OpenShut
import Derived.ShutString
import Derived.ChangeOld
import Derived.Below
import Derived.SizedLaws
import Derived.JoinedCond
import Derived.Deep.CondSized
namespace Go.Proofs.Ythhlnhbmjkjmlaa.spanSums
open Go.ChangeShapes Go.WideShapes Go.ChangeAt Go.RowKit
open Go.ChangeMaps (open_string shut_string)
open Go.Proofs.Ythhlnhbmjkjmlaa.PSpanSums Go.Proofs.YthhlnhbmjkjmlaaW.PrintWords Go.Proofs.YthhlnhbmjkjmlaaX
set_option linter.unusedVariables false
theorem own : ownKnob Try.prog.godebug = none := by kernel_rfl
theorem laidOut : laidOutB Try.prog = true := by kernel_rfl
set_option maxHeartbeats 2000000 in
set_option maxRecDepth 100000 in
theorem lifted (os : Os) (started : os.Started) (H : Type) (enc : TypeId × Value → H) :
    ReturnsInHanded {} Try.checked os 7 .any (Rows.spanSumsSpec.pre6 enc Try.prog Try.f7 Rows.spanSumsRow.domain false) (Rows.spanSumsSpec.post enc Try.prog Try.f7 false true false false) := by
  refine returnsInHanded_of_change_sized (C := Try.checked) own started (by kernel_rfl) Try.func7
    (ChangeSpec.witness6 (enc := enc) (C := Try.checked) false ⟨#[], #[.slice none 0 0, .int .u64 0, .int .u64 0], []⟩ 8 (by kernel_rfl) (by kernel_rfl) (by kernel_rfl) (by kernel_rfl)) ?_
  intro W base args ds gs before hval0 hW hcnd hsz0 _
  have hsz : (DataW.weightsEach Try.prog (Try.f7.params.toList ++ Rows.spanSumsSpec.plain.varTypes Try.prog) (ds ++ gs)).all (· ≤ reachBytes) = true := hsz0
  have hval : ∀ (j : Nat) t v, Try.f7.params[j]? = some t → args[j]? = some v → Value.okWide Try.prog W .any base t v := hval0
  have hW' := hW
  obtain ⟨p, q, hA0, hV, rfl, hfz, hnd⟩ := hW
  have hA : DataW.TrodAll enc Try.prog W 0 (fun _ => true) true Try.f7.params.toList args.toList ds p := hA0
  rw [Try.params7] at hA hval hsz
  obtain ⟨v0, vs0, d0, ds0, p0, q0, hargs, rfl, rfl, h0, r0⟩ := trodAll_cons hA
  obtain ⟨v1, vs1, d1, ds1, p1, q1, rfl, rfl, rfl, h1, r1⟩ := trodAll_cons r0
  obtain ⟨v2, vs2, d2, ds2, p2, q2, rfl, rfl, rfl, h2, r2⟩ := trodAll_cons r1
  obtain ⟨rfl, rfl, rfl⟩ := trodAll_nil r2
  obtain rfl : args = #[v0, v1, v2] := by cases args; simp_all
  obtain ⟨rfl, rfl⟩ := trodVars_none hV
  have k0 := h0
  have lt0 : ∀ x ∈ p0, x.block < W.heap.size := by obtain ⟨m, hm⟩ := k0; exact DataW.trod_lt m _ _ _ hm
  obtain ⟨fuel0, hf0⟩ := h0
  obtain ⟨x0, hK0, hg0, hb0, hz0⟩ := (Fits.slice (Fits.int .u64 Try.underlying22 (by kernel_rfl)) Try.underlying37 (by kernel_rfl) (by kernel_rfl)).op hf0
  have hZ0 : (zL 8 zT) x0 := hz0 (fun n hn => by have := List.all_eq_true.1 hsz n (DataW.weights_mem_each (j := 0) (t := 37) (d := d0) rfl rfl n hn); simpa using this)
  clear hz0 hf0
  obtain ⟨A0, len0, c0, rfl⟩ := okWide_slice Try.underlying37 (hval 0 37 v0 rfl rfl)
  obtain ⟨A0', c0', hcs0, hc0, hr0⟩ := hK0
  simp [Value.cells] at hcs0
  obtain ⟨rfl, rfl, rfl⟩ := hcs0
  have k1 := h1
  have lt1 : ∀ x ∈ p1, x.block < W.heap.size := by obtain ⟨m, hm⟩ := k1; exact DataW.trod_lt m _ _ _ hm
  obtain ⟨fuel1, hf1⟩ := h1
  obtain ⟨x1, hK1, hg1, hb1, hz1⟩ := (Fits.int .u64 Try.underlying22 (by kernel_rfl)).op hf1
  have hZ1 : zT x1 := hz1 (fun n hn => by have := List.all_eq_true.1 hsz n (DataW.weights_mem_each (j := 1) (t := 22) (d := d1) rfl rfl n hn); simpa using this)
  clear hz1 hf1
  obtain ⟨y1, rfl, -, -, -⟩ := open_int Try.underlying22 (hval 1 22 v1 rfl rfl) k1
  obtain rfl : x1 = y1 := Eq.symm (by simpa [Kd.int, Kd.scalar, Value.cells] using hK1)
  have k2 := h2
  have lt2 : ∀ x ∈ p2, x.block < W.heap.size := by obtain ⟨m, hm⟩ := k2; exact DataW.trod_lt m _ _ _ hm
  obtain ⟨fuel2, hf2⟩ := h2
  obtain ⟨x2, hK2, hg2, hb2, hz2⟩ := (Fits.int .u64 Try.underlying22 (by kernel_rfl)).op hf2
  have hZ2 : zT x2 := hz2 (fun n hn => by have := List.all_eq_true.1 hsz n (DataW.weights_mem_each (j := 2) (t := 22) (d := d2) rfl rfl n hn); simpa using this)
  clear hz2 hf2
  obtain ⟨y2, rfl, -, -, -⟩ := open_int Try.underlying22 (hval 2 22 v2 rfl rfl) k2
  obtain rfl : x2 = y2 := Eq.symm (by simpa [Kd.int, Kd.scalar, Value.cells] using hK2)
  clear hA0 hval0 hsz0 hsz
  have hP := Pure.SpanSums x0 x1 x2 hg0 hZ0 hg1 hg2
  obtain ⟨k, hP⟩ := hP
  refine (shacklelaw01_SpanSums.calls k _ _ x0 x1 x2 true W hr0 hc0 hP).mono fun e W' ⟨he, bel0⟩ => ?_
  have bel := bel0
  subst he
  exact ⟨_, rfl, _, _, _, [], _, [], hW', trodAll_mk1 (shut_bool Try.underlying4 _), (trodAll_cons_mk (Below.trod laidOut (by kernel_rfl) (of_decide_eq_true (by kernel_rfl)) k0 bel lt0) (trodAll_cons_mk (Below.trod laidOut (by kernel_rfl) (of_decide_eq_true (by kernel_rfl)) k1 bel lt1) (trodAll_cons_mk (Below.trod laidOut (by kernel_rfl) (of_decide_eq_true (by kernel_rfl)) k2 bel lt2) trodAll_mk0))), rfl, bel.frame _, fun h => by cases h⟩
theorem over : Rows.spanSumsRow.holds Try.pinned (OpenSpec.ofChange Rows.spanSumsSpec) :=
  OpenClaim.holds_of_wide 7 Try.f7 rfl rfl rfl rfl rfl rfl rfl ⟨rfl, rfl, rfl, rfl, rfl⟩ rfl rfl rfl rfl rfl (by kernel_rfl) Try.func7 (by kernel_rfl)
    (of_decide_eq_true (by kernel_rfl)) (by unfold Func.isWrapper; first | (rw [if_pos (by decide +kernel)]; kernel_rfl) | (rw [if_neg (by decide +kernel)]; exact ⟨rfl, rfl⟩))
    (fun os started H enc _ => lifted os started H enc)
theorem proved : Rows.SpanSumsSaid := over
#print axioms proved
end Go.Proofs.Ythhlnhbmjkjmlaa.spanSums
namespace Go.Proofs.Ythhlnhbmjkjmlaa
/-- The row, under a short name, for the claim. -/
theorem spanSums_holds : Rows.SpanSumsSaid := spanSums.proved
end Go.Proofs.Ythhlnhbmjkjmlaa
