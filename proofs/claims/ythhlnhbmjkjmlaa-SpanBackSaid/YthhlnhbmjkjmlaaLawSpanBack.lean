/- The row of the law shacklelaw01.SpanBack (the first form): for every input the call returns true and every argument reads afterwards as it read before; out of its pure statement and the printed walk; no condition. -/
import Derived.Test.YthhlnhbmjkjmlaaRows
import Derived.Test.YthhlnhbmjkjmlaaXOpen
import Derived.Test.YthhlnhbmjkjmlaaPSpanBackx3
import Derived.Test.YthhlnhbmjkjmlaaPureSpanBack
import Derived.WalkKit
import Derived.ProofKit
import Derived.OpenShut
import Derived.ShutString
import Derived.ChangeOld
import Derived.Below
import Derived.SizedLaws
import Derived.JoinedCond
import Derived.Deep.CondSized
namespace Go.Proofs.Ythhlnhbmjkjmlaa.spanBack
open Go.ChangeShapes Go.WideShapes Go.ChangeAt Go.RowKit
open Go.ChangeMaps (open_string shut_string)
open Go.Proofs.Ythhlnhbmjkjmlaa.PSpanBack Go.Proofs.YthhlnhbmjkjmlaaW.PrintWords Go.Proofs.YthhlnhbmjkjmlaaX
set_option linter.unusedVariables false
theorem own : ownKnob Try.prog.godebug = none := by kernel_rfl
theorem laidOut : laidOutB Try.prog = true := by kernel_rfl
set_option maxHeartbeats 2000000 in
set_option maxRecDepth 100000 in
theorem lifted (os : Os) (started : os.Started) (H : Type) (enc : TypeId × Value → H) :
    ReturnsInHanded {} Try.checked os 10 .any (Rows.spanBackSpec.pre6 enc Try.prog Try.f10 Rows.spanBackRow.domain false) (Rows.spanBackSpec.post enc Try.prog Try.f10 false true false false) := by
  refine returnsInHanded_of_change_sized (C := Try.checked) own started (by kernel_rfl) Try.func10
    (ChangeSpec.witness6 (enc := enc) (C := Try.checked) false ⟨#[], #[.slice none 0 0, .int .u64 0, .int .i64 0, .int .u64 0, .slice none 0 0, .int .u64 0], []⟩ 8 (by kernel_rfl) (by kernel_rfl) (by kernel_rfl) (by kernel_rfl)) ?_
  intro W base args ds gs before hval0 hW hcnd hsz0 _
  have hsz : (DataW.weightsEach Try.prog (Try.f10.params.toList ++ Rows.spanBackSpec.plain.varTypes Try.prog) (ds ++ gs)).all (· ≤ reachBytes) = true := hsz0
  have hval : ∀ (j : Nat) t v, Try.f10.params[j]? = some t → args[j]? = some v → Value.okWide Try.prog W .any base t v := hval0
  have hW' := hW
  obtain ⟨p, q, hA0, hV, rfl, hfz, hnd⟩ := hW
  have hA : DataW.TrodAll enc Try.prog W 0 (fun _ => true) true Try.f10.params.toList args.toList ds p := hA0
  rw [Try.params10] at hA hval hsz
  obtain ⟨v0, vs0, d0, ds0, p0, q0, hargs, rfl, rfl, h0, r0⟩ := trodAll_cons hA
  obtain ⟨v1, vs1, d1, ds1, p1, q1, rfl, rfl, rfl, h1, r1⟩ := trodAll_cons r0
  obtain ⟨v2, vs2, d2, ds2, p2, q2, rfl, rfl, rfl, h2, r2⟩ := trodAll_cons r1
  obtain ⟨v3, vs3, d3, ds3, p3, q3, rfl, rfl, rfl, h3, r3⟩ := trodAll_cons r2
  obtain ⟨v4, vs4, d4, ds4, p4, q4, rfl, rfl, rfl, h4, r4⟩ := trodAll_cons r3
  obtain ⟨v5, vs5, d5, ds5, p5, q5, rfl, rfl, rfl, h5, r5⟩ := trodAll_cons r4
  obtain ⟨rfl, rfl, rfl⟩ := trodAll_nil r5
  obtain rfl : args = #[v0, v1, v2, v3, v4, v5] := by cases args; simp_all
  obtain ⟨rfl, rfl⟩ := trodVars_none hV
  have k0 := h0
  have lt0 : ∀ x ∈ p0, x.block < W.heap.size := by obtain ⟨m, hm⟩ := k0; exact DataW.trod_lt m _ _ _ hm
  obtain ⟨fuel0, hf0⟩ := h0
  obtain ⟨x0, hK0, hg0, hb0, hz0⟩ := (Fits.slice (Fits.int .u8 Try.underlying5 (by kernel_rfl)) Try.underlying51 (by kernel_rfl) (by kernel_rfl)).op hf0
  have hZ0 : (zL 1 zT) x0 := hz0 (fun n hn => by have := List.all_eq_true.1 hsz n (DataW.weights_mem_each (j := 0) (t := 51) (d := d0) rfl rfl n hn); simpa using this)
  clear hz0 hf0
  obtain ⟨A0, len0, c0, rfl⟩ := okWide_slice Try.underlying51 (hval 0 51 v0 rfl rfl)
  obtain ⟨A0', c0', hcs0, hc0, hr0⟩ := hK0
  simp [Value.cells] at hcs0
  obtain ⟨rfl, rfl, rfl⟩ := hcs0
  have k1 := h1
  have lt1 : ∀ x ∈ p1, x.block < W.heap.size := by obtain ⟨m, hm⟩ := k1; exact DataW.trod_lt m _ _ _ hm
  obtain ⟨fuel1, hf1⟩ := h1
  obtain ⟨x1, hK1, hg1, hb1, hz1⟩ := (Fits.int .u64 Try.underlying22 (by kernel_rfl)).op hf1
  have hZ1 : zT x1 := hz1 (fun n hn => by have := List.all_eq_true.1 hsz n (DataW.weights_mem_each (j := 1) (t := 22) (d := d1) rfl rfl n hn); simpa using this)
  clear hz1 hf1
  obtain ⟨y1, rfl, -, -, -⟩ := open_int Try.underlying22 (hval 1 22 v1 rfl rfl) k1
  obtain rfl : x1 = y1 := Eq.symm (by simpa [Kd.int, Kd.scalar, Value.cells] using hK1)
  have k2 := h2
  have lt2 : ∀ x ∈ p2, x.block < W.heap.size := by obtain ⟨m, hm⟩ := k2; exact DataW.trod_lt m _ _ _ hm
  obtain ⟨fuel2, hf2⟩ := h2
  obtain ⟨x2, hK2, hg2, hb2, hz2⟩ := (Fits.int .i64 Try.underlying3 (by kernel_rfl)).op hf2
  have hZ2 : zT x2 := hz2 (fun n hn => by have := List.all_eq_true.1 hsz n (DataW.weights_mem_each (j := 2) (t := 3) (d := d2) rfl rfl n hn); simpa using this)
  clear hz2 hf2
  obtain ⟨y2, rfl, -, -, -⟩ := open_int Try.underlying3 (hval 2 3 v2 rfl rfl) k2
  obtain rfl : x2 = y2 := Eq.symm (by simpa [Kd.int, Kd.scalar, Value.cells] using hK2)
  have k3 := h3
  have lt3 : ∀ x ∈ p3, x.block < W.heap.size := by obtain ⟨m, hm⟩ := k3; exact DataW.trod_lt m _ _ _ hm
  obtain ⟨fuel3, hf3⟩ := h3
  obtain ⟨x3, hK3, hg3, hb3, hz3⟩ := (Fits.int .u64 Try.underlying22 (by kernel_rfl)).op hf3
  have hZ3 : zT x3 := hz3 (fun n hn => by have := List.all_eq_true.1 hsz n (DataW.weights_mem_each (j := 3) (t := 22) (d := d3) rfl rfl n hn); simpa using this)
  clear hz3 hf3
  obtain ⟨y3, rfl, -, -, -⟩ := open_int Try.underlying22 (hval 3 22 v3 rfl rfl) k3
  obtain rfl : x3 = y3 := Eq.symm (by simpa [Kd.int, Kd.scalar, Value.cells] using hK3)
  have k4 := h4
  have lt4 : ∀ x ∈ p4, x.block < W.heap.size := by obtain ⟨m, hm⟩ := k4; exact DataW.trod_lt m _ _ _ hm
  obtain ⟨fuel4, hf4⟩ := h4
  obtain ⟨x4, hK4, hg4, hb4, hz4⟩ := (Fits.slice (Fits.int .u64 Try.underlying22 (by kernel_rfl)) Try.underlying37 (by kernel_rfl) (by kernel_rfl)).op hf4
  have hZ4 : (zL 8 zT) x4 := hz4 (fun n hn => by have := List.all_eq_true.1 hsz n (DataW.weights_mem_each (j := 4) (t := 37) (d := d4) rfl rfl n hn); simpa using this)
  clear hz4 hf4
  obtain ⟨A4, len4, c4, rfl⟩ := okWide_slice Try.underlying37 (hval 4 37 v4 rfl rfl)
  obtain ⟨A4', c4', hcs4, hc4, hr4⟩ := hK4
  simp [Value.cells] at hcs4
  obtain ⟨rfl, rfl, rfl⟩ := hcs4
  have k5 := h5
  have lt5 : ∀ x ∈ p5, x.block < W.heap.size := by obtain ⟨m, hm⟩ := k5; exact DataW.trod_lt m _ _ _ hm
  obtain ⟨fuel5, hf5⟩ := h5
  obtain ⟨x5, hK5, hg5, hb5, hz5⟩ := (Fits.int .u64 Try.underlying22 (by kernel_rfl)).op hf5
  have hZ5 : zT x5 := hz5 (fun n hn => by have := List.all_eq_true.1 hsz n (DataW.weights_mem_each (j := 5) (t := 22) (d := d5) rfl rfl n hn); simpa using this)
  clear hz5 hf5
  obtain ⟨y5, rfl, -, -, -⟩ := open_int Try.underlying22 (hval 5 22 v5 rfl rfl) k5
  obtain rfl : x5 = y5 := Eq.symm (by simpa [Kd.int, Kd.scalar, Value.cells] using hK5)
  clear hA0 hval0 hsz0 hsz
  have hP := Pure.SpanBack x0 x1 x2 x3 x4 x5 hg0 hZ0 hg1 hg2 hg3 hg4 hZ4 hg5
  obtain ⟨k, hP⟩ := hP
  refine (shacklelaw01_SpanBack.calls k _ _ x0 x1 x2 x3 _ _ x4 x5 true W hr0 hc0 hr4 hc4 hP).mono fun e W' ⟨he, bel0⟩ => ?_
  have bel := bel0
  subst he
  exact ⟨_, rfl, _, _, _, [], _, [], hW', trodAll_mk1 (shut_bool Try.underlying4 _), (trodAll_cons_mk (Below.trod laidOut (by kernel_rfl) (of_decide_eq_true (by kernel_rfl)) k0 bel lt0) (trodAll_cons_mk (Below.trod laidOut (by kernel_rfl) (of_decide_eq_true (by kernel_rfl)) k1 bel lt1) (trodAll_cons_mk (Below.trod laidOut (by kernel_rfl) (of_decide_eq_true (by kernel_rfl)) k2 bel lt2) (trodAll_cons_mk (Below.trod laidOut (by kernel_rfl) (of_decide_eq_true (by kernel_rfl)) k3 bel lt3) (trodAll_cons_mk (Below.trod laidOut (by kernel_rfl) (of_decide_eq_true (by kernel_rfl)) k4 bel lt4) (trodAll_cons_mk (Below.trod laidOut (by kernel_rfl) (of_decide_eq_true (by kernel_rfl)) k5 bel lt5) trodAll_mk0)))))), rfl, bel.frame _, fun h => by cases h⟩
theorem over : Rows.spanBackRow.holds Try.pinned (OpenSpec.ofChange Rows.spanBackSpec) :=
  OpenClaim.holds_of_wide 10 Try.f10 rfl rfl rfl rfl rfl rfl rfl ⟨rfl, rfl, rfl, rfl, rfl⟩ rfl rfl rfl rfl rfl (by kernel_rfl) Try.func10 (by kernel_rfl)
    (of_decide_eq_true (by kernel_rfl)) (by unfold Func.isWrapper; first | (rw [if_pos (by decide +kernel)]; kernel_rfl) | (rw [if_neg (by decide +kernel)]; exact ⟨rfl, rfl⟩))
    (fun os started H enc _ => lifted os started H enc)
theorem proved : Rows.SpanBackSaid := over
#print axioms proved
end Go.Proofs.Ythhlnhbmjkjmlaa.spanBack
namespace Go.Proofs.Ythhlnhbmjkjmlaa
/-- The row, under a short name, for the claim. -/
theorem spanBack_holds : Rows.SpanBackSaid := spanBack.proved
end Go.Proofs.Ythhlnhbmjkjmlaa
