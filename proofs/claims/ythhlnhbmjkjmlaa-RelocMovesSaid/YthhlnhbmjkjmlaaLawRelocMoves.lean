/- The row of the law shacklelaw19.RelocMoves (the first form): for every input the call returns true and every argument reads afterwards as it read before; out of its pure statement and the printed walk; no condition. -/
import Derived.Test.YthhlnhbmjkjmlaaRows
import Derived.Test.YthhlnhbmjkjmlaaXOpen
import Derived.Test.YthhlnhbmjkjmlaaPRelocMovesx3
import Derived.Test.YthhlnhbmjkjmlaaPureRelocMoves
import Derived.WalkKit
import Derived.ProofKit
import Derived.OpenShut
import Derived.ShutString
import Derived.ChangeOld
import Derived.Below
import Derived.SizedLaws
import Derived.JoinedCond
import Derived.Deep.CondSized
namespace Go.Proofs.Ythhlnhbmjkjmlaa.relocMoves
open Go.ChangeShapes Go.WideShapes Go.ChangeAt Go.RowKit
open Go.ChangeMaps (open_string shut_string)
open Go.Proofs.Ythhlnhbmjkjmlaa.PRelocMoves Go.Proofs.YthhlnhbmjkjmlaaW.PrintWords Go.Proofs.YthhlnhbmjkjmlaaX
set_option linter.unusedVariables false
theorem own : ownKnob Try.prog.godebug = none := by kernel_rfl
theorem laidOut : laidOutB Try.prog = true := by kernel_rfl
set_option maxRecDepth 100000 in
theorem fits24 : Fits Try.prog 24 k24 g24 b24 z_24 := by
  have h := Fits.struct (P := Try.prog) (T := 24) Try.underlying24 rfl (by kernel_rfl) (FitsF.cons (Fits.int .u64 Try.underlying22 (by kernel_rfl)) rfl (FitsF.cons (Fits.int .i64 Try.underlying3 (by kernel_rfl)) rfl (FitsF.cons (Fits.int .i64 Try.underlying3 (by kernel_rfl)) rfl (FitsF.last (Fits.int .i64 Try.underlying2 (by kernel_rfl)) rfl) rfl) rfl) rfl) (fun x : S24 => (x.f0, x.f1, x.f2, x.f3)) (fun t => ⟨t.1, t.2.1, t.2.2.1, t.2.2.2⟩) (fun _ => rfl)
  exact h
set_option maxRecDepth 100000 in
theorem fits26 : Fits Try.prog 26 k26 g26 b26 z_26 := by
  have h := Fits.struct (P := Try.prog) (T := 26) Try.underlying26 rfl (by kernel_rfl) (FitsF.cons (Fits.int .u64 Try.underlying22 (by kernel_rfl)) rfl (FitsF.cons (Fits.int .u64 Try.underlying22 (by kernel_rfl)) rfl (FitsF.cons (Fits.int .i64 Try.underlying3 (by kernel_rfl)) rfl (FitsF.cons (Fits.int .u64 Try.underlying22 (by kernel_rfl)) rfl (FitsF.cons (Fits.bool Try.underlying4 (by kernel_rfl)) rfl (FitsF.last (Fits.int .u64 Try.underlying22 (by kernel_rfl)) rfl) rfl) rfl) rfl) rfl) rfl) (fun x : S26 => (x.f0, x.f1, x.f2, x.f3, x.f4, x.f5)) (fun t => ⟨t.1, t.2.1, t.2.2.1, t.2.2.2.1, t.2.2.2.2.1, t.2.2.2.2.2⟩) (fun _ => rfl)
  exact h
set_option maxHeartbeats 2000000 in
set_option maxRecDepth 100000 in
theorem lifted (os : Os) (started : os.Started) (H : Type) (enc : TypeId × Value → H) :
    ReturnsInHanded {} Try.checked os 4 .any (Rows.relocMovesSpec.pre6 enc Try.prog Try.f4 Rows.relocMovesRow.domain false) (Rows.relocMovesSpec.post enc Try.prog Try.f4 false true false false) := by
  refine returnsInHanded_of_change_sized (C := Try.checked) own started (by kernel_rfl) Try.func4
    (ChangeSpec.witness6 (enc := enc) (C := Try.checked) false ⟨#[], #[.agg #[.int .u64 0, .int .i64 0, .int .i64 0, .int .i64 0], .int .u64 0, .agg #[.int .u64 0, .int .u64 0, .int .i64 0, .int .u64 0, .bool false, .int .u64 0], .int .u64 0], []⟩ 8 (by kernel_rfl) (by kernel_rfl) (by kernel_rfl) (by kernel_rfl)) ?_
  intro W base args ds gs before hval0 hW hcnd hsz0 _
  have hsz : (DataW.weightsEach Try.prog (Try.f4.params.toList ++ Rows.relocMovesSpec.plain.varTypes Try.prog) (ds ++ gs)).all (· ≤ reachBytes) = true := hsz0
  have hval : ∀ (j : Nat) t v, Try.f4.params[j]? = some t → args[j]? = some v → Value.okWide Try.prog W .any base t v := hval0
  have hW' := hW
  obtain ⟨p, q, hA0, hV, rfl, hfz, hnd⟩ := hW
  have hA : DataW.TrodAll enc Try.prog W 0 (fun _ => true) true Try.f4.params.toList args.toList ds p := hA0
  rw [Try.params4] at hA hval hsz
  obtain ⟨v0, vs0, d0, ds0, p0, q0, hargs, rfl, rfl, h0, r0⟩ := trodAll_cons hA
  obtain ⟨v1, vs1, d1, ds1, p1, q1, rfl, rfl, rfl, h1, r1⟩ := trodAll_cons r0
  obtain ⟨v2, vs2, d2, ds2, p2, q2, rfl, rfl, rfl, h2, r2⟩ := trodAll_cons r1
  obtain ⟨v3, vs3, d3, ds3, p3, q3, rfl, rfl, rfl, h3, r3⟩ := trodAll_cons r2
  obtain ⟨rfl, rfl, rfl⟩ := trodAll_nil r3
  obtain rfl : args = #[v0, v1, v2, v3] := by cases args; simp_all
  obtain ⟨rfl, rfl⟩ := trodVars_none hV
  have k0 := h0
  have lt0 : ∀ x ∈ p0, x.block < W.heap.size := by obtain ⟨m, hm⟩ := k0; exact DataW.trod_lt m _ _ _ hm
  obtain ⟨fuel0, hf0⟩ := h0
  obtain ⟨x0, hK0, hg0, hb0, hz0⟩ := fits24.op hf0
  have hZ0 := hz0 (fun n hn => by have := List.all_eq_true.1 hsz n (DataW.weights_mem_each (j := 0) (t := 24) (d := d0) rfl rfl n hn); simpa using this)
  clear hz0 hf0
  obtain ⟨cs0, rfl⟩ := agg_of_okWide Try.underlying24 (hval 0 24 v0 rfl rfl)
  obtain ⟨a0_0, a0_1, a0_2, a0_3⟩ := x0
  have hO0 := k24_open hK0
  dsimp only at hO0
  have hcs0 := hO0
  obtain rfl : cs0 = #[.int .u64 a0_0, .int .i64 a0_1, .int .i64 a0_2, .int .i64 a0_3] := by cases cs0; simpa [Value.cells] using hcs0
  dsimp only [g24, b24, z_24] at hg0 hb0 hZ0
  have k1 := h1
  have lt1 : ∀ x ∈ p1, x.block < W.heap.size := by obtain ⟨m, hm⟩ := k1; exact DataW.trod_lt m _ _ _ hm
  obtain ⟨fuel1, hf1⟩ := h1
  obtain ⟨x1, hK1, hg1, hb1, hz1⟩ := (Fits.int .u64 Try.underlying22 (by kernel_rfl)).op hf1
  have hZ1 := hz1 (fun n hn => by have := List.all_eq_true.1 hsz n (DataW.weights_mem_each (j := 1) (t := 22) (d := d1) rfl rfl n hn); simpa using this)
  clear hz1 hf1
  obtain ⟨y1, rfl, -, -, -⟩ := open_int Try.underlying22 (hval 1 22 v1 rfl rfl) k1
  obtain rfl : x1 = y1 := Eq.symm (by simpa [Kd.int, Kd.scalar, Value.cells] using hK1)
  have k2 := h2
  have lt2 : ∀ x ∈ p2, x.block < W.heap.size := by obtain ⟨m, hm⟩ := k2; exact DataW.trod_lt m _ _ _ hm
  obtain ⟨fuel2, hf2⟩ := h2
  obtain ⟨x2, hK2, hg2, hb2, hz2⟩ := fits26.op hf2
  have hZ2 := hz2 (fun n hn => by have := List.all_eq_true.1 hsz n (DataW.weights_mem_each (j := 2) (t := 26) (d := d2) rfl rfl n hn); simpa using this)
  clear hz2 hf2
  obtain ⟨cs2, rfl⟩ := agg_of_okWide Try.underlying26 (hval 2 26 v2 rfl rfl)
  obtain ⟨a2_0, a2_1, a2_2, a2_3, a2_4, a2_5⟩ := x2
  have hO2 := k26_open hK2
  dsimp only at hO2
  have hcs2 := hO2
  obtain rfl : cs2 = #[.int .u64 a2_0, .int .u64 a2_1, .int .i64 a2_2, .int .u64 a2_3, .bool a2_4, .int .u64 a2_5] := by cases cs2; simpa [Value.cells] using hcs2
  dsimp only [g26, b26, z_26] at hg2 hb2 hZ2
  have k3 := h3
  have lt3 : ∀ x ∈ p3, x.block < W.heap.size := by obtain ⟨m, hm⟩ := k3; exact DataW.trod_lt m _ _ _ hm
  obtain ⟨fuel3, hf3⟩ := h3
  obtain ⟨x3, hK3, hg3, hb3, hz3⟩ := (Fits.int .u64 Try.underlying22 (by kernel_rfl)).op hf3
  have hZ3 := hz3 (fun n hn => by have := List.all_eq_true.1 hsz n (DataW.weights_mem_each (j := 3) (t := 22) (d := d3) rfl rfl n hn); simpa using this)
  clear hz3 hf3
  obtain ⟨y3, rfl, -, -, -⟩ := open_int Try.underlying22 (hval 3 22 v3 rfl rfl) k3
  obtain rfl : x3 = y3 := Eq.symm (by simpa [Kd.int, Kd.scalar, Value.cells] using hK3)
  clear hA0 hval0 hsz0 hsz
  have hP := Pure.RelocMoves a0_0 a0_1 a0_2 a0_3 x1 a2_0 a2_1 a2_2 a2_3 a2_4 a2_5 x3 hg0.1 hg0.2.1 hg0.2.2.1 hg0.2.2.2 hg1 hg2.1 hg2.2.1 hg2.2.2.1 hg2.2.2.2.1 hg2.2.2.2.2.2 hg3
  obtain ⟨k, hP⟩ := hP
  refine (shacklelaw19_RelocMoves.calls k a0_0 a0_1 a0_2 a0_3 x1 a2_0 a2_1 a2_2 a2_3 a2_4 a2_5 x3 true W  hP).mono fun e W' ⟨he, bel0⟩ => ?_
  have bel := bel0
  subst he
  exact ⟨_, rfl, _, _, _, [], _, [], hW', trodAll_mk1 (shut_bool Try.underlying4 _), (trodAll_cons_mk (Below.trod laidOut (by kernel_rfl) (of_decide_eq_true (by kernel_rfl)) k0 bel lt0) (trodAll_cons_mk (Below.trod laidOut (by kernel_rfl) (of_decide_eq_true (by kernel_rfl)) k1 bel lt1) (trodAll_cons_mk (Below.trod laidOut (by kernel_rfl) (of_decide_eq_true (by kernel_rfl)) k2 bel lt2) (trodAll_cons_mk (Below.trod laidOut (by kernel_rfl) (of_decide_eq_true (by kernel_rfl)) k3 bel lt3) trodAll_mk0)))), rfl, bel.frame _, fun h => by cases h⟩
theorem over : Rows.relocMovesRow.holds Try.pinned (OpenSpec.ofChange Rows.relocMovesSpec) :=
  OpenClaim.holds_of_wide 4 Try.f4 rfl rfl rfl rfl rfl rfl rfl ⟨rfl, rfl, rfl, rfl, rfl⟩ rfl rfl rfl rfl rfl (by kernel_rfl) Try.func4 (by kernel_rfl)
    (of_decide_eq_true (by kernel_rfl)) (by unfold Func.isWrapper; first | (rw [if_pos (by decide +kernel)]; kernel_rfl) | (rw [if_neg (by decide +kernel)]; exact ⟨rfl, rfl⟩))
    (fun os started H enc _ => lifted os started H enc)
theorem proved : Rows.RelocMovesSaid := over
#print axioms proved
end Go.Proofs.Ythhlnhbmjkjmlaa.relocMoves
namespace Go.Proofs.Ythhlnhbmjkjmlaa
/-- The row, under a short name, for the claim. -/
theorem relocMoves_holds : Rows.RelocMovesSaid := relocMoves.proved
end Go.Proofs.Ythhlnhbmjkjmlaa
