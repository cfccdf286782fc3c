/- The row of the law shacklelaw09.RelsBits (the first form): for every input the call returns true and every argument reads afterwards as it read before; out of its pure statement and the printed walk; no condition. -/
import Derived.Test.YthhlnhbmjkjmlaaRows
import Derived.Test.YthhlnhbmjkjmlaaXOpen
import Derived.Test.YthhlnhbmjkjmlaaPRelsBitsx3
import Derived.Test.YthhlnhbmjkjmlaaPureRelsBits
import Derived.WalkKit
import Derived.ProofKit
import Derived.OpenShut
import Derived.ShutString
import Derived.ChangeOld
import Derived.Below
import Derived.SizedLaws
import Derived.JoinedCond
import Derived.Deep.CondSized
namespace Go.Proofs.Ythhlnhbmjkjmlaa.relsBits
open Go.ChangeShapes Go.WideShapes Go.ChangeAt Go.RowKit
open Go.ChangeMaps (open_string shut_string)
open Go.Proofs.Ythhlnhbmjkjmlaa.PRelsBits Go.Proofs.YthhlnhbmjkjmlaaW.PrintWords Go.Proofs.YthhlnhbmjkjmlaaX
set_option linter.unusedVariables false
theorem own : ownKnob Try.prog.godebug = none := by kernel_rfl
theorem laidOut : laidOutB Try.prog = true := by kernel_rfl
set_option maxHeartbeats 2000000 in
set_option maxRecDepth 100000 in
theorem lifted (os : Os) (started : os.Started) (H : Type) (enc : TypeId × Value → H) :
    ReturnsInHanded {} Try.checked os 5 .any (Rows.relsBitsSpec.pre6 enc Try.prog Try.f5 Rows.relsBitsRow.domain false) (Rows.relsBitsSpec.post enc Try.prog Try.f5 false true false false) := by
  refine returnsInHanded_of_change_sized (C := Try.checked) own started (by kernel_rfl) Try.func5
    (ChangeSpec.witness6 (enc := enc) (C := Try.checked) false ⟨#[], #[.int .u64 0, .int .u64 0], []⟩ 8 (by kernel_rfl) (by kernel_rfl) (by kernel_rfl) (by kernel_rfl)) ?_
  intro W base args ds gs before hval0 hW hcnd hsz0 _
  have hsz : (DataW.weightsEach Try.prog (Try.f5.params.toList ++ Rows.relsBitsSpec.plain.varTypes Try.prog) (ds ++ gs)).all (· ≤ reachBytes) = true := hsz0
  have hval : ∀ (j : Nat) t v, Try.f5.params[j]? = some t → args[j]? = some v → Value.okWide Try.prog W .any base t v := hval0
  have hW' := hW
  obtain ⟨p, q, hA0, hV, rfl, hfz, hnd⟩ := hW
  have hA : DataW.TrodAll enc Try.prog W 0 (fun _ => true) true Try.f5.params.toList args.toList ds p := hA0
  rw [Try.params5] at hA hval hsz
  obtain ⟨v0, vs0, d0, ds0, p0, q0, hargs, rfl, rfl, h0, r0⟩ := trodAll_cons hA
  obtain ⟨v1, vs1, d1, ds1, p1, q1, rfl, rfl, rfl, h1, r1⟩ := trodAll_cons r0
  obtain ⟨rfl, rfl, rfl⟩ := trodAll_nil r1
  obtain rfl : args = #[v0, v1] := by cases args; simp_all
  obtain ⟨rfl, rfl⟩ := trodVars_none hV
  have k0 := h0
  have lt0 : ∀ x ∈ p0, x.block < W.heap.size := by obtain ⟨m, hm⟩ := k0; exact DataW.trod_lt m _ _ _ hm
  obtain ⟨fuel0, hf0⟩ := h0
  obtain ⟨x0, hK0, hg0, hb0, hz0⟩ := (Fits.int .u64 Try.underlying22 (by kernel_rfl)).op hf0
  have hZ0 : zT x0 := hz0 (fun n hn => by have := List.all_eq_true.1 hsz n (DataW.weights_mem_each (j := 0) (t := 22) (d := d0) rfl rfl n hn); simpa using this)
  clear hz0 hf0
  obtain ⟨y0, rfl, -, -, -⟩ := open_int Try.underlying22 (hval 0 22 v0 rfl rfl) k0
  obtain rfl : x0 = y0 := Eq.symm (by simpa [Kd.int, Kd.scalar, Value.cells] using hK0)
  have k1 := h1
  have lt1 : ∀ x ∈ p1, x.block < W.heap.size := by obtain ⟨m, hm⟩ := k1; exact DataW.trod_lt m _ _ _ hm
  obtain ⟨fuel1, hf1⟩ := h1
  obtain ⟨x1, hK1, hg1, hb1, hz1⟩ := (Fits.int .u64 Try.underlying22 (by kernel_rfl)).op hf1
  have hZ1 : zT x1 := hz1 (fun n hn => by have := List.all_eq_true.1 hsz n (DataW.weights_mem_each (j := 1) (t := 22) (d := d1) rfl rfl n hn); simpa using this)
  clear hz1 hf1
  obtain ⟨y1, rfl, -, -, -⟩ := open_int Try.underlying22 (hval 1 22 v1 rfl rfl) k1
  obtain rfl : x1 = y1 := Eq.symm (by simpa [Kd.int, Kd.scalar, Value.cells] using hK1)
  clear hA0 hval0 hsz0 hsz
  have hP := Pure.RelsBits x0 x1 hg0 hg1
  obtain ⟨k, hP⟩ := hP
  refine (shacklelaw09_RelsBits.calls k x0 x1 true W  hP).mono fun e W' ⟨he, bel0⟩ => ?_
  have bel := bel0
  subst he
  exact ⟨_, rfl, _, _, _, [], _, [], hW', trodAll_mk1 (shut_bool Try.underlying4 _), (trodAll_cons_mk (Below.trod laidOut (by kernel_rfl) (of_decide_eq_true (by kernel_rfl)) k0 bel lt0) (trodAll_cons_mk (Below.trod laidOut (by kernel_rfl) (of_decide_eq_true (by kernel_rfl)) k1 bel lt1) trodAll_mk0)), rfl, bel.frame _, fun h => by cases h⟩
theorem over : Rows.relsBitsRow.holds Try.pinned (OpenSpec.ofChange Rows.relsBitsSpec) :=
  OpenClaim.holds_of_wide 5 Try.f5 rfl rfl rfl rfl rfl rfl rfl ⟨rfl, rfl, rfl, rfl, rfl⟩ rfl rfl rfl rfl rfl (by kernel_rfl) Try.func5 (by kernel_rfl)
    (of_decide_eq_true (by kernel_rfl)) (by unfold Func.isWrapper; first | (rw [if_pos (by decide +kernel)]; kernel_rfl) | (rw [if_neg (by decide +kernel)]; exact ⟨rfl, rfl⟩))
    (fun os started H enc _ => lifted os started H enc)
theorem proved : Rows.RelsBitsSaid := over
#print axioms proved
end Go.Proofs.Ythhlnhbmjkjmlaa.relsBits
namespace Go.Proofs.Ythhlnhbmjkjmlaa
/-- The row, under a short name, for the claim. -/
theorem relsBits_holds : Rows.RelsBitsSaid := relsBits.proved
end Go.Proofs.Ythhlnhbmjkjmlaa
