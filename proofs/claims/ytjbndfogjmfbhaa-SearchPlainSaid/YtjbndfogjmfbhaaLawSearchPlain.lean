/- The row of the law shacklelaw14.SearchPlain (the first form): for every input the call returns true and every argument reads afterwards as it read before; out of its pure statement and the printed walk; no condition. -/
import Derived.Test.YtjbndfogjmfbhaaRows
import Derived.Test.YtjbndfogjmfbhaaXOpen
import Derived.Test.YtjbndfogjmfbhaaPSearchPlainx3
import Derived.Test.YtjbndfogjmfbhaaPureSearchPlain
import Derived.WalkKit
import Derived.ProofKit
import Derived.OpenShut
import Derived.ShutString
import Derived.ChangeOld
import Derived.Below
import Derived.SizedLaws
import Derived.JoinedCond
import Derived.Deep.CondSized
namespace Go.Proofs.Ytjbndfogjmfbhaa.searchPlain
open Go.ChangeShapes Go.WideShapes Go.ChangeAt Go.RowKit
open Go.ChangeMaps (open_string shut_string)
open Go.Proofs.Ytjbndfogjmfbhaa.PSearchPlain Go.Proofs.YtjbndfogjmfbhaaW.PrintWords Go.Proofs.YtjbndfogjmfbhaaX
set_option linter.unusedVariables false
theorem own : ownKnob Try.prog.godebug = none := by kernel_rfl
theorem laidOut : laidOutB Try.prog = true := by kernel_rfl
set_option maxHeartbeats 2000000 in
set_option maxRecDepth 100000 in
theorem lifted (os : Os) (started : os.Started) (H : Type) (enc : TypeId × Value → H) :
    ReturnsInHanded {} Try.checked os 4 .any (Rows.searchPlainSpec.pre6 enc Try.prog Try.f4 Rows.searchPlainRow.domain false) (Rows.searchPlainSpec.post enc Try.prog Try.f4 false true false false) := by
  refine returnsInHanded_of_change_sized (C := Try.checked) own started (by kernel_rfl) Try.func4
    (ChangeSpec.witness6 (enc := enc) (C := Try.checked) false ⟨#[], #[.string ByteArray.empty, .string ByteArray.empty], []⟩ 8 (by kernel_rfl) (by kernel_rfl) (by kernel_rfl) (by kernel_rfl)) ?_
  intro W base args ds gs before hval0 hW hcnd hsz0 _
  have hsz : (DataW.weightsEach Try.prog (Try.f4.params.toList ++ Rows.searchPlainSpec.plain.varTypes Try.prog) (ds ++ gs)).all (· ≤ reachBytes) = true := hsz0
  have hval : ∀ (j : Nat) t v, Try.f4.params[j]? = some t → args[j]? = some v → Value.okWide Try.prog W .any base t v := hval0
  have hW' := hW
  obtain ⟨p, q, hA0, hV, rfl, hfz, hnd⟩ := hW
  have hA : DataW.TrodAll enc Try.prog W 0 (fun _ => true) true Try.f4.params.toList args.toList ds p := hA0
  rw [Try.params4] at hA hval hsz
  obtain ⟨v0, vs0, d0, ds0, p0, q0, hargs, rfl, rfl, h0, r0⟩ := trodAll_cons hA
  obtain ⟨v1, vs1, d1, ds1, p1, q1, rfl, rfl, rfl, h1, r1⟩ := trodAll_cons r0
  obtain ⟨rfl, rfl, rfl⟩ := trodAll_nil r1
  obtain rfl : args = #[v0, v1] := by cases args; simp_all
  obtain ⟨rfl, rfl⟩ := trodVars_none hV
  have k0 := h0
  have lt0 : ∀ x ∈ p0, x.block < W.heap.size := by obtain ⟨m, hm⟩ := k0; exact DataW.trod_lt m _ _ _ hm
  obtain ⟨fuel0, hf0⟩ := h0
  obtain ⟨x0, hK0, hg0, hb0, hz0⟩ := (Fits.string Try.underlying9 (by kernel_rfl)).op hf0
  have hZ0 : zS x0 := hz0 (fun n hn => by have := List.all_eq_true.1 hsz n (DataW.weights_mem_each (j := 0) (t := 9) (d := d0) rfl rfl n hn); simpa using this)
  clear hz0 hf0
  obtain ⟨y0, rfl, -, -, -⟩ := open_string Try.underlying9 (hval 0 9 v0 rfl rfl) k0
  obtain rfl : x0 = y0 := Eq.symm (by simpa [Kd.string, Kd.scalar, Value.cells] using hK0)
  have k1 := h1
  have lt1 : ∀ x ∈ p1, x.block < W.heap.size := by obtain ⟨m, hm⟩ := k1; exact DataW.trod_lt m _ _ _ hm
  obtain ⟨fuel1, hf1⟩ := h1
  obtain ⟨x1, hK1, hg1, hb1, hz1⟩ := (Fits.string Try.underlying9 (by kernel_rfl)).op hf1
  have hZ1 : zS x1 := hz1 (fun n hn => by have := List.all_eq_true.1 hsz n (DataW.weights_mem_each (j := 1) (t := 9) (d := d1) rfl rfl n hn); simpa using this)
  clear hz1 hf1
  obtain ⟨y1, rfl, -, -, -⟩ := open_string Try.underlying9 (hval 1 9 v1 rfl rfl) k1
  obtain rfl : x1 = y1 := Eq.symm (by simpa [Kd.string, Kd.scalar, Value.cells] using hK1)
  clear hA0 hval0 hsz0 hsz
  have hP := Pure.SearchPlain x0 x1 hZ0 hZ1
  obtain ⟨k, hP⟩ := hP
  refine (shacklelaw14_SearchPlain.calls k x0 x1 true W  hP).mono fun e W' ⟨he, bel0⟩ => ?_
  have bel := bel0
  subst he
  exact ⟨_, rfl, _, _, _, [], _, [], hW', trodAll_mk1 (shut_bool Try.underlying4 _), (trodAll_cons_mk (Below.trod laidOut (by kernel_rfl) (of_decide_eq_true (by kernel_rfl)) k0 bel lt0) (trodAll_cons_mk (Below.trod laidOut (by kernel_rfl) (of_decide_eq_true (by kernel_rfl)) k1 bel lt1) trodAll_mk0)), rfl, bel.frame _, fun h => by cases h⟩
theorem over : Rows.searchPlainRow.holds Try.pinned (OpenSpec.ofChange Rows.searchPlainSpec) :=
  OpenClaim.holds_of_wide 4 Try.f4 rfl rfl rfl rfl rfl rfl rfl ⟨rfl, rfl, rfl, rfl, rfl⟩ rfl rfl rfl rfl rfl (by kernel_rfl) Try.func4 (by kernel_rfl)
    (of_decide_eq_true (by kernel_rfl)) (by unfold Func.isWrapper; first | (rw [if_pos (by decide +kernel)]; kernel_rfl) | (rw [if_neg (by decide +kernel)]; exact ⟨rfl, rfl⟩))
    (fun os started H enc _ => lifted os started H enc)
theorem proved : Rows.SearchPlainSaid := over
#print axioms proved
end Go.Proofs.Ytjbndfogjmfbhaa.searchPlain
namespace Go.Proofs.Ytjbndfogjmfbhaa
/-- The row, under a short name, for the claim. -/
theorem searchPlain_holds : Rows.SearchPlainSaid := searchPlain.proved
end Go.Proofs.Ytjbndfogjmfbhaa
