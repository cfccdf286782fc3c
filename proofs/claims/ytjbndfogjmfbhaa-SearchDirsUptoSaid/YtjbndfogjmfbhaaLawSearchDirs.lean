/- The row of the law shacklelaw14.SearchDirs (the second form): for every input the call returns true and every argument reads afterwards as it read before; out of its pure statement and the printed walk; condition: the arguments together hold at most 1048576 values and letters. -/
import Derived.Test.YtjbndfogjmfbhaaRows
import Derived.Test.YtjbndfogjmfbhaaXOpen
import Derived.Test.YtjbndfogjmfbhaaPSearchDirsx8
import Derived.Test.YtjbndfogjmfbhaaPureSearchDirs
import Derived.WalkKit
import Derived.ProofKit
import Derived.OpenShut
import Derived.ShutString
import Derived.ChangeOld
import Derived.Below
import Derived.SizedLaws
import Derived.JoinedCond
import Derived.Deep.CondSized
namespace Go.Proofs.Ytjbndfogjmfbhaa.searchDirs
open Go.ChangeShapes Go.WideShapes Go.ChangeAt Go.RowKit
open Go.ChangeMaps (open_string shut_string)
open Go.Proofs.Ytjbndfogjmfbhaa.PSearchDirs Go.Proofs.YtjbndfogjmfbhaaW.PrintWords Go.Proofs.YtjbndfogjmfbhaaX
set_option linter.unusedVariables false
theorem own : ownKnob Try.prog.godebug = none := by kernel_rfl
theorem laidOut : laidOutB Try.prog = true := by kernel_rfl
set_option maxRecDepth 100000 in
theorem fits58 : Fits Try.prog 58 k58 g58 b58 z_58 := by
  have h := Fits.struct (P := Try.prog) (T := 58) Try.underlying58 rfl (by kernel_rfl) (FitsF.cons (Fits.string Try.underlying9 (by kernel_rfl)) rfl (FitsF.cons (Fits.string Try.underlying9 (by kernel_rfl)) rfl (FitsF.cons (Fits.string Try.underlying9 (by kernel_rfl)) rfl (FitsF.cons (Fits.bool Try.underlying4 (by kernel_rfl)) rfl (FitsF.last (Fits.bool Try.underlying4 (by kernel_rfl)) rfl) rfl) rfl) rfl) rfl) (fun x : S58 => (x.f0, x.f1, x.f2, x.f3, x.f4)) (fun t => ⟨t.1, t.2.1, t.2.2.1, t.2.2.2.1, t.2.2.2.2⟩) (fun _ => rfl)
  exact h
set_option maxRecDepth 100000 in
theorem fits24 : Fits Try.prog 24 k24 g24 b24 z_24 := by
  have h := Fits.struct (P := Try.prog) (T := 24) Try.underlying24 rfl (by kernel_rfl) (FitsF.cons (Fits.string Try.underlying9 (by kernel_rfl)) rfl (FitsF.cons (Fits.slice (B := 56) fits58 Try.underlying22 (by kernel_rfl) (by kernel_rfl)) rfl (FitsF.cons (Fits.string Try.underlying9 (by kernel_rfl)) rfl (FitsF.last (Fits.bool Try.underlying4 (by kernel_rfl)) rfl) rfl) rfl) rfl) (fun x : S24 => (x.f0, x.f1, x.f2, x.f3)) (fun t => ⟨t.1, t.2.1, t.2.2.1, t.2.2.2⟩) (fun _ => rfl)
  exact h
set_option maxHeartbeats 2000000 in
set_option maxRecDepth 100000 in
theorem lifted (os : Os) (started : os.Started) (H : Type) (enc : TypeId × Value → H) (F : Stop.Interp) :
    ReturnsInHanded {} Try.checked os 3 .any ((Rows.OpenSpec.upto Rows.searchDirsSpec).pre6 enc Try.prog Try.f3 Rows.searchDirsUptoRow.domain false) (((Rows.OpenSpec.upto Rows.searchDirsSpec).at F).post enc Try.prog Try.f3 false true false false) := by
  refine returnsInHanded_of_cond_sized (C := Try.checked) (s := Rows.OpenSpec.upto Rows.searchDirsSpec) (k := Rows.uptoSmall) rfl own started (by kernel_rfl) Try.func3
    (OpenSpec.witness (enc := enc) (C := Try.checked) (s := Rows.OpenSpec.upto Rows.searchDirsSpec) (k := Rows.uptoSmall) rfl false ⟨#[], #[.agg #[.string ByteArray.empty, .slice none 0 0, .string ByteArray.empty, .bool false]], []⟩ 8 (by kernel_rfl) (by kernel_rfl) (by kernel_rfl)
      (x := ([.agg [.lit (.string []), .nil, .lit (.string []), .lit (.bool false)]], [], [])) (by kernel_rfl) rfl (by kernel_rfl)) ?_
  intro W base args ds gs before hval0 hW hcnd hk hsz0 _
  have hsz : (DataW.weightsEach Try.prog (Try.f3.params.toList ++ Rows.searchDirsSpec.plain.varTypes Try.prog) (ds ++ gs)).all (· ≤ reachBytes) = true := hsz0
  have hval : ∀ (j : Nat) t v, Try.f3.params[j]? = some t → args[j]? = some v → Value.okWide Try.prog W .any base t v := hval0
  have hW' := hW
  obtain ⟨p, q, hA0, hV, rfl, hfz, hnd⟩ := hW
  have hA : DataW.TrodAll enc Try.prog W 0 (fun _ => true) true Try.f3.params.toList args.toList ds p := hA0
  rw [Try.params3] at hA hval hsz
  obtain ⟨v0, vs0, d0, ds0, p0, q0, hargs, rfl, rfl, h0, r0⟩ := trodAll_cons hA
  obtain ⟨rfl, rfl, rfl⟩ := trodAll_nil r0
  obtain rfl : args = #[v0] := by cases args; simp_all
  obtain ⟨rfl, rfl⟩ := trodVars_none hV
  have hkb : Rows.uptoBulk d0 + (0) ≤ 1048576 := by
    have := of_decide_eq_true hk
    simpa [Rows.uptoBulkAll] using this
  have k0 := h0
  have lt0 : ∀ x ∈ p0, x.block < W.heap.size := by obtain ⟨m, hm⟩ := k0; exact DataW.trod_lt m _ _ _ hm
  obtain ⟨fuel0, hf0⟩ := h0
  obtain ⟨x0, hK0, hg0, hb0, hz0⟩ := fits24.op hf0
  have hZ0 : z_24 x0 := hz0 (fun n hn => by have := List.all_eq_true.1 hsz n (DataW.weights_mem_each (j := 0) (t := 24) (d := d0) rfl rfl n hn); simpa using this)
  clear hz0 hf0
  obtain ⟨cs0, rfl⟩ := agg_of_okWide Try.underlying24 (hval 0 24 v0 rfl rfl)
  obtain ⟨a0_0, l0_1, a0_2, a0_3⟩ := x0
  have hO0 := k24_open hK0
  dsimp only at hO0
  obtain ⟨A0_1, c0_1, hcs0, hc0_1, hr0_1⟩ := hO0
  obtain rfl : cs0 = #[.string a0_0, .slice A0_1 l0_1.length c0_1, .string a0_2, .bool a0_3] := by cases cs0; simpa [Value.cells] using hcs0
  dsimp only [g24, b24, z_24] at hg0 hb0 hZ0
  clear hA0 hval0 hsz0 hsz
  have hP := Pure.SearchDirs a0_0 l0_1 a0_2 a0_3 hZ0.1 hg0.2.1 hZ0.2.1 hZ0.2.2.1 (by first | (simp only [b1] at *; omega) | omega)
  obtain ⟨k, hP⟩ := hP
  refine (shacklelaw14_SearchDirs.calls k a0_0 _ _ l0_1 a0_2 a0_3 true W hr0_1 hc0_1 hP).mono fun e W' ⟨he, bel0⟩ => ?_
  have bel := bel0
  subst he
  exact ⟨_, rfl, _, _, _, [], _, [], hW', trodAll_mk1 (shut_bool Try.underlying4 _), (trodAll_cons_mk (Below.trod laidOut (by kernel_rfl) (of_decide_eq_true (by kernel_rfl)) k0 bel lt0) trodAll_mk0), rfl, bel.frame _, fun h => by cases h⟩
theorem over : Rows.searchDirsUptoRow.holds Try.pinned (Rows.OpenSpec.upto Rows.searchDirsSpec) :=
  OpenClaim.holds_of_cond 3 Try.f3 rfl rfl rfl rfl rfl rfl rfl ⟨rfl, rfl, rfl, rfl, rfl⟩ rfl rfl rfl rfl rfl (by kernel_rfl) Try.func3 (by kernel_rfl)
    (of_decide_eq_true (by kernel_rfl)) (by unfold Func.isWrapper; first | (rw [if_pos (by decide +kernel)]; kernel_rfl) | (rw [if_neg (by decide +kernel)]; exact ⟨rfl, rfl⟩))
    (fun os started H enc _ F => lifted os started H enc F)
theorem proved : Rows.SearchDirsUptoSaid := over
#print axioms proved
end Go.Proofs.Ytjbndfogjmfbhaa.searchDirs
namespace Go.Proofs.Ytjbndfogjmfbhaa
/-- The row, under a short name, for the claim. -/
theorem searchDirs_holds : Rows.SearchDirsUptoSaid := searchDirs.proved
end Go.Proofs.Ytjbndfogjmfbhaa
