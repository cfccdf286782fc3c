/- The row of the law shacklelaw04.HeadNotes (the second form): for every input the call returns true and every argument reads afterwards as it read before; out of its pure statement and the printed walk; condition: the arguments together hold at most 1048576 values and letters. -/
import Derived.Test.YtjohdgejjnbddaaDoorRows
import Derived.Test.YtjohdgejjnbddaaDoorXOpen
import Derived.Test.YtjohdgejjnbddaaDoorPHeadNotesx11
import Derived.Test.YtjohdgejjnbddaaDoorPureHeadNotes
import Derived.Test.YtjohdgejjnbddaaDoorXLaid
import Derived.Test.YtjohdgejjnbddaaDoorTie
import Derived.Test.YtjohdgejjnbddaaDoorCards
import Derived.Test.YtjohdgejjnbddaaDoorXUpto
import Derived.WalkKit
import Derived.ProofKit
import Derived.OpenShut
import Derived.ShutString
import Derived.ChangeOld
import Derived.Below
import Derived.SizedLaws
import Derived.JoinedCond
import Derived.Deep.CondSized
namespace Go.Proofs.YtjohdgejjnbddaaDoor.headNotes
open Go.ChangeShapes Go.WideShapes Go.ChangeAt Go.RowKit
open Go.ChangeMaps (open_string shut_string)
open Go.Proofs.YtjohdgejjnbddaaDoor.PHeadNotes Go.Proofs.YtjohdgejjnbddaaDoorW.PrintWords Go.Proofs.YtjohdgejjnbddaaDoorX
set_option linter.unusedVariables false
theorem own : ownKnob Tryd.prog.godebug = none := by kernel_rfl
theorem laidOut : laidOutB Tryd.prog = true := by kernel_rfl
set_option maxRecDepth 100000 in
theorem fits50 : Fits Tryd.prog 50 k50 g50 b50 z_50 := by
  have h := Fits.struct (P := Tryd.prog) (T := 50) Tryd.underlying50 rfl (by kernel_rfl) (FitsF.cons (Fits.int .u32 Tryd.underlying48 (by kernel_rfl)) rfl (FitsF.cons (Fits.int .u32 Tryd.underlying48 (by kernel_rfl)) rfl (FitsF.cons (Fits.int .u64 Tryd.underlying24 (by kernel_rfl)) rfl (FitsF.cons (Fits.int .u64 Tryd.underlying24 (by kernel_rfl)) rfl (FitsF.cons (Fits.int .u64 Tryd.underlying24 (by kernel_rfl)) rfl (FitsF.cons (Fits.int .u64 Tryd.underlying24 (by kernel_rfl)) rfl (FitsF.last (Fits.int .u64 Tryd.underlying24 (by kernel_rfl)) rfl) rfl) rfl) rfl) rfl) rfl) rfl) (fun x : S50 => (x.f0, x.f1, x.f2, x.f3, x.f4, x.f5, x.f6)) (fun t => ⟨t.1, t.2.1, t.2.2.1, t.2.2.2.1, t.2.2.2.2.1, t.2.2.2.2.2.1, t.2.2.2.2.2.2⟩) (fun _ => rfl)
  exact h
set_option maxRecDepth 100000 in
theorem fits27 : Fits Tryd.prog 27 k27 g27 b27 z_27 := by
  have h := Fits.struct (P := Tryd.prog) (T := 27) Tryd.underlying27 rfl (by kernel_rfl) (FitsF.cons (Fits.int .i64 Tryd.underlying3 (by kernel_rfl)) rfl (FitsF.cons (Fits.int .u64 Tryd.underlying24 (by kernel_rfl)) rfl (FitsF.last (Fits.slice (B := 48) fits50 Tryd.underlying25 (by kernel_rfl) (by kernel_rfl)) rfl) rfl) rfl) (fun x : S27 => (x.f0, x.f1, x.f2)) (fun t => ⟨t.1, t.2.1, t.2.2⟩) (fun _ => rfl)
  exact h
set_option maxHeartbeats 2000000 in
set_option maxRecDepth 100000 in
theorem lifted (os : Os) (started : os.Started) (H : Type) (enc : TypeId × Value → H) (F : Stop.Interp) :
    ReturnsInHanded {} Tryd.checked os 6 .any (fun w args => ((Rows.OpenSpec.upto Rows.headNotesSpec).pre enc Tryd.prog Tryd.f6 [] false w args ∧ laidMetH Tryd.prog [("errors.errorType", Rows.laid_errors_errorType), ("shackle/head.fixed", Rows.laid_shackle_head_fixed)] w) ∧ sizedMet enc Tryd.prog Tryd.f6 (Rows.OpenSpec.upto Rows.headNotesSpec) false w args) (((Rows.OpenSpec.upto Rows.headNotesSpec).at F).post enc Tryd.prog Tryd.f6 false true false false) := by
  refine handed_of_cond_and (C := Tryd.checked) (s := Rows.OpenSpec.upto Rows.headNotesSpec) (k := Rows.uptoSmall) rfl (X := fun w _ => laidMetH Tryd.prog [("errors.errorType", Rows.laid_errors_errorType), ("shackle/head.fixed", Rows.laid_shackle_head_fixed)] w) (fun _ _ _ hh h => h.of_heap hh) own started (by kernel_rfl) Tryd.func6
    (witness_and (enc := enc) (C := Tryd.checked) (os := os) (s := Rows.OpenSpec.upto Rows.headNotesSpec) (k := Rows.uptoSmall) rfl (X := fun w _ => laidMetH Tryd.prog [("errors.errorType", Rows.laid_errors_errorType), ("shackle/head.fixed", Rows.laid_shackle_head_fixed)] w) false (laidWorld os) #[.slice none 0 0, .agg #[.int .i64 0, .int .u64 0, .slice none 0 0]] 8 rfl (by kernel_rfl) (by kernel_rfl) (by kernel_rfl)
      (x := ([.nil, .agg [.lit (.int .i64 0), .lit (.int .u64 0), .nil]], [], [])) (by kernel_rfl) rfl (by kernel_rfl) (by kernel_rfl) (laidWorld_met os _)) ?_
  intro W base args ds gs before hval0 hW hcnd hk hsz0 hL _
  have hG : ErrTy W := errTy_of_laid hL
  have hsz : (DataW.weightsEach Tryd.prog (Tryd.f6.params.toList ++ Rows.headNotesSpec.plain.varTypes Tryd.prog) (ds ++ gs)).all (· ≤ reachBytes) = true := hsz0
  have hval : ∀ (j : Nat) t v, Tryd.f6.params[j]? = some t → args[j]? = some v → Value.okWide Tryd.prog W .any base t v := hval0
  have hW' := hW
  obtain ⟨p, q, hA0, hV, rfl, hfz, hnd⟩ := hW
  have hA : DataW.TrodAll enc Tryd.prog W 0 (fun _ => true) true Tryd.f6.params.toList args.toList ds p := hA0
  rw [Tryd.params6] at hA hval hsz
  obtain ⟨v0, vs0, d0, ds0, p0, q0, hargs, rfl, rfl, h0, r0⟩ := trodAll_cons hA
  obtain ⟨v1, vs1, d1, ds1, p1, q1, rfl, rfl, rfl, h1, r1⟩ := trodAll_cons r0
  obtain ⟨rfl, rfl, rfl⟩ := trodAll_nil r1
  obtain rfl : args = #[v0, v1] := by cases args; simp_all
  obtain ⟨rfl, rfl⟩ := trodVars_none hV
  have hkb : Rows.uptoBulk d0 + (Rows.uptoBulk d1 + (0)) ≤ 1048576 := by
    have := of_decide_eq_true hk
    simpa [Rows.uptoBulkAll] using this
  have k0 := h0
  have lt0 : ∀ x ∈ p0, x.block < W.heap.size := by obtain ⟨m, hm⟩ := k0; exact DataW.trod_lt m _ _ _ hm
  obtain ⟨fuel0, hf0⟩ := h0
  obtain ⟨x0, hK0, hg0, hb0, hz0⟩ := (Fits.slice (B := 1) (Fits.int .u8 Tryd.underlying5 (by kernel_rfl)) Tryd.underlying22 (by kernel_rfl) (by kernel_rfl)).op hf0
  have hZ0 : (zL 1 zT) x0 := hz0 (fun n hn => by have := List.all_eq_true.1 hsz n (DataW.weights_mem_each (j := 0) (t := 22) (d := d0) rfl rfl n hn); simpa using this)
  clear hz0 hf0
  obtain ⟨A0, len0, c0, rfl⟩ := okWide_slice Tryd.underlying22 (hval 0 22 v0 rfl rfl)
  obtain ⟨A0', c0', hcs0, hc0, hr0⟩ := hK0
  simp [Value.cells] at hcs0
  obtain ⟨rfl, rfl, rfl⟩ := hcs0
  have k1 := h1
  have lt1 : ∀ x ∈ p1, x.block < W.heap.size := by obtain ⟨m, hm⟩ := k1; exact DataW.trod_lt m _ _ _ hm
  obtain ⟨fuel1, hf1⟩ := h1
  obtain ⟨x1, hK1, hg1, hb1, hz1⟩ := fits27.op hf1
  have hZ1 : z_27 x1 := hz1 (fun n hn => by have := List.all_eq_true.1 hsz n (DataW.weights_mem_each (j := 1) (t := 27) (d := d1) rfl rfl n hn); simpa using this)
  clear hz1 hf1
  obtain ⟨cs1, rfl⟩ := agg_of_okWide Tryd.underlying27 (hval 1 27 v1 rfl rfl)
  obtain ⟨a1_0, a1_1, l1_2⟩ := x1
  have hO1 := k27_open hK1
  dsimp only at hO1
  obtain ⟨A1_2, c1_2, hcs1, hc1_2, hr1_2⟩ := hO1
  obtain rfl : cs1 = #[.int .i64 a1_0, .int .u64 a1_1, .slice A1_2 l1_2.length c1_2] := by cases cs1; simpa [Value.cells] using hcs1
  dsimp only [g27, b27, z_27] at hg1 hb1 hZ1
  clear hA0 hval0 hsz0 hsz
  have hP := Pure.HeadNotes x0 a1_0 a1_1 l1_2 hg0 hZ0 hg1.1 hg1.2.1 hg1.2.2 hZ1.2.2 (by first | (simp only [b1] at *; omega) | omega)
  obtain ⟨k, hP⟩ := hP
  refine (shacklelaw04_HeadNotes.calls k _ _ x0 a1_0 a1_1 _ _ l1_2 true W hG hr0 hc0 hr1_2 hc1_2 hP).mono fun e W' ⟨he, bel0⟩ => ?_
  have bel := bel0
  subst he
  exact ⟨_, rfl, _, _, _, [], _, [], hW', trodAll_mk1 (shut_bool Tryd.underlying4 _), (trodAll_cons_mk (Below.trod laidOut (by kernel_rfl) (of_decide_eq_true (by kernel_rfl)) k0 bel lt0) (trodAll_cons_mk (Below.trod laidOut (by kernel_rfl) (of_decide_eq_true (by kernel_rfl)) k1 bel lt1) trodAll_mk0)), rfl, bel.frame _, fun h => by cases h⟩
theorem over : Rows.headNotesUptoRow.holds Tryd.pinned (Rows.OpenSpec.upto Rows.headNotesSpec) :=
  OpenClaim.holds_of_cond 6 Tryd.f6 rfl rfl rfl rfl rfl rfl rfl ⟨rfl, rfl, rfl, rfl, rfl⟩ rfl rfl rfl rfl rfl (by kernel_rfl) Tryd.func6 (by kernel_rfl)
    (of_decide_eq_true (by kernel_rfl)) (by unfold Func.isWrapper; first | (rw [if_pos (by decide +kernel)]; kernel_rfl) | (rw [if_neg (by decide +kernel)]; exact ⟨rfl, rfl⟩))
    (fun os started H enc _ F => lifted os started H enc F)
/-- The tied card. -/
theorem card : Rows.HeadNotesUptoCardSaid :=
  Claim7.holds_tied_plain_at .later [] [.handle, .data] true (true, "25d8ed7c2913a061bcfa6f58f24de149120174f3c99774ccfb8b6b3d9f623a91") true
    over (fun _ h => by cases h) (by kernel_rfl) (fun _ h => by cases h) headNotesUpto_row_tie rfl ⟨rfl, rfl⟩ (by kernel_rfl) rfl
    (fun f fn hf hfn => by
      obtain rfl : f = 6 := Option.some.inj ((show Tryd.prog.funcNamed "shackle/shacklelaw04.HeadNotes" = some 6 by kernel_rfl).symm.trans hf) |>.symm
      obtain rfl : fn = Tryd.f6 := (Option.some.inj (Tryd.func6.symm.trans hfn)).symm
      exact ⟨by kernel_rfl, fun j t ht => by
        rw [Tryd.params6] at ht
        have hall : ∀ t ∈ ([22, 27] : List TypeId), Tryd.prog.wantsStandIn t = false := by
          intro t ht; simp only [List.mem_cons, List.not_mem_nil, or_false] at ht
          rcases ht with rfl | rfl <;> kernel_rfl
        exact hall t (List.mem_of_getElem? (l := [22, 27]) (i := j) (by simpa using ht))⟩)
    (by kernel_rfl)
theorem proved : Rows.HeadNotesUptoCardSaid := card
#print axioms proved
end Go.Proofs.YtjohdgejjnbddaaDoor.headNotes
namespace Go.Proofs.YtjohdgejjnbddaaDoor
/-- The tied card, under a short name, for the claim. -/
theorem headNotes_holds : Rows.HeadNotesUptoCardSaid := headNotes.proved
end Go.Proofs.YtjohdgejjnbddaaDoor
