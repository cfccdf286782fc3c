/- The row of the law shacklelaw04.HeadBack (the first form): for every input the call returns true and every argument reads afterwards as it read before; out of its pure statement and the printed walk; no condition. -/
import Derived.Test.YtjohdgejjnbddaaDoorRows
import Derived.Test.YtjohdgejjnbddaaDoorXOpen
import Derived.Test.YtjohdgejjnbddaaDoorPHeadBackx9
import Derived.Test.YtjohdgejjnbddaaDoorPureHeadBack
import Derived.Test.YtjohdgejjnbddaaDoorXLaid
import Derived.Test.YtjohdgejjnbddaaDoorTie
import Derived.Test.YtjohdgejjnbddaaDoorCards
import Derived.WalkKit
import Derived.ProofKit
import Derived.OpenShut
import Derived.ShutString
import Derived.ChangeOld
import Derived.Below
import Derived.SizedLaws
import Derived.JoinedCond
import Derived.Deep.CondSized
namespace Go.Proofs.YtjohdgejjnbddaaDoor.headBack
open Go.ChangeShapes Go.WideShapes Go.ChangeAt Go.RowKit
open Go.ChangeMaps (open_string shut_string)
open Go.Proofs.YtjohdgejjnbddaaDoor.PHeadBack Go.Proofs.YtjohdgejjnbddaaDoorW.PrintWords Go.Proofs.YtjohdgejjnbddaaDoorX
set_option linter.unusedVariables false
theorem own : ownKnob Tryd.prog.godebug = none := by kernel_rfl
theorem laidOut : laidOutB Tryd.prog = true := by kernel_rfl
set_option maxRecDepth 100000 in
theorem fits50 : Fits Tryd.prog 50 k50 g50 b50 z_50 := by
  have h := Fits.struct (P := Tryd.prog) (T := 50) Tryd.underlying50 rfl (by kernel_rfl) (FitsF.cons (Fits.int .u32 Tryd.underlying48 (by kernel_rfl)) rfl (FitsF.cons (Fits.int .u32 Tryd.underlying48 (by kernel_rfl)) rfl (FitsF.cons (Fits.int .u64 Tryd.underlying24 (by kernel_rfl)) rfl (FitsF.cons (Fits.int .u64 Tryd.underlying24 (by kernel_rfl)) rfl (FitsF.cons (Fits.int .u64 Tryd.underlying24 (by kernel_rfl)) rfl (FitsF.cons (Fits.int .u64 Tryd.underlying24 (by kernel_rfl)) rfl (FitsF.last (Fits.int .u64 Tryd.underlying24 (by kernel_rfl)) rfl) rfl) rfl) rfl) rfl) rfl) rfl) (fun x : S50 => (x.f0, x.f1, x.f2, x.f3, x.f4, x.f5, x.f6)) (fun t => ⟨t.1, t.2.1, t.2.2.1, t.2.2.2.1, t.2.2.2.2.1, t.2.2.2.2.2.1, t.2.2.2.2.2.2⟩) (fun _ => rfl)
  exact h
set_option maxRecDepth 100000 in
theorem fits27 : Fits Tryd.prog 27 k27 g27 b27 z_27 := by
  have h := Fits.struct (P := Tryd.prog) (T := 27) Tryd.underlying27 rfl (by kernel_rfl) (FitsF.cons (Fits.int .i64 Tryd.underlying3 (by kernel_rfl)) rfl (FitsF.cons (Fits.int .u64 Tryd.underlying24 (by kernel_rfl)) rfl (FitsF.last (Fits.slice (B := 48) fits50 Tryd.underlying25 (by kernel_rfl) (by kernel_rfl)) rfl) rfl) rfl) (fun x : S27 => (x.f0, x.f1, x.f2)) (fun t => ⟨t.1, t.2.1, t.2.2⟩) (fun _ => rfl)
  exact h
set_option maxHeartbeats 2000000 in
set_option maxRecDepth 100000 in
theorem lifted (os : Os) (started : os.Started) (H : Type) (enc : TypeId × Value → H) :
    ReturnsInHanded {} Tryd.checked os 5 .any (fun w args => (Rows.headBackSpec.pre enc Tryd.prog Tryd.f5 [] false w args ∧ laidMetH Tryd.prog [("errors.errorType", Rows.laid_errors_errorType), ("shackle/head.fixed", Rows.laid_shackle_head_fixed)] w) ∧ sizedMet enc Tryd.prog Tryd.f5 (OpenSpec.ofChange Rows.headBackSpec) false w args) (Rows.headBackSpec.post enc Tryd.prog Tryd.f5 false true false false) := by
  refine returnsInHanded_of_change_and (C := Tryd.checked) (X := fun w _ => laidMetH Tryd.prog [("errors.errorType", Rows.laid_errors_errorType), ("shackle/head.fixed", Rows.laid_shackle_head_fixed)] w) (fun _ _ _ hh h => h.of_heap hh) own started (by kernel_rfl) Tryd.func5
    (ChangeSpec.witness_at (enc := enc) (C := Tryd.checked) (os := os) (X := fun w _ => laidMetH Tryd.prog [("errors.errorType", Rows.laid_errors_errorType), ("shackle/head.fixed", Rows.laid_shackle_head_fixed)] w) false (laidWorld os) #[.agg #[.int .i64 0, .int .u64 0, .slice none 0 0], .slice none 0 0, .slice none 0 0] 8 rfl (by kernel_rfl) (by kernel_rfl) (by kernel_rfl) (by kernel_rfl) (by kernel_rfl) (laidWorld_met os _)) ?_
  intro W base args ds gs before hval0 hW hcnd hsz0 hL _
  have hG : ErrTy W := errTy_of_laid hL
  have hsz : (DataW.weightsEach Tryd.prog (Tryd.f5.params.toList ++ Rows.headBackSpec.plain.varTypes Tryd.prog) (ds ++ gs)).all (· ≤ reachBytes) = true := hsz0
  have hval : ∀ (j : Nat) t v, Tryd.f5.params[j]? = some t → args[j]? = some v → Value.okWide Tryd.prog W .any base t v := hval0
  have hW' := hW
  obtain ⟨p, q, hA0, hV, rfl, hfz, hnd⟩ := hW
  have hA : DataW.TrodAll enc Tryd.prog W 0 (fun _ => true) true Tryd.f5.params.toList args.toList ds p := hA0
  rw [Tryd.params5] at hA hval hsz
  obtain ⟨v0, vs0, d0, ds0, p0, q0, hargs, rfl, rfl, h0, r0⟩ := trodAll_cons hA
  obtain ⟨v1, vs1, d1, ds1, p1, q1, rfl, rfl, rfl, h1, r1⟩ := trodAll_cons r0
  obtain ⟨v2, vs2, d2, ds2, p2, q2, rfl, rfl, rfl, h2, r2⟩ := trodAll_cons r1
  obtain ⟨rfl, rfl, rfl⟩ := trodAll_nil r2
  obtain rfl : args = #[v0, v1, v2] := by cases args; simp_all
  obtain ⟨rfl, rfl⟩ := trodVars_none hV
  have k0 := h0
  have lt0 : ∀ x ∈ p0, x.block < W.heap.size := by obtain ⟨m, hm⟩ := k0; exact DataW.trod_lt m _ _ _ hm
  obtain ⟨fuel0, hf0⟩ := h0
  obtain ⟨x0, hK0, hg0, hb0, hz0⟩ := fits27.op hf0
  have hZ0 : z_27 x0 := hz0 (fun n hn => by have := List.all_eq_true.1 hsz n (DataW.weights_mem_each (j := 0) (t := 27) (d := d0) rfl rfl n hn); simpa using this)
  clear hz0 hf0
  obtain ⟨cs0, rfl⟩ := agg_of_okWide Tryd.underlying27 (hval 0 27 v0 rfl rfl)
  obtain ⟨a0_0, a0_1, l0_2⟩ := x0
  have hO0 := k27_open hK0
  dsimp only at hO0
  obtain ⟨A0_2, c0_2, hcs0, hc0_2, hr0_2⟩ := hO0
  obtain rfl : cs0 = #[.int .i64 a0_0, .int .u64 a0_1, .slice A0_2 l0_2.length c0_2] := by cases cs0; simpa [Value.cells] using hcs0
  dsimp only [g27, b27, z_27] at hg0 hb0 hZ0
  have k1 := h1
  have lt1 : ∀ x ∈ p1, x.block < W.heap.size := by obtain ⟨m, hm⟩ := k1; exact DataW.trod_lt m _ _ _ hm
  obtain ⟨fuel1, hf1⟩ := h1
  obtain ⟨x1, hK1, hg1, hb1, hz1⟩ := (Fits.slice (B := 1) (Fits.int .u8 Tryd.underlying5 (by kernel_rfl)) Tryd.underlying22 (by kernel_rfl) (by kernel_rfl)).op hf1
  have hZ1 : (zL 1 zT) x1 := hz1 (fun n hn => by have := List.all_eq_true.1 hsz n (DataW.weights_mem_each (j := 1) (t := 22) (d := d1) rfl rfl n hn); simpa using this)
  clear hz1 hf1
  obtain ⟨A1, len1, c1, rfl⟩ := okWide_slice Tryd.underlying22 (hval 1 22 v1 rfl rfl)
  obtain ⟨A1', c1', hcs1, hc1, hr1⟩ := hK1
  simp [Value.cells] at hcs1
  obtain ⟨rfl, rfl, rfl⟩ := hcs1
  have k2 := h2
  have lt2 : ∀ x ∈ p2, x.block < W.heap.size := by obtain ⟨m, hm⟩ := k2; exact DataW.trod_lt m _ _ _ hm
  obtain ⟨fuel2, hf2⟩ := h2
  obtain ⟨x2, hK2, hg2, hb2, hz2⟩ := (Fits.slice (B := 1) (Fits.int .u8 Tryd.underlying5 (by kernel_rfl)) Tryd.underlying22 (by kernel_rfl) (by kernel_rfl)).op hf2
  have hZ2 : (zL 1 zT) x2 := hz2 (fun n hn => by have := List.all_eq_true.1 hsz n (DataW.weights_mem_each (j := 2) (t := 22) (d := d2) rfl rfl n hn); simpa using this)
  clear hz2 hf2
  obtain ⟨A2, len2, c2, rfl⟩ := okWide_slice Tryd.underlying22 (hval 2 22 v2 rfl rfl)
  obtain ⟨A2', c2', hcs2, hc2, hr2⟩ := hK2
  simp [Value.cells] at hcs2
  obtain ⟨rfl, rfl, rfl⟩ := hcs2
  clear hA0 hval0 hsz0 hsz
  have hP := Pure.HeadBack a0_0 a0_1 l0_2 x1 x2 hg0.1 hg0.2.1 hg0.2.2 hZ0.2.2 hg1 hZ1 hg2 hZ2
  obtain ⟨k, hP⟩ := hP
  refine (shacklelaw04_HeadBack.calls k a0_0 a0_1 _ _ l0_2 _ _ x1 _ _ x2 true W hG hr0_2 hc0_2 hr1 hc1 hr2 hc2 hP).mono fun e W' ⟨he, bel0⟩ => ?_
  have bel := bel0
  subst he
  exact ⟨_, rfl, _, _, _, [], _, [], hW', trodAll_mk1 (shut_bool Tryd.underlying4 _), (trodAll_cons_mk (Below.trod laidOut (by kernel_rfl) (of_decide_eq_true (by kernel_rfl)) k0 bel lt0) (trodAll_cons_mk (Below.trod laidOut (by kernel_rfl) (of_decide_eq_true (by kernel_rfl)) k1 bel lt1) (trodAll_cons_mk (Below.trod laidOut (by kernel_rfl) (of_decide_eq_true (by kernel_rfl)) k2 bel lt2) trodAll_mk0))), rfl, bel.frame _, fun h => by cases h⟩
theorem over : Rows.headBackRow.holds Tryd.pinned (OpenSpec.ofChange Rows.headBackSpec) :=
  OpenClaim.holds_of_wide 5 Tryd.f5 rfl rfl rfl rfl rfl rfl rfl ⟨rfl, rfl, rfl, rfl, rfl⟩ rfl rfl rfl rfl rfl (by kernel_rfl) Tryd.func5 (by kernel_rfl)
    (of_decide_eq_true (by kernel_rfl)) (by unfold Func.isWrapper; first | (rw [if_pos (by decide +kernel)]; kernel_rfl) | (rw [if_neg (by decide +kernel)]; exact ⟨rfl, rfl⟩))
    (fun os started H enc _ => lifted os started H enc)
/-- The tied card. -/
theorem card : Rows.HeadBackCardSaid :=
  Claim7.holds_tied_plain_at .later [] [.handle, .data] true (true, "25d8ed7c2913a061bcfa6f58f24de149120174f3c99774ccfb8b6b3d9f623a91") true
    over (fun _ h => by cases h) (by kernel_rfl) (fun _ h => by cases h) headBack_row_tie rfl ⟨rfl, rfl⟩ (by kernel_rfl) rfl
    (fun f fn hf hfn => by
      obtain rfl : f = 5 := Option.some.inj ((show Tryd.prog.funcNamed "shackle/shacklelaw04.HeadBack" = some 5 by kernel_rfl).symm.trans hf) |>.symm
      obtain rfl : fn = Tryd.f5 := (Option.some.inj (Tryd.func5.symm.trans hfn)).symm
      exact ⟨by kernel_rfl, fun j t ht => by
        rw [Tryd.params5] at ht
        have hall : ∀ t ∈ ([27, 22, 22] : List TypeId), Tryd.prog.wantsStandIn t = false := by
          intro t ht; simp only [List.mem_cons, List.not_mem_nil, or_false] at ht
          rcases ht with rfl | rfl | rfl <;> kernel_rfl
        exact hall t (List.mem_of_getElem? (l := [27, 22, 22]) (i := j) (by simpa using ht))⟩)
    (by kernel_rfl)
theorem proved : Rows.HeadBackCardSaid := card
#print axioms proved
end Go.Proofs.YtjohdgejjnbddaaDoor.headBack
namespace Go.Proofs.YtjohdgejjnbddaaDoor
/-- The tied card, under a short name, for the claim. -/
theorem headBack_holds : Rows.HeadBackCardSaid := headBack.proved
end Go.Proofs.YtjohdgejjnbddaaDoor
