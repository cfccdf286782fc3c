/- Printed by this session's own program (wip/tools: a turn of the kit's print) out of the translation: each Go function that the law reaches as a Lean function, and that the machine's call comes to what that function tells; no condition but what each theorem names. -/
import Derived.Test.YtjbndfogjmfbhaaPDynOrdersx0
import Derived.Test.YtjbndfogjmfbhaaPDynOrdersx3
import Derived.Test.YtjbndfogjmfbhaaPDynOrdersx4
namespace Go.Proofs.Ytjbndfogjmfbhaa.PDynOrders
open Go.RowKit Go.Proofs.YtjbndfogjmfbhaaW.PrintWords Go.Proofs.YtjbndfogjmfbhaaW.PrintLast Go.Proofs.YtjbndfogjmfbhaaW.PrintMore Go.Proofs.YtjbndfogjmfbhaaX
attribute [local go_sem] max2_int min2_int max_two min_two max_three min_three max_four min_four   -- for this text's walks alone
set_option linter.unusedVariables false
set_option linter.unusedSimpArgs false

/-! ### shacklelaw05_up: function 11 -/
def shacklelaw05_up.l0 : Nat → Int → Option Int → Option Int → List Int → List Int → Int → Int → Int → List (S50) → Option (Bool)
  | 0, _, _, _, _, _, _, _, _, _ => none
  | k + 1, x2, x3, x5, x6, x7, x8, x116000, x116001, x116002 => if x8 < (x7.length : Int) then (if 0 ≤ x8 then (if 0 ≤ (wrap64 (256 + (wrap64 (8 * x8)))) then (if (wrap64 (256 + (wrap64 (8 * x8)))) < (x6.length : Int) then (if 0 ≤ (wrap64 (257 + (wrap64 (8 * x8)))) then (if (wrap64 (257 + (wrap64 (8 * x8)))) < (x6.length : Int) then (shacklelaw05_up.l0 k x2 x3 x5 ((x6.set ((wrap64 (256 + (wrap64 (8 * x8)))) : Int).toNat ((Int.tmod (rd x7 x8) 256) % 256)).set ((wrap64 (257 + (wrap64 (8 * x8)))) : Int).toNat ((IntKind.u64.wrap (Int.tdiv (rd x7 x8) 256)) % 256)) x7 (wrap64 (x8 + 1)) x116000 x116001 x116002) else (none)) else (none)) else (none)) else (none)) else (none)) else ((dyn_Read.f k x6 x116000 x116001 x116002).bind fun bt130 => (if x2 = 16 then (if x3.isNone = true then (if x5.isNone = true then (some false) else (if (x5.getD 0) = 4 then (if bt130.2.2.2.2.2.2.2.2.2.2.2.2.2.2.2.2.2.2.2.2.2.2.2.2.2.2.2.2.2.2.2.2.2.2.2.2.2.1 = true then (if bt130.2.2.2.2.2.2.2.2.2.2.2.2.2.2.2.2.2.2.2.2.2.2.2.2.2.2.2.2.2.2.2.2.2.2.2.2.2.2.isNone = true then (if bt130.2.2.2.2.1 = 4096 then (if bt130.2.2.2.1 = 4128 then (if (bt130.1.length : Int) = 2 then (if 1 < (bt130.1.length : Int) then (some ((rd bt130.1 1) == 3)) else (none)) else (some false)) else (some false)) else (some false)) else (some false)) else (some false)) else (some false))) else (some false)) else (some false)))
def shacklelaw05_up.f (k : Nat)  : Option (Bool) := (some (([(⟨1, 0, 0, 4096, 512, 0, 0⟩ : S50), (⟨2, 0, 256, 0, 256, 0, 0⟩ : S50)] : List (S50)) : List (S50))).bind fun y112 => ((dyn_Offset.f k 0 0 y112 4112 496).bind fun bt116 => ((dyn_Offset.f k 0 0 y112 4112 497).bind fun bt118 => (if 512 ≤ 281474976710656 then (shacklelaw05_up.l0 k bt116.1 bt116.2 bt118.2 (List.replicate 512 0) (([5, 4096, 10, 8, 6, 4112, 4, 4128, 1, 1, 1, 3] : List Int)) 0 0 0 y112) else (none))))
theorem shacklelaw05_up.mono_l : ∀ k, (∀ y0 y1 y2 y3 y4 y5 y6 y7 y8, LeO (shacklelaw05_up.l0 k y0 y1 y2 y3 y4 y5 y6 y7 y8) (shacklelaw05_up.l0 (k + 1) y0 y1 y2 y3 y4 y5 y6 y7 y8))
  | 0 => fun _ _ _ _ _ _ _ _ _ r h => by simp [shacklelaw05_up.l0] at h
  | k + 1 => by
    have ih0 := shacklelaw05_up.mono_l k
    · intro y0 y1 y2 y3 y4 y5 y6 y7 y8
      unfold shacklelaw05_up.l0
      repeat' first
      | (with_reducible exact ih0 _ _ _ _ _ _ _ _ _)
      | (with_reducible exact dyn_Offset.mono _ _ _ _ _ _)
      | (with_reducible exact dyn_Read.mono _ _ _ _ _)
      | (with_reducible exact LeO.refl _)
      | (with_reducible exact LeO.none _)
      | (with_reducible refine LeO.ite ?_ ?_)
      | (with_reducible refine LeO.bind ?_ (fun _ => ?_))
      | exact ih0 _ _ _ _ _ _ _ _ _
      | exact dyn_Offset.mono _ _ _ _ _ _
      | exact dyn_Read.mono _ _ _ _ _
      | exact LeO.none _
      | refine LeO.ite ?_ ?_
      | refine LeO.bind ?_ (fun _ => ?_)
theorem shacklelaw05_up.mono : ∀ k, LeO (shacklelaw05_up.f k ) (shacklelaw05_up.f (k + 1) ) := by
  intro  k
  have ih0 := shacklelaw05_up.mono_l k
  unfold shacklelaw05_up.f
  repeat' first
      | (with_reducible exact ih0 _ _ _ _ _ _ _ _ _)
      | (with_reducible exact dyn_Offset.mono _ _ _ _ _ _)
      | (with_reducible exact dyn_Read.mono _ _ _ _ _)
      | (with_reducible exact LeO.refl _)
      | (with_reducible exact LeO.none _)
      | (with_reducible refine LeO.ite ?_ ?_)
      | (with_reducible refine LeO.bind ?_ (fun _ => ?_))
      | exact ih0 _ _ _ _ _ _ _ _ _
      | exact dyn_Offset.mono _ _ _ _ _ _
      | exact dyn_Read.mono _ _ _ _ _
      | exact LeO.none _
      | refine LeO.ite ?_ ?_
      | refine LeO.bind ?_ (fun _ => ?_)
set_option maxHeartbeats 8000000 in
set_option maxRecDepth 100000 in
theorem shacklelaw05_up.calls (k : Nat)  (r : Bool) (w : World) (h : shacklelaw05_up.f k  = some r) :
    Calls Try.prog 11 #[] w fun e w' => e = .returned (.bool r) ∧ Below w.heap.size w w' := by
  have hu50 := Try.underlying50
  have hu53 := Try.underlying53
  have hu43 := Try.underlying43
  have hu45 := Try.underlying45
  have hu76 := Try.underlying76
  have hcm76 : (Try.prog.info? 76).map (fun i => i.comparable) = some true := by kernel_rfl
  have HB := Aside0.mk (Below.refl w.heap.size w)
  have H : ((some (([(⟨1, 0, 0, 4096, 512, 0, 0⟩ : S50), (⟨2, 0, 256, 0, 256, 0, 0⟩ : S50)] : List (S50)) : List (S50))).bind fun y112 => ((dyn_Offset.f k 0 0 y112 4112 496).bind fun bt116 => ((dyn_Offset.f k 0 0 y112 4112 497).bind fun bt118 => (if 512 ≤ 281474976710656 then (shacklelaw05_up.l0 k bt116.1 bt116.2 bt118.2 (List.replicate 512 0) (([5, 4096, 10, 8, 6, 4112, 4, 4128, 1, 1, 1, 3] : List Int)) 0 0 0 y112) else (none))))) = some r := h
  clear h
  obtain ⟨y112, hy112⟩ : ∃ y_ : List (S50), y_ = (([(⟨1, 0, 0, 4096, 512, 0, 0⟩ : S50), (⟨2, 0, 256, 0, 256, 0, 0⟩ : S50)] : List (S50))) := ⟨_, rfl⟩
  replace H : ((dyn_Offset.f k 0 0 y112 4112 496).bind fun bt116 => ((dyn_Offset.f k 0 0 y112 4112 497).bind fun bt118 => (if 512 ≤ 281474976710656 then (shacklelaw05_up.l0 k bt116.1 bt116.2 bt118.2 (List.replicate 512 0) (([5, 4096, 10, 8, 6, 4112, 4, 4128, 1, 1, 1, 3] : List Int)) 0 0 0 y112) else (none)))) = some r := by first | (rw [hy112]; with_reducible exact H) | (have H2_ := (Option.bind_some _ _).symm.trans H; rw [hy112]; with_reducible exact H2_) | (have H2_ := (Option.bind_some _ _).symm.trans H; with_reducible exact H2_) | with_reducible exact H | (rw [hy112]; exact H) | exact H
  have Ny112 := Aside0.mk hy112
  clear hy112
  replace H := Option.bind_eq_some_iff.mp H
  obtain ⟨⟨t116, t117⟩, A10, H⟩ := H
  replace H : ((dyn_Offset.f k 0 0 y112 4112 497).bind fun bt118 => (if 512 ≤ 281474976710656 then (shacklelaw05_up.l0 k t116 t117 bt118.2 (List.replicate 512 0) (([5, 4096, 10, 8, 6, 4112, 4, 4128, 1, 1, 1, 3] : List Int)) 0 0 0 y112) else (none))) = some r := H
  have A1 := Aside0.mk A10
  clear A10
  replace H := Option.bind_eq_some_iff.mp H
  obtain ⟨⟨t118, t119⟩, A20, H⟩ := H
  replace H : (if 512 ≤ 281474976710656 then (shacklelaw05_up.l0 k t116 t117 t119 (List.replicate 512 0) (([5, 4096, 10, 8, 6, 4112, 4, 4128, 1, 1, 1, 3] : List Int)) 0 0 0 y112) else (none)) = some r := H
  have A2 := Aside0.mk A20
  clear A20
  by_cases c3 : 512 ≤ 281474976710656
  · rw [if_pos c3] at H
    have c3b0 := eq_true c3
    have c3b1 : decide (512 ≤ 281474976710656) = true := decide_eq_true c3
    clear c3
    obtain ⟨y120, hy120⟩ : ∃ y_ : List Int, y_ = (List.replicate 512 0) := ⟨_, rfl⟩
    replace H : (shacklelaw05_up.l0 k t116 t117 t119 y120 (([5, 4096, 10, 8, 6, 4112, 4, 4128, 1, 1, 1, 3] : List Int)) 0 0 0 y112) = some r := by first | (rw [hy120]; with_reducible exact H) | (have H2_ := (Option.bind_some _ _).symm.trans H; rw [hy120]; with_reducible exact H2_) | (have H2_ := (Option.bind_some _ _).symm.trans H; with_reducible exact H2_) | with_reducible exact H | (rw [hy120]; exact H) | exact H
    have Ny120 := Aside0.mk hy120
    clear hy120
    obtain ⟨y123, hy123⟩ : ∃ y_ : List Int, y_ = (([5, 4096, 10, 8, 6, 4112, 4, 4128, 1, 1, 1, 3] : List Int)) := ⟨_, rfl⟩
    replace H : (shacklelaw05_up.l0 k t116 t117 t119 y120 y123 0 0 0 y112) = some r := by first | (rw [hy123]; with_reducible exact H) | (have H2_ := (Option.bind_some _ _).symm.trans H; rw [hy123]; with_reducible exact H2_) | (have H2_ := (Option.bind_some _ _).symm.trans H; with_reducible exact H2_) | with_reducible exact H | (rw [hy123]; exact H) | exact H
    have Ny123 := Aside0.mk hy123
    clear hy123
    have H' := Aside0.mk H
    clear H
    go_enter Try.func11, Try.ntmps11
    go_wp2_with (first | ((with_reducible refine gate_dst (N := 14) rfl ?_); (try (refine gate_guard (by rfl) ?_; dsimp only)); refine Kd.R_lit k50 _ 50 ?hg (N := 14) ?hd (xs := ([(⟨1, 0, 0, 4096, 512, 0, 0⟩ : S50), (⟨2, 0, 256, 0, 256, 0, 0⟩ : S50)] : List (S50))) (inner := [.int .u32 1, .int .u32 0, .int .u64 0, .int .u64 4096, .int .u64 512, .int .u64 0, .int .u64 0, .int .u32 2, .int .u32 0, .int .u64 256, .int .u64 0, .int .u64 256, .int .u64 0, .int .u64 0]) (ok := fun _ => True) (okp := fun _ => True) ?hr ?hp (fun _ hk => hk) trivial (Below.refl _ _) (Nat.le_refl _) (by simp) ?_; (case hd => rfl); (case hg => rfl); (case hr => first | (go_simp; done) | (go_simp; rfl)); (case hp => exact (Reps.c7 (show Kd.M k50 _ _ _ (⟨1, 0, 0, 4096, 512, 0, 0⟩ : S50) [.int .u32 1, .int .u32 0, .int .u64 0, .int .u64 4096, .int .u64 512, .int .u64 0, .int .u64 0] from (k50_mkM _ _ _ (⟨1, 0, 0, 4096, 512, 0, 0⟩ : S50) )) (Reps.c7 (show Kd.M k50 _ _ _ (⟨2, 0, 256, 0, 256, 0, 0⟩ : S50) [.int .u32 2, .int .u32 0, .int .u64 256, .int .u64 0, .int .u64 256, .int .u64 0, .int .u64 0] from (k50_mkM _ _ _ (⟨2, 0, 256, 0, 256, 0, 0⟩ : S50) )) (Reps.none _ _)))); intro v113 w4 ho5 hb hg_ hnew_; clear hg_ hnew_; (first | rw [← Ny112.out] at ho5 | (simp only [Int.reduceToNat] at ho5; rw [← Ny112.out] at ho5)); have n0_ := Aside0.mk (Kd.R_lower ho5 (below_size (by repeat (first | (with_reducible first | exact HB.out | apply below_alloc | apply pw_below_drewN | apply below_drew1) | exact HB.out)))); have n1_ := Aside0.mk (below_step (by repeat (first | (with_reducible first | exact HB.out | apply below_alloc | apply pw_below_drewN | apply below_drew1) | exact HB.out)) hb); clear HB; have HO114 := n0_; have HB := n1_; clear n0_ n1_; clear hb ho5; obtain ⟨Ao6, co6, eo6⟩ := Kd.R_slice HO114.out; subst eo6) | ((with_reducible refine gate_dst (N := 1) rfl ?_); (try (refine gate_guard (by rfl) ?_; dsimp only)); refine box_event ?hg (N := 1) ?hd (cs := #[.int .i64 0, .int .u64 0, .slice none 0 0]) (t := 53) ?hr ?_; (case hd => rfl); (case hg => rfl); (case hr => first | (go_simp; done) | (go_simp; rfl)); intro gb115 hg w7 hbox hb; have n0_ := Aside0.mk (Kd.R_below (by (with_reducible repeat (first | apply Kd.R_alloc | apply Kd.R_drewN | apply Kd.R_drew)); exact HO114.out) hb); have n1_ := Aside0.mk (below_step (by repeat (first | (with_reducible first | exact HB.out | apply below_alloc | apply pw_below_drewN | apply below_drew1) | exact HB.out)) hb); have n2_ := Aside0.mk (hbox); have n3_ := Aside0.mk ((by rw [hg]; exact (below_size (by repeat (first | (with_reducible first | exact HB.out | apply below_alloc | apply pw_below_drewN | apply below_drew1) | exact HB.out))) : w.heap.size ≤ gb115)); have n4_ := Aside0.mk ((by rw [hg]; exact (below_size (by repeat (first | (with_reducible first | exact HB.out | apply below_alloc | apply pw_below_drewN | apply below_drew1) | exact HB.out))) : w.heap.size ≤ gb115)); clear HO114; clear HB; have HO114 := n0_; have HB := n1_; have BK115 := n2_; have GW115 := n3_; have GE115 := n4_; clear n0_ n1_ n2_ n3_ n4_; clear hb hbox hg; have hcz8_0 : w7.cell? ⟨gb115, 0, none⟩ = some (.int .i64 0) := (blk_cell BK115.out 0).trans rfl; have hcz8_1 : w7.cell? ⟨gb115, 1, none⟩ = some (.int .u64 0) := (blk_cell BK115.out 1).trans rfl; have hcz8_2 : w7.cell? ⟨gb115, 2, none⟩ = some (.slice none 0 0) := (blk_cell BK115.out 2).trans rfl; have hfz8_0 := blk_frozen BK115.out 0; have hfz8_1 := blk_frozen BK115.out 1; have hfz8_2 := blk_frozen BK115.out 2) | ((with_reducible refine gate_callee (f := 28) rfl ?_); refine goesL_ (some 18) rfl rfl Try.func28 (by kernel_rfl) rfl #[.agg #[.int .i64 0, .int .u64 0, .slice Ao6 y112.length co6], .int .u64 4112, .int .u64 496] rfl (by (try simp only [List.map_toArray, List.map_cons, List.map_nil]); first | done | rfl | (simp only [List.length_drop, List.length_take]; rfl)) ?_; (with_reducible refine (dyn_Offset.calls k 0 0 _ _ y112 4112 496 t116 t117 _ ?side1 ?side2 A1.out).mono ?_); (case side1 => refine (Kd.R_reads' (e := 50) (base := w.heap.size) (ok := fun k_ => True) (n := y112.length) (c := co6) ?_).2.2; exact (by (with_reducible repeat (first | apply Kd.R_alloc | apply Kd.R_drewN | apply Kd.R_drew)); exact (Kd.R_mono (Kd.R_far (p := ⟨gb115, 2, none⟩) (Kd.R_far (p := ⟨gb115, 1, none⟩) (Kd.R_far (p := ⟨gb115, 0, none⟩) (Kd.R_types HO114.out BK115.out (by decide)) (fun _ hk => hk.2) (.int .i64 0)) (fun _ hk => hk.2) (.int .u64 0)) (fun _ hk => hk.2) (.slice Ao6 y112.length co6)) (fun _ h_ => h_.1)))); (case side2 => exact (Kd.R_reads' HO114.out).2.1); rintro e w9 ⟨rfl, hb⟩; refine ⟨_, rfl, ?_⟩; have n0_ := Aside0.mk (Kd.R_below (by (with_reducible repeat (first | apply Kd.R_alloc | apply Kd.R_drewN | apply Kd.R_drew)); exact (Kd.R_mono (Kd.R_far (p := ⟨gb115, 2, none⟩) (Kd.R_far (p := ⟨gb115, 1, none⟩) (Kd.R_far (p := ⟨gb115, 0, none⟩) (Kd.R_types HO114.out BK115.out (by decide)) (fun _ hk => hk.2) (.int .i64 0)) (fun _ hk => hk.2) (.int .u64 0)) (fun _ hk => hk.2) (.slice Ao6 y112.length co6)) (fun _ h_ => h_.1))) hb); have n1_ := Aside0.mk (blk_below (g := gb115) (o := .cells #[.int .i64 0, .int .u64 0, .slice Ao6 y112.length co6] 53 (0, 0)) (by (with_reducible repeat (first | refine blk_drewN ?_ _ | refine blk_drew ?_ | refine blk_alloc ?_ _)); refine blk_put (cs := #[.int .i64 0, .int .u64 0, .slice none 0 0]) ?_ 2 _ rfl; (with_reducible repeat (first | refine blk_drewN ?_ _ | refine blk_drew ?_ | refine blk_alloc ?_ _)); refine blk_put (cs := #[.int .i64 0, .int .u64 0, .slice none 0 0]) ?_ 1 _ rfl; (with_reducible repeat (first | refine blk_drewN ?_ _ | refine blk_drew ?_ | refine blk_alloc ?_ _)); refine blk_put (cs := #[.int .i64 0, .int .u64 0, .slice none 0 0]) ?_ 0 _ rfl; (with_reducible repeat (first | refine blk_drewN ?_ _ | refine blk_drew ?_ | refine blk_alloc ?_ _)); exact BK115.out) hb); have n2_ := Aside0.mk (below_step (by repeat (first | (with_reducible first | exact HB.out | apply below_alloc | apply pw_below_drewN | apply below_drew1 | refine below_set ?_ GE115.out) | exact HB.out)) hb); clear HO114; clear BK115; clear HB; have HO114 := n0_; have BK115 := n1_; have HB := n2_; clear n0_ n1_ n2_; (try clear hb); (try clear hb2); (try clear hk); (try clear hi); (try simp only [errW_none, errW_some]); have hcz10_0 : w9.cell? ⟨gb115, 0, none⟩ = some (.int .i64 0) := (blk_cell BK115.out 0).trans rfl; have hcz10_1 : w9.cell? ⟨gb115, 1, none⟩ = some (.int .u64 0) := (blk_cell BK115.out 1).trans rfl; have hcz10_2 : w9.cell? ⟨gb115, 2, none⟩ = some (.slice Ao6 y112.length co6) := (blk_cell BK115.out 2).trans rfl; have hfz10_0 := blk_frozen BK115.out 0; have hfz10_1 := blk_frozen BK115.out 1; have hfz10_2 := blk_frozen BK115.out 2) | ((with_reducible refine gate_callee (f := 28) rfl ?_); refine goesL_ (some 23) rfl rfl Try.func28 (by kernel_rfl) rfl #[.agg #[.int .i64 0, .int .u64 0, .slice Ao6 y112.length co6], .int .u64 4112, .int .u64 497] rfl (by (try simp only [List.map_toArray, List.map_cons, List.map_nil]); first | done | rfl | (simp only [List.length_drop, List.length_take]; rfl)) ?_; (with_reducible refine (dyn_Offset.calls k 0 0 _ _ y112 4112 497 t118 t119 _ ?side1 ?side2 A2.out).mono ?_); (case side1 => repeat (first | exact (Kd.R_reads' HO114.out).2.2 | (with_reducible refine Kd.C_alloc ?_ _) | (with_reducible refine Kd.C_drewN ?_ _) | (with_reducible refine Kd.C_drew ?_))); (case side2 => exact (Kd.R_reads' HO114.out).2.1); rintro e w11 ⟨rfl, hb⟩; refine ⟨_, rfl, ?_⟩; have n0_ := Aside0.mk (Kd.R_below (by (with_reducible repeat (first | apply Kd.R_alloc | apply Kd.R_drewN | apply Kd.R_drew)); exact HO114.out) hb); have n1_ := Aside0.mk (blk_below (g := gb115) (o := .cells #[.int .i64 0, .int .u64 0, .slice Ao6 y112.length co6] 53 (0, 0)) (by (with_reducible repeat (first | refine blk_drewN ?_ _ | refine blk_drew ?_ | refine blk_alloc ?_ _)); exact BK115.out) hb); have n2_ := Aside0.mk (below_step (by repeat (first | (with_reducible first | exact HB.out | apply below_alloc | apply pw_below_drewN | apply below_drew1 | refine below_set ?_ GE115.out) | exact HB.out)) hb); clear HO114; clear BK115; clear HB; have HO114 := n0_; have BK115 := n1_; have HB := n2_; clear n0_ n1_ n2_; (try clear hb); (try clear hb2); (try clear hk); (try clear hi); (try simp only [errW_none, errW_some])) | ((with_reducible refine gate_dst (N := 26) rfl ?_); (try (refine gate_guard (by rfl) ?_; dsimp only)); refine Kd.R_make (Kd.int .u8) _ 5 rfl (N := 26) rfl 35 _ _ rfl 512 rfl rfl Try.underlying35 (.int .u8 0) 1 info5 rfl (by decide) (by omega) 0 (ok := fun _ => True) (okp := fun _ => True) rfl (fun _ hk => hk) trivial (by omega) (by omega) (Below.refl _ _) (Nat.le_refl _) ?_; intro v121 w12 ho13 hb hg_ hnew_; clear hg_ hnew_; (first | rw [← Ny120.out] at ho13 | (simp only [Int.reduceToNat] at ho13; rw [← Ny120.out] at ho13)); have n0_ := Aside0.mk (Kd.R_below (by (with_reducible repeat (first | apply Kd.R_alloc | apply Kd.R_drewN | apply Kd.R_drew)); exact HO114.out) hb); have n1_ := Aside0.mk (Kd.R_lower ho13 (below_size (by repeat (first | (with_reducible first | exact HB.out | apply below_alloc | apply pw_below_drewN | apply below_drew1 | refine below_set ?_ GE115.out) | exact HB.out)))); have n2_ := Aside0.mk (blk_below (g := gb115) (o := .cells #[.int .i64 0, .int .u64 0, .slice Ao6 y112.length co6] 53 (0, 0)) (by (with_reducible repeat (first | refine blk_drewN ?_ _ | refine blk_drew ?_ | refine blk_alloc ?_ _)); exact BK115.out) hb); have n3_ := Aside0.mk (below_step (by repeat (first | (with_reducible first | exact HB.out | apply below_alloc | apply pw_below_drewN | apply below_drew1 | refine below_set ?_ GE115.out) | exact HB.out)) hb); clear HO114; clear BK115; clear HB; have HO114 := n0_; have HO122 := n1_; have BK115 := n2_; have HB := n3_; clear n0_ n1_ n2_ n3_; clear hb ho13) | ((with_reducible refine gate_dst (N := 27) rfl ?_); (try (refine gate_guard (by rfl) ?_; dsimp only)); refine Kd.R_lit (Kd.int .u64) _ 36 ?hg (N := 27) ?hd (xs := ([5, 4096, 10, 8, 6, 4112, 4, 4128, 1, 1, 1, 3] : List Int)) (inner := [.int .u64 5, .int .u64 4096, .int .u64 10, .int .u64 8, .int .u64 6, .int .u64 4112, .int .u64 4, .int .u64 4128, .int .u64 1, .int .u64 1, .int .u64 1, .int .u64 3]) (ok := fun _ => True) (okp := fun _ => True) ?hr ?hp (fun _ hk => hk) trivial (Below.refl _ _) (Nat.le_refl _) (by simp) ?_; (case hd => rfl); (case hg => rfl); (case hr => first | (go_simp; done) | (go_simp; rfl)); (case hp => exact (Reps.one (show Kd.M (Kd.int .u64) _ _ _ 5 [.int .u64 5] from rfl) (Reps.one (show Kd.M (Kd.int .u64) _ _ _ 4096 [.int .u64 4096] from rfl) (Reps.one (show Kd.M (Kd.int .u64) _ _ _ 10 [.int .u64 10] from rfl) (Reps.one (show Kd.M (Kd.int .u64) _ _ _ 8 [.int .u64 8] from rfl) (Reps.one (show Kd.M (Kd.int .u64) _ _ _ 6 [.int .u64 6] from rfl) (Reps.one (show Kd.M (Kd.int .u64) _ _ _ 4112 [.int .u64 4112] from rfl) (Reps.one (show Kd.M (Kd.int .u64) _ _ _ 4 [.int .u64 4] from rfl) (Reps.one (show Kd.M (Kd.int .u64) _ _ _ 4128 [.int .u64 4128] from rfl) (Reps.one (show Kd.M (Kd.int .u64) _ _ _ 1 [.int .u64 1] from rfl) (Reps.one (show Kd.M (Kd.int .u64) _ _ _ 1 [.int .u64 1] from rfl) (Reps.one (show Kd.M (Kd.int .u64) _ _ _ 1 [.int .u64 1] from rfl) (Reps.one (show Kd.M (Kd.int .u64) _ _ _ 3 [.int .u64 3] from rfl) (Reps.none _ _)))))))))))))); intro v124 w14 ho15 hb hg_ hnew_; clear hg_ hnew_; (first | rw [← Ny123.out] at ho15 | (simp only [Int.reduceToNat] at ho15; rw [← Ny123.out] at ho15)); have n0_ := Aside0.mk (Kd.R_below (by (with_reducible repeat (first | apply Kd.R_alloc | apply Kd.R_drewN | apply Kd.R_drew)); exact HO114.out) hb); have n1_ := Aside0.mk (Kd.R_below (by (with_reducible repeat (first | apply Kd.R_alloc | apply Kd.R_drewN | apply Kd.R_drew)); exact HO122.out) hb); have n2_ := Aside0.mk (Kd.R_lower ho15 (below_size (by repeat (first | (with_reducible first | exact HB.out | apply below_alloc | apply pw_below_drewN | apply below_drew1 | refine below_set ?_ GE115.out) | exact HB.out)))); have n3_ := Aside0.mk (blk_below (g := gb115) (o := .cells #[.int .i64 0, .int .u64 0, .slice Ao6 y112.length co6] 53 (0, 0)) (by (with_reducible repeat (first | refine blk_drewN ?_ _ | refine blk_drew ?_ | refine blk_alloc ?_ _)); exact BK115.out) hb); have n4_ := Aside0.mk (below_step (by repeat (first | (with_reducible first | exact HB.out | apply below_alloc | apply pw_below_drewN | apply below_drew1 | refine below_set ?_ GE115.out) | exact HB.out)) hb); clear HO114; clear HO122; clear BK115; clear HB; have HO114 := n0_; have HO122 := n1_; have HO125 := n2_; have BK115 := n3_; have HB := n4_; clear n0_ n1_ n2_ n3_ n4_; clear hb ho15))
    go_loopg [8] k (fun kq v8 w' => ∃ (x6_1 : List Int) (x8_1 : Int), v8 = .int .i64 x8_1 ∧ Aside0 (shacklelaw05_up.l0 kq t116 t117 t119 x6_1 y123 x8_1 0 0 y112 = some r) ∧ Aside0 (kq ≤ k) ∧ Aside0 (Kd.R (Kd.int .u8) 5 w' w.heap.size (fun _ => True) v121 x6_1) ∧ Aside0 (Kd.R (Kd.int .u64) 36 w' w.heap.size (fun _ => True) v124 y123) ∧ Aside0 (Kd.R k50 50 w' w.heap.size (fun _ => True) (.slice Ao6 y112.length co6) y112) ∧ Aside0 (w'.heap[gb115]? = some (.cells #[.int .i64 0, .int .u64 0, (.slice Ao6 y112.length co6)] 53 (0, 0))) ∧ Aside0 (Below w.heap.size w w'))
    case atStart => exact ⟨(y120), (0), (by first | rfl | (simp; done) | (simp [*]; done)), H', ⟨Nat.le_refl _⟩, ⟨by (with_reducible repeat (first | apply Kd.R_alloc | apply Kd.R_drewN | apply Kd.R_drew)); exact HO122.out⟩, ⟨by (with_reducible repeat (first | apply Kd.R_alloc | apply Kd.R_drewN | apply Kd.R_drew)); exact HO125.out⟩, ⟨by (with_reducible repeat (first | apply Kd.R_alloc | apply Kd.R_drewN | apply Kd.R_drew)); exact HO114.out⟩, ⟨by (with_reducible repeat (first | refine blk_drewN ?_ _ | refine blk_drew ?_ | refine blk_alloc ?_ _)); exact BK115.out⟩, ⟨by repeat (first | (with_reducible first | exact HB.out | apply below_alloc | apply pw_below_drewN | apply below_drew1 | refine below_set ?_ GE115.out) | exact HB.out)⟩⟩
    case round =>
      clear H'
      try clear c1
      try clear c2
      try clear p2
      try clear c3
      try clear c3b0
      try clear c3b1
      try clear c7
      try clear c11
      try clear hcz10_0
      try clear hcz10_1
      try clear hcz10_2
      try clear hcz8_0
      try clear hcz8_1
      try clear hcz8_2
      try clear hfz10_0
      try clear hfz10_1
      try clear hfz10_2
      try clear hfz8_0
      try clear hfz8_1
      try clear hfz8_2
      obtain ⟨x6_1, x8_1, rfl, HA, HK1, HO_6, HO_7, HO_116002, BK115, HB⟩ := hrel
      cases gk with
      | zero => exact absurd HA.out (by simp [shacklelaw05_up.l0])
      | succ k1 =>
        have H := HA.out
        clear HA
        simp only [shacklelaw05_up.l0] at H
        by_cases c16 : x8_1 < (y123.length : Int)
        · rw [if_pos c16] at H
          have c16b0 : decide (x8_1 < (y123.length : Int)) = true := decide_eq_true c16
          clear c16
          by_cases c17 : 0 ≤ x8_1
          · rw [if_pos c17] at H
            have c17b0 : decide (0 ≤ x8_1) = true := decide_eq_true c17
            clear c17
            obtain ⟨ji18, hji18⟩ : ∃ j_ : Int, (wrap64 (256 + (wrap64 (8 * x8_1)))) = j_ := ⟨_, rfl⟩
            replace H : (if 0 ≤ (ji18) then (if (ji18) < (x6_1.length : Int) then (if 0 ≤ (wrap64 (257 + (wrap64 (8 * x8_1)))) then (if (wrap64 (257 + (wrap64 (8 * x8_1)))) < (x6_1.length : Int) then (shacklelaw05_up.l0 k1 t116 t117 t119 ((x6_1.set ((ji18) : Int).toNat ((Int.tmod (rd y123 x8_1) 256) % 256)).set ((wrap64 (257 + (wrap64 (8 * x8_1)))) : Int).toNat ((IntKind.u64.wrap (Int.tdiv (rd y123 x8_1) 256)) % 256)) y123 (wrap64 (x8_1 + 1)) 0 0 y112) else (none)) else (none)) else (none)) else (none)) = some r := by first | (rw [hji18] at H; exact H) | (simp only [hji18] at H ⊢; exact H)
            have hji18w : (IntKind.i64.wrap (256 + (wrap64 (8 * x8_1)))) = ji18 := (i64_w _).trans hji18
            by_cases c19 : 0 ≤ (ji18)
            · rw [if_pos c19] at H
              have c19b0 : decide (0 ≤ (ji18)) = true := decide_eq_true c19
              clear c19
              by_cases c20 : (ji18) < (x6_1.length : Int)
              · rw [if_pos c20] at H
                have c20b0 : decide ((ji18) < (x6_1.length : Int)) = true := decide_eq_true c20
                clear c20
                obtain ⟨y127, hy127⟩ : ∃ y_ : List Int, y_ = (x6_1.set ((ji18) : Int).toNat ((Int.tmod (rd y123 x8_1) 256) % 256)) := ⟨_, rfl⟩
                replace H : (if 0 ≤ (wrap64 (257 + (wrap64 (8 * x8_1)))) then (if (wrap64 (257 + (wrap64 (8 * x8_1)))) < (x6_1.length : Int) then (shacklelaw05_up.l0 k1 t116 t117 t119 (y127.set ((wrap64 (257 + (wrap64 (8 * x8_1)))) : Int).toNat ((IntKind.u64.wrap (Int.tdiv (rd y123 x8_1) 256)) % 256)) y123 (wrap64 (x8_1 + 1)) 0 0 y112) else (none)) else (none)) = some r := by first | (rw [hy127]; with_reducible exact H) | (have H2_ := (Option.bind_some _ _).symm.trans H; rw [hy127]; with_reducible exact H2_) | (have H2_ := (Option.bind_some _ _).symm.trans H; with_reducible exact H2_) | with_reducible exact H | (rw [hy127]; exact H) | exact H
                have Ny127 := Aside0.mk hy127
                clear hy127
                obtain ⟨ji22, hji22⟩ : ∃ j_ : Int, (wrap64 (257 + (wrap64 (8 * x8_1)))) = j_ := ⟨_, rfl⟩
                try simp only [hji22] at hji18
                replace H : (if 0 ≤ (ji22) then (if (ji22) < (x6_1.length : Int) then (shacklelaw05_up.l0 k1 t116 t117 t119 (y127.set ((ji22) : Int).toNat ((IntKind.u64.wrap (Int.tdiv (rd y123 x8_1) 256)) % 256)) y123 (wrap64 (x8_1 + 1)) 0 0 y112) else (none)) else (none)) = some r := by first | (rw [hji22] at H; exact H) | (simp only [hji22] at H ⊢; exact H)
                have hji22w : (IntKind.i64.wrap (257 + (wrap64 (8 * x8_1)))) = ji22 := (i64_w _).trans hji22
                by_cases c23 : 0 ≤ (ji22)
                · rw [if_pos c23] at H
                  have c23b0 : decide (0 ≤ (ji22)) = true := decide_eq_true c23
                  clear c23
                  by_cases c24 : (ji22) < (x6_1.length : Int)
                  · rw [if_pos c24] at H
                    have c24b0 : decide ((ji22) < (x6_1.length : Int)) = true := decide_eq_true c24
                    clear c24
                    obtain ⟨y129, hy129⟩ : ∃ y_ : List Int, y_ = (y127.set ((ji22) : Int).toNat ((IntKind.u64.wrap (Int.tdiv (rd y123 x8_1) 256)) % 256)) := ⟨_, rfl⟩
                    replace H : (shacklelaw05_up.l0 k1 t116 t117 t119 y129 y123 (wrap64 (x8_1 + 1)) 0 0 y112) = some r := by first | (rw [hy129]; with_reducible exact H) | (have H2_ := (Option.bind_some _ _).symm.trans H; rw [hy129]; with_reducible exact H2_) | (have H2_ := (Option.bind_some _ _).symm.trans H; with_reducible exact H2_) | with_reducible exact H | (rw [hy129]; exact H) | exact H
                    have Ny129 := Aside0.mk hy129
                    clear hy129
                    have H' := Aside0.mk H
                    clear H
                    obtain ⟨Ao26, co26, eo26⟩ := Kd.R_slice HO_7.out
                    subst eo26
                    have p126 : 0 ≤ (x8_1 : Int) := of_decide_eq_true (by first | (with_reducible assumption) | assumption)
                    have q126 : x8_1 < (y123.length : Int) := of_decide_eq_true (by first | (with_reducible assumption) | assumption)
                    obtain ⟨ad126, e126, hx126_0⟩ := Kd.at_int (Kd.R_reads' HO_7.out).2.2 x8_1 p126 q126
                    cases e126
                    replace p126 := eq_true p126
                    replace q126 := eq_true q126
                    have p21 : 0 ≤ ((ji18) : Int) := of_decide_eq_true (by first | (with_reducible assumption) | assumption)
                    have q21 : ((ji18) : Int) < ((x6_1.length : Int) : Int) := of_decide_eq_true (by first | (with_reducible assumption) | assumption)
                    obtain ⟨go21, co21, eo21, gb21, gl21, cl21, HG21⟩ := Kd.R_form HO_6.out (by omega)
                    (first | cases eo21 | (injection eo21 with ea_ en_ ec_; (first | subst ea_ | (injection ea_ with ea_; subst ea_)); subst ec_; clear en_))
                    have GB21 := Aside0.mk gb21
                    have GG21 := Aside0.mk HG21
                    clear gb21 gl21 HG21
                    obtain ⟨hx21_0, hf21_0⟩ := Kd.R_celln 0 HO_6.out ((ji18) : Int) p21 q21
                    replace p21 := eq_true p21
                    replace q21 := eq_true q21
                    have HP27 := Kd.R_putg HO_6.out ((ji18) : Int) ((Int.tmod (rd y123 x8_1) 256) % 256)
                    go_wp2_with (first | ((with_reducible refine gate_store (t := 5) (p := 44) rfl ?_); refine store_event (t := 5) (p := 44) (v := ?vo_w28) (w1 := (wr.setCell ⟨go21, ((ji18) : Int).toNat, none⟩ (.int .u8 ((Int.tmod (rd y123 x8_1) 256) % 256)))) ?hg ?ho ?hn ?hr ?_; (case ho => rfl); (case hg => rfl); (case hn => rfl); (case hr => first | (go_simp; done) | (go_simp; rfl)); intro w28 hw; have hg : wr.grownBy w28 (some go21) := (by rw [hw]; exact HP27.2); have hp_ : Kd.R (Kd.int .u8) 5 w28 w.heap.size (fun _ => True) (.slice (some ⟨go21, 0, none⟩) x6_1.length co21) y127 := (by rw [hw, Ny127.out]; exact HP27.1); clear HP27; have n0_ := Aside0.mk (hp_); have n1_ := Aside0.mk (Kd.R_over' (v := (.slice (some ⟨go21, 0, none⟩) x6_1.length co21)) (by (with_reducible repeat (first | apply Kd.R_alloc | apply Kd.R_drewN | apply Kd.R_drew)); exact HO_7.out) (Kd.R_typed HO_6.out) (by decide) hg); have n2_ := Aside0.mk (Kd.R_over' (v := (.slice (some ⟨go21, 0, none⟩) x6_1.length co21)) (by (with_reducible repeat (first | apply Kd.R_alloc | apply Kd.R_drewN | apply Kd.R_drew)); exact HO_116002.out) (Kd.R_typed HO_6.out) (by decide) hg); have n3_ := Aside0.mk (blk_grown (g := gb115) (o := .cells #[.int .i64 0, .int .u64 0, .slice Ao6 y112.length co6] 53 (0, 0)) (by (with_reducible repeat (first | refine blk_drewN ?_ _ | refine blk_drew ?_ | refine blk_alloc ?_ _)); exact BK115.out) hg (Kd.R_ne HO_6.out BK115.out (by decide))); have n4_ := Aside0.mk ((by rw [hw]; exact below_set (HB.out) GB21.out : Below w.heap.size w w28)); clear HO_6; clear HO_7; clear HO_116002; clear BK115; clear HB; have HO_6 := n0_; have HO_7 := n1_; have HO_116002 := n2_; have BK115 := n3_; have HB := n4_; clear n0_ n1_ n2_ n3_ n4_; clear hg hw hp_; have p128 : 0 ≤ (x8_1 : Int) := of_decide_eq_true (by first | (with_reducible assumption) | assumption); have q128 : x8_1 < (y123.length : Int) := of_decide_eq_true (by first | (with_reducible assumption) | assumption); obtain ⟨ad128, e128, hx128_0⟩ := Kd.at_int (Kd.R_reads' HO_7.out).2.2 x8_1 p128 q128; obtain rfl : ad126 = ad128 := (by injection e128); replace p128 := eq_true p128; replace q128 := eq_true q128; have p25 : 0 ≤ ((ji22) : Int) := of_decide_eq_true (by first | (with_reducible assumption) | assumption); have q25 : ((ji22) : Int) < ((x6_1.length : Int) : Int) := of_decide_eq_true (by first | (with_reducible assumption) | assumption); obtain ⟨hx25_0, hf25_0⟩ := Kd.R_celln 0 HO_6.out ((ji22) : Int) p25 q25; replace p25 := eq_true p25; replace q25 := eq_true q25; obtain ⟨hy29_, hz29_⟩ := Kd.R_celln 0 HO_6.out ((ji22) : Int) (of_decide_eq_true (by first | (with_reducible assumption) | assumption)) (of_decide_eq_true (by first | (with_reducible assumption) | assumption)); have HP29 := Kd.R_putg HO_6.out ((ji22) : Int) ((IntKind.u64.wrap (Int.tdiv (rd y123 x8_1) 256)) % 256)) | ((with_reducible refine gate_store (t := 5) (p := 55) rfl ?_); refine store_event (t := 5) (p := 55) (v := ?vo_w30) (w1 := (w28.setCell ⟨go21, ((ji22) : Int).toNat, none⟩ (.int .u8 ((IntKind.u64.wrap (Int.tdiv (rd y123 x8_1) 256)) % 256)))) ?hg ?ho ?hn ?hr ?_; (case ho => rfl); (case hg => rfl); (case hn => rfl); (case hr => first | (go_simp; done) | (go_simp; rfl)); intro w30 hw; have hg : w28.grownBy w30 (some go21) := (by rw [hw]; exact HP29.2); have hp_ : Kd.R (Kd.int .u8) 5 w30 w.heap.size (fun _ => True) (.slice (some ⟨go21, 0, none⟩) x6_1.length co21) y129 := (by rw [hw, Ny129.out]; exact HP29.1); clear HP29; have n0_ := Aside0.mk (hp_); have n1_ := Aside0.mk (Kd.R_over' (v := (.slice (some ⟨go21, 0, none⟩) x6_1.length co21)) (by (with_reducible repeat (first | apply Kd.R_alloc | apply Kd.R_drewN | apply Kd.R_drew)); exact HO_7.out) (Kd.R_typed HO_6.out) (by decide) hg); have n2_ := Aside0.mk (Kd.R_over' (v := (.slice (some ⟨go21, 0, none⟩) x6_1.length co21)) (by (with_reducible repeat (first | apply Kd.R_alloc | apply Kd.R_drewN | apply Kd.R_drew)); exact HO_116002.out) (Kd.R_typed HO_6.out) (by decide) hg); have n3_ := Aside0.mk (blk_grown (g := gb115) (o := .cells #[.int .i64 0, .int .u64 0, .slice Ao6 y112.length co6] 53 (0, 0)) (by (with_reducible repeat (first | refine blk_drewN ?_ _ | refine blk_drew ?_ | refine blk_alloc ?_ _)); exact BK115.out) hg (Kd.R_ne HO_6.out BK115.out (by decide))); have n4_ := Aside0.mk ((by rw [hw]; exact below_set (HB.out) GB21.out : Below w.heap.size w w30)); clear HO_6; clear HO_7; clear HO_116002; clear BK115; clear HB; have HO_6 := n0_; have HO_7 := n1_; have HO_116002 := n2_; have BK115 := n3_; have HB := n4_; clear n0_ n1_ n2_ n3_ n4_; clear hg hw hp_))
                    go_roundg k1
                    case measure => have := HK1.out; omega
                    case rel => exact ⟨(y129), (wrap64 (x8_1 + 1)), (by first | rfl | (simp; done) | (simp [*]; done)), H', ⟨by have := HK1.out; omega⟩, ⟨by (with_reducible repeat (first | apply Kd.R_alloc | apply Kd.R_drewN | apply Kd.R_drew)); exact HO_6.out⟩, ⟨by (with_reducible repeat (first | apply Kd.R_alloc | apply Kd.R_drewN | apply Kd.R_drew)); exact HO_7.out⟩, ⟨by (with_reducible repeat (first | apply Kd.R_alloc | apply Kd.R_drewN | apply Kd.R_drew)); exact HO_116002.out⟩, ⟨by (with_reducible repeat (first | refine blk_drewN ?_ _ | refine blk_drew ?_ | refine blk_alloc ?_ _)); exact BK115.out⟩, ⟨by repeat (first | (with_reducible first | exact HB.out | apply below_alloc | apply pw_below_drewN | apply below_drew1 | refine below_set ?_ GE115.out) | exact HB.out)⟩⟩
                  · rw [if_neg c24] at H
                    exact absurd H (by simp)
                · rw [if_neg c23] at H
                  exact absurd H (by simp)
              · rw [if_neg c20] at H
                exact absurd H (by simp)
            · rw [if_neg c19] at H
              exact absurd H (by simp)
          · rw [if_neg c17] at H
            exact absurd H (by simp)
        · rw [if_neg c16] at H
          have c16b0 : decide (x8_1 < (y123.length : Int)) = false := decide_eq_false c16
          clear c16
          replace H := Option.bind_eq_some_iff.mp H
          obtain ⟨⟨t130, t133, t134, t135, t136, t137, t138, t139, t140, t141, t142, t143, t144, t145, t146, t147, t148, t149, t150, t151, t152, t153, t154, t155, t156, t157, t158, t159, t160, t161, t162, t163, t164, t165, t166, t167, t168, t169, t170⟩, A310, H⟩ := H
          replace H : (if t116 = 16 then (if t117.isNone = true then (if t119.isNone = true then (some false) else (if (t119.getD 0) = 4 then (if t169 = true then (if t170.isNone = true then (if t136 = 4096 then (if t135 = 4128 then (if (t130.length : Int) = 2 then (if 1 < (t130.length : Int) then (some ((rd t130 1) == 3)) else (none)) else (some false)) else (some false)) else (some false)) else (some false)) else (some false)) else (some false))) else (some false)) else (some false)) = some r := H
          have A31 := Aside0.mk A310
          clear A310
          obtain ⟨Ao33, co33, eo33⟩ := Kd.R_slice HO_7.out
          subst eo33
          have hcz34_0 : wr.cell? ⟨gb115, 0, none⟩ = some (.int .i64 0) := (blk_cell BK115.out 0).trans rfl
          have hcz34_1 : wr.cell? ⟨gb115, 1, none⟩ = some (.int .u64 0) := (blk_cell BK115.out 1).trans rfl
          have hcz34_2 : wr.cell? ⟨gb115, 2, none⟩ = some (.slice Ao6 y112.length co6) := (blk_cell BK115.out 2).trans rfl
          have hfz34_0 := blk_frozen BK115.out 0
          have hfz34_1 := blk_frozen BK115.out 1
          have hfz34_2 := blk_frozen BK115.out 2
          obtain ⟨Ao35, co35, eo35⟩ := Kd.R_slice HO_6.out
          subst eo35
          go_upto_region 12 with (first | ((with_reducible refine gate_callee (f := 14) rfl ?_); refine goesL_ (some 59) rfl rfl Try.func14 (by kernel_rfl) rfl #[.slice Ao35 x6_1.length co35, .agg #[.int .i64 0, .int .u64 0, .slice Ao6 y112.length co6]] rfl (by (try simp only [List.map_toArray, List.map_cons, List.map_nil]); first | done | rfl | (simp only [List.length_drop, List.length_take]; rfl)) ?_; (with_reducible refine (dyn_Read.calls k1 _ _ x6_1 0 0 _ _ y112 t130 t133 t134 t135 t136 t137 t138 t139 t140 t141 t142 t143 t144 t145 t146 t147 t148 t149 t150 t151 t152 t153 t154 t155 t156 t157 t158 t159 t160 t161 t162 t163 t164 t165 t166 t167 t168 t169 t170 _ ?side1 ?side2 ?side3 ?side4 A31.out).mono ?_); (case side1 => repeat (first | exact (Kd.R_reads' HO_6.out).2.2 | (with_reducible refine Kd.C_alloc ?_ _) | (with_reducible refine Kd.C_drewN ?_ _) | (with_reducible refine Kd.C_drew ?_))); (case side2 => exact (Kd.R_reads' HO_6.out).2.1); (case side3 => repeat (first | exact (Kd.R_reads' HO_116002.out).2.2 | (with_reducible refine Kd.C_alloc ?_ _) | (with_reducible refine Kd.C_drewN ?_ _) | (with_reducible refine Kd.C_drew ?_))); (case side4 => exact (Kd.R_reads' HO_116002.out).2.1); rintro e w36 ⟨v131, rfl, ho0, hb⟩; refine ⟨_, rfl, ?_⟩; have n0_ := Aside0.mk (Kd.R_below (by (with_reducible repeat (first | apply Kd.R_alloc | apply Kd.R_drewN | apply Kd.R_drew)); exact HO_6.out) hb); have n1_ := Aside0.mk (Kd.R_elder' (by (with_reducible repeat (first | apply Kd.R_alloc | apply Kd.R_drewN | apply Kd.R_drew)); exact HO_7.out) (Kd.R_base ho0) hb); have n2_ := Aside0.mk (Kd.R_below (by (with_reducible repeat (first | apply Kd.R_alloc | apply Kd.R_drewN | apply Kd.R_drew)); exact HO_116002.out) hb); have n3_ := Aside0.mk (Kd.R_lower (Kd.R_new' ho0 (Kd.R_lt (by (with_reducible repeat (first | apply Kd.R_alloc | apply Kd.R_drewN | apply Kd.R_drew)); exact HO_7.out))) (below_size (by repeat (first | (with_reducible first | exact HB.out | apply below_alloc | apply pw_below_drewN | apply below_drew1 | refine below_set ?_ GE115.out) | exact HB.out)))); have n4_ := Aside0.mk (blk_below (g := gb115) (o := .cells #[.int .i64 0, .int .u64 0, .slice Ao6 y112.length co6] 53 (0, 0)) (by (with_reducible repeat (first | refine blk_drewN ?_ _ | refine blk_drew ?_ | refine blk_alloc ?_ _)); exact BK115.out) hb); have n5_ := Aside0.mk (below_step (by repeat (first | (with_reducible first | exact HB.out | apply below_alloc | apply pw_below_drewN | apply below_drew1 | refine below_set ?_ GE115.out) | exact HB.out)) hb); clear HO_6; clear HO_7; clear HO_116002; clear BK115; clear HB; have HO_6 := n0_; have HO_7 := n1_; have HO_116002 := n2_; have HO132 := n3_; have BK115 := n4_; have HB := n5_; clear n0_ n1_ n2_ n3_ n4_ n5_; (try clear hb); (try clear hb2); (try clear hk); (try clear hi); (try clear ho0); (try simp only [errW_none, errW_some])) | ((with_reducible refine gate_dst (N := 9) rfl ?_); (try (refine gate_guard (by rfl) ?_; dsimp only)); refine box_event ?hg (N := 9) ?hd (cs := #[.slice none 0 0, .int .u64 0, .int .u64 0, .int .u64 0, .int .u64 0, .int .u64 0, .int .u64 0, .int .u64 0, .int .u64 0, .int .u64 0, .int .u64 0, .int .u64 0, .int .u64 0, .int .u64 0, .bool false, .bool false, .bool false, .int .u64 0, .int .u64 0, .int .u64 0, .int .u64 0, .int .u64 0, .int .u64 0, .int .u64 0, .int .u64 0, .int .u64 0, .int .u64 0, .int .u64 0, .int .u64 0, .int .u64 0, .int .u64 0, .int .u64 0, .bool false, .bool false, .bool false, .bool false, .bool false]) (t := 43) ?hr ?_; (case hd => rfl); (case hg => rfl); (case hr => first | (go_simp; done) | (go_simp; rfl)); intro gb171 hg w37 hbox hb; have n0_ := Aside0.mk (Kd.R_below (by (with_reducible repeat (first | apply Kd.R_alloc | apply Kd.R_drewN | apply Kd.R_drew)); exact HO_6.out) hb); have n1_ := Aside0.mk (Kd.R_below (by (with_reducible repeat (first | apply Kd.R_alloc | apply Kd.R_drewN | apply Kd.R_drew)); exact HO_7.out) hb); have n2_ := Aside0.mk (Kd.R_below (by (with_reducible repeat (first | apply Kd.R_alloc | apply Kd.R_drewN | apply Kd.R_drew)); exact HO_116002.out) hb); have n3_ := Aside0.mk (Kd.R_below (by (with_reducible repeat (first | apply Kd.R_alloc | apply Kd.R_drewN | apply Kd.R_drew)); exact HO132.out) hb); have n4_ := Aside0.mk (blk_below (g := gb115) (o := .cells #[.int .i64 0, .int .u64 0, .slice Ao6 y112.length co6] 53 (0, 0)) (by (with_reducible repeat (first | refine blk_drewN ?_ _ | refine blk_drew ?_ | refine blk_alloc ?_ _)); exact BK115.out) hb); have n5_ := Aside0.mk (below_step (by repeat (first | (with_reducible first | exact HB.out | apply below_alloc | apply pw_below_drewN | apply below_drew1 | refine below_set ?_ GE115.out) | exact HB.out)) hb); have n6_ := Aside0.mk (hbox); have n7_ := Aside0.mk ((by rw [hg]; exact (below_size (by repeat (first | (with_reducible first | exact HB.out | apply below_alloc | apply pw_below_drewN | apply below_drew1 | refine below_set ?_ GE115.out) | exact HB.out))) : w.heap.size ≤ gb171)); have n8_ := Aside0.mk ((by rw [hg]; exact (below_size (by repeat (first | (with_reducible first | exact HB.out | apply below_alloc | apply pw_below_drewN | apply below_drew1 | refine below_set ?_ GE115.out) | exact HB.out))) : w.heap.size ≤ gb171)); have n9_ := Aside0.mk ((by rw [hg]; exact Nat.ne_of_lt (blk_lt (g := gb115) (o := .cells #[.int .i64 0, .int .u64 0, .slice Ao6 y112.length co6] 53 (0, 0)) (by (with_reducible repeat (first | refine blk_drewN ?_ _ | refine blk_drew ?_ | refine blk_alloc ?_ _)); exact BK115.out)) : gb115 ≠ gb171)); have n10_ := Aside0.mk ((by rw [hg]; exact Nat.ne_of_gt (blk_lt (g := gb115) (o := .cells #[.int .i64 0, .int .u64 0, .slice Ao6 y112.length co6] 53 (0, 0)) (by (with_reducible repeat (first | refine blk_drewN ?_ _ | refine blk_drew ?_ | refine blk_alloc ?_ _)); exact BK115.out)) : gb171 ≠ gb115)); clear HO_6; clear HO_7; clear HO_116002; clear HO132; clear BK115; clear HB; have HO_6 := n0_; have HO_7 := n1_; have HO_116002 := n2_; have HO132 := n3_; have BK115 := n4_; have HB := n5_; have BK171 := n6_; have GW171 := n7_; have GE171 := n8_; have NB115_171 := n9_; have NB171_115 := n10_; clear n0_ n1_ n2_ n3_ n4_ n5_ n6_ n7_ n8_ n9_ n10_; clear hb hbox hg; obtain ⟨Ao38, co38, eo38⟩ := Kd.R_slice HO132.out; subst eo38) | ((with_reducible refine gate_store (t := 43) (p := 9) rfl ?_); refine wpList_store_box rfl 43 _ _ rfl gb171 #[.slice Ao38 t130.length co38, .int .u64 t133, .int .u64 t134, .int .u64 t135, .int .u64 t136, .int .u64 t137, .int .u64 t138, .int .u64 t139, .int .u64 t140, .int .u64 t141, .int .u64 t142, .int .u64 t143, .int .u64 t144, .int .u64 t145, .bool t146, .bool t147, .bool t148, .int .u64 t149, .int .u64 t150, .int .u64 t151, .int .u64 t152, .int .u64 t153, .int .u64 t154, .int .u64 t155, .int .u64 t156, .int .u64 t157, .int .u64 t158, .int .u64 t159, .int .u64 t160, .int .u64 t161, .int .u64 t162, .int .u64 t163, .bool t164, .bool t165, .bool t166, .bool t167, .bool t168] rfl rfl 43 _ (by (with_reducible repeat (first | refine blk_drewN ?_ _ | refine blk_drew ?_ | refine blk_alloc ?_ _)); exact BK171.out) (show (Try.prog.info? 43).map (·.size) = some 37 by kernel_rfl) (by rfl) (by first | rfl | simp [Value.oneCell']) ?_; intro w41 hbox hg_; have n0_ := Aside0.mk (Kd.R_mono (Kd.R_grown (Kd.R_types (by (with_reducible repeat (first | apply Kd.R_alloc | apply Kd.R_drewN | apply Kd.R_drew)); exact HO_6.out) (by (with_reducible repeat (first | refine blk_drewN ?_ _ | refine blk_drew ?_ | refine blk_alloc ?_ _)); exact BK171.out) (by decide)) hg_ (fun k_ hk_ e_ => hk_.2 (Option.some.inj e_))) (fun _ hk_ => hk_.1)); have n1_ := Aside0.mk (Kd.R_mono (Kd.R_grown (Kd.R_types (by (with_reducible repeat (first | apply Kd.R_alloc | apply Kd.R_drewN | apply Kd.R_drew)); exact HO_7.out) (by (with_reducible repeat (first | refine blk_drewN ?_ _ | refine blk_drew ?_ | refine blk_alloc ?_ _)); exact BK171.out) (by decide)) hg_ (fun k_ hk_ e_ => hk_.2 (Option.some.inj e_))) (fun _ hk_ => hk_.1)); have n2_ := Aside0.mk (Kd.R_mono (Kd.R_grown (Kd.R_types (by (with_reducible repeat (first | apply Kd.R_alloc | apply Kd.R_drewN | apply Kd.R_drew)); exact HO_116002.out) (by (with_reducible repeat (first | refine blk_drewN ?_ _ | refine blk_drew ?_ | refine blk_alloc ?_ _)); exact BK171.out) (by decide)) hg_ (fun k_ hk_ e_ => hk_.2 (Option.some.inj e_))) (fun _ hk_ => hk_.1)); have n3_ := Aside0.mk (Kd.R_mono (Kd.R_grown (Kd.R_types (by (with_reducible repeat (first | apply Kd.R_alloc | apply Kd.R_drewN | apply Kd.R_drew)); exact HO132.out) (by (with_reducible repeat (first | refine blk_drewN ?_ _ | refine blk_drew ?_ | refine blk_alloc ?_ _)); exact BK171.out) (by decide)) hg_ (fun k_ hk_ e_ => hk_.2 (Option.some.inj e_))) (fun _ hk_ => hk_.1)); have n4_ := Aside0.mk (blk_grown (by (with_reducible repeat (first | refine blk_drewN ?_ _ | refine blk_drew ?_ | refine blk_alloc ?_ _)); exact BK115.out) hg_ (fun e_ => NB115_171.out (Option.some.inj e_))); have n5_ := Aside0.mk (hbox); have n6_ := Aside0.mk (Below.grown (by repeat (first | (with_reducible first | exact HB.out | apply below_alloc | apply pw_below_drewN | apply below_drew1 | refine below_set ?_ GE115.out | refine below_set ?_ GE171.out) | exact HB.out)) hg_ ((below_size (by repeat (first | (with_reducible first | exact HB.out | apply below_alloc | apply pw_below_drewN | apply below_drew1 | refine below_set ?_ GE115.out | refine below_set ?_ GE171.out) | exact HB.out)))) (fun k_ e_ => by cases e_; exact GE171.out)); clear HO_6; clear HO_7; clear HO_116002; clear HO132; clear BK115; clear BK171; clear HB; have HO_6 := n0_; have HO_7 := n1_; have HO_116002 := n2_; have HO132 := n3_; have BK115 := n4_; have BK171 := n5_; have HB := n6_; clear n0_ n1_ n2_ n3_ n4_ n5_ n6_; clear hbox hg_))
          have hcy_0 : w41.cell? ⟨gb171, 0, none⟩ = some (.slice Ao38 t130.length co38) := (blk_cell BK171.out 0).trans rfl
          have hfy_0 := blk_frozen BK171.out 0
          have hcy_3 : w41.cell? ⟨gb171, 3, none⟩ = some (.int .u64 t135) := (blk_cell BK171.out 3).trans rfl
          have hfy_3 := blk_frozen BK171.out 3
          have hcy_4 : w41.cell? ⟨gb171, 4, none⟩ = some (.int .u64 t136) := (blk_cell BK171.out 4).trans rfl
          have hfy_4 := blk_frozen BK171.out 4
          by_cases c32 : t116 = 16
          · rw [if_pos c32] at H
            have c32b0 : (t116 == 16) = true := beq_iff_eq.mpr c32
            have c32b1 : (t116 != 16) = false := bne_eq_false_iff_eq.mpr c32
            clear c32
            rcases t117 with _ | q172
            · have H1 : (if t119.isNone = true then (some false) else (if (t119.getD 0) = 4 then (if t169 = true then (if t170.isNone = true then (if t136 = 4096 then (if t135 = 4128 then (if (t130.length : Int) = 2 then (if 1 < (t130.length : Int) then (some ((rd t130 1) == 3)) else (none)) else (some false)) else (some false)) else (some false)) else (some false)) else (some false)) else (some false))) = some r := by rw [if_pos (show (none : Option Int).isNone = true by rfl)] at H; exact H
              clear H
              have H := H1
              clear H1
              try simp only [errW_none, errW_some]
              rcases t119 with _ | q173
              · have H1 : (some false) = some r := by rw [if_pos (show (none : Option Int).isNone = true by rfl)] at H; exact H
                clear H
                have H := H1
                clear H1
                try simp only [errW_none, errW_some]
                obtain rfl := Option.some.inj H
                go_wp2
                go_ret
                exact ⟨by first | rfl | (simp [errW_none, errW_some] <;> rfl) | (simp [*, errW_none, errW_some] <;> rfl), by repeat (first | (with_reducible first | exact HB.out | apply below_alloc | apply pw_below_drewN | apply below_drew1 | refine below_set ?_ GE115.out | refine below_set ?_ GE171.out) | exact HB.out)⟩
              · have H1 : (if q173 = 4 then (if t169 = true then (if t170.isNone = true then (if t136 = 4096 then (if t135 = 4128 then (if (t130.length : Int) = 2 then (if 1 < (t130.length : Int) then (some ((rd t130 1) == 3)) else (none)) else (some false)) else (some false)) else (some false)) else (some false)) else (some false)) else (some false)) = some r := by rw [if_neg (show ¬ (some q173).isNone = true by simp)] at H; exact H
                clear H
                have H := H1
                clear H1
                try simp only [errW_none, errW_some]
                by_cases c42 : q173 = 4
                · rw [if_pos c42] at H
                  have c42b0 : (q173 == 4) = true := beq_iff_eq.mpr c42
                  have c42b1 : (q173 != 4) = false := bne_eq_false_iff_eq.mpr c42
                  clear c42
                  by_cases c43 : t169 = true
                  · subst c43
                    have H1 : (if t170.isNone = true then (if t136 = 4096 then (if t135 = 4128 then (if (t130.length : Int) = 2 then (if 1 < (t130.length : Int) then (some ((rd t130 1) == 3)) else (none)) else (some false)) else (some false)) else (some false)) else (some false)) = some r := by rw [if_pos rfl] at H; exact H
                    clear H
                    have H := H1
                    clear H1
                    rcases t170 with _ | q174
                    · have H1 : (if t136 = 4096 then (if t135 = 4128 then (if (t130.length : Int) = 2 then (if 1 < (t130.length : Int) then (some ((rd t130 1) == 3)) else (none)) else (some false)) else (some false)) else (some false)) = some r := by rw [if_pos (show (none : Option Int).isNone = true by rfl)] at H; exact H
                      clear H
                      have H := H1
                      clear H1
                      try simp only [errW_none, errW_some]
                      by_cases c44 : t136 = 4096
                      · rw [if_pos c44] at H
                        have c44b0 : (t136 == 4096) = true := beq_iff_eq.mpr c44
                        have c44b1 : (t136 != 4096) = false := bne_eq_false_iff_eq.mpr c44
                        clear c44
                        by_cases c45 : t135 = 4128
                        · rw [if_pos c45] at H
                          have c45b0 : (t135 == 4128) = true := beq_iff_eq.mpr c45
                          have c45b1 : (t135 != 4128) = false := bne_eq_false_iff_eq.mpr c45
                          clear c45
                          by_cases c46 : (t130.length : Int) = 2
                          · rw [if_pos c46] at H
                            have c46b0 : ((t130.length : Int) == 2) = true := beq_iff_eq.mpr c46
                            have c46b1 : ((t130.length : Int) != 2) = false := bne_eq_false_iff_eq.mpr c46
                            clear c46
                            by_cases c47 : 1 < (t130.length : Int)
                            · rw [if_pos c47] at H
                              have c47b0 : decide (1 < (t130.length : Int)) = true := decide_eq_true c47
                              have c47b1 : decide (1 < t130.length) = true := decide_eq_true (by omega)
                              clear c47
                              obtain rfl := Option.some.inj H
                              have p175 : 0 ≤ (1 : Int) := (by omega)
                              have q175 : 1 < (t130.length : Int) := of_decide_eq_true (by first | (with_reducible assumption) | assumption)
                              obtain ⟨ad175, e175, hx175_0⟩ := Kd.at_int (Kd.R_reads' HO132.out).2.2 1 p175 q175
                              cases e175
                              (try simp only [show (1 : Int).toNat = 1 from rfl, Nat.reduceMul, Nat.reduceEqDiff, Go.Addr.add, ↓reduceIte] at hx175_0)
                              have qi175 : (1 < t130.length) = True := eq_true (by omega)
                              (try rw [show ((1 : Int)).toNat = 1 from rfl] at hx175_0)
                              replace p175 := eq_true p175
                              replace q175 := eq_true q175
                              go_wp2
                              go_ret
                              exact ⟨by first | rfl | (simp [errW_none, errW_some] <;> rfl) | (simp [*, errW_none, errW_some] <;> rfl), by repeat (first | (with_reducible first | exact HB.out | apply below_alloc | apply pw_below_drewN | apply below_drew1 | refine below_set ?_ GE115.out | refine below_set ?_ GE171.out) | exact HB.out)⟩
                            · rw [if_neg c47] at H
                              exact absurd H (by simp)
                          · rw [if_neg c46] at H
                            have c46b0 : ((t130.length : Int) == 2) = false := beq_eq_false_iff_ne.mpr c46
                            have c46b1 : ((t130.length : Int) != 2) = true := bne_iff_ne.mpr c46
                            obtain rfl := Option.some.inj H
                            go_wp2
                            go_ret
                            exact ⟨by first | rfl | (simp [errW_none, errW_some] <;> rfl) | (simp [*, errW_none, errW_some] <;> rfl), by repeat (first | (with_reducible first | exact HB.out | apply below_alloc | apply pw_below_drewN | apply below_drew1 | refine below_set ?_ GE115.out | refine below_set ?_ GE171.out) | exact HB.out)⟩
                        · rw [if_neg c45] at H
                          have c45b0 : (t135 == 4128) = false := beq_eq_false_iff_ne.mpr c45
                          have c45b1 : (t135 != 4128) = true := bne_iff_ne.mpr c45
                          obtain rfl := Option.some.inj H
                          go_wp2
                          go_ret
                          exact ⟨by first | rfl | (simp [errW_none, errW_some] <;> rfl) | (simp [*, errW_none, errW_some] <;> rfl), by repeat (first | (with_reducible first | exact HB.out | apply below_alloc | apply pw_below_drewN | apply below_drew1 | refine below_set ?_ GE115.out | refine below_set ?_ GE171.out) | exact HB.out)⟩
                      · rw [if_neg c44] at H
                        have c44b0 : (t136 == 4096) = false := beq_eq_false_iff_ne.mpr c44
                        have c44b1 : (t136 != 4096) = true := bne_iff_ne.mpr c44
                        obtain rfl := Option.some.inj H
                        go_wp2
                        go_ret
                        exact ⟨by first | rfl | (simp [errW_none, errW_some] <;> rfl) | (simp [*, errW_none, errW_some] <;> rfl), by repeat (first | (with_reducible first | exact HB.out | apply below_alloc | apply pw_below_drewN | apply below_drew1 | refine below_set ?_ GE115.out | refine below_set ?_ GE171.out) | exact HB.out)⟩
                    · have H1 : (some false) = some r := by rw [if_neg (show ¬ (some q174).isNone = true by simp)] at H; exact H
                      clear H
                      have H := H1
                      clear H1
                      try simp only [errW_none, errW_some]
                      obtain rfl := Option.some.inj H
                      go_wp2
                      go_ret
                      exact ⟨by first | rfl | (simp [errW_none, errW_some] <;> rfl) | (simp [*, errW_none, errW_some] <;> rfl), by repeat (first | (with_reducible first | exact HB.out | apply below_alloc | apply pw_below_drewN | apply below_drew1 | refine below_set ?_ GE115.out | refine below_set ?_ GE171.out) | exact HB.out)⟩
                  · replace c43 := Bool.eq_false_iff.mpr c43
                    subst c43
                    have H1 : (some false) = some r := by rw [if_neg (show ¬ (false = true) by decide)] at H; exact H
                    clear H
                    have H := H1
                    clear H1
                    obtain rfl := Option.some.inj H
                    go_wp2
                    go_ret
                    exact ⟨by first | rfl | (simp [errW_none, errW_some] <;> rfl) | (simp [*, errW_none, errW_some] <;> rfl), by repeat (first | (with_reducible first | exact HB.out | apply below_alloc | apply pw_below_drewN | apply below_drew1 | refine below_set ?_ GE115.out | refine below_set ?_ GE171.out) | exact HB.out)⟩
                · rw [if_neg c42] at H
                  have c42b0 : (q173 == 4) = false := beq_eq_false_iff_ne.mpr c42
                  have c42b1 : (q173 != 4) = true := bne_iff_ne.mpr c42
                  obtain rfl := Option.some.inj H
                  go_wp2
                  go_ret
                  exact ⟨by first | rfl | (simp [errW_none, errW_some] <;> rfl) | (simp [*, errW_none, errW_some] <;> rfl), by repeat (first | (with_reducible first | exact HB.out | apply below_alloc | apply pw_below_drewN | apply below_drew1 | refine below_set ?_ GE115.out | refine below_set ?_ GE171.out) | exact HB.out)⟩
            · have H1 : (some false) = some r := by rw [if_neg (show ¬ (some q172).isNone = true by simp)] at H; exact H
              clear H
              have H := H1
              clear H1
              try simp only [errW_none, errW_some]
              obtain rfl := Option.some.inj H
              go_wp2
              go_ret
              exact ⟨by first | rfl | (simp [errW_none, errW_some] <;> rfl) | (simp [*, errW_none, errW_some] <;> rfl), by repeat (first | (with_reducible first | exact HB.out | apply below_alloc | apply pw_below_drewN | apply below_drew1 | refine below_set ?_ GE115.out | refine below_set ?_ GE171.out) | exact HB.out)⟩
          · rw [if_neg c32] at H
            have c32b0 : (t116 == 16) = false := beq_eq_false_iff_ne.mpr c32
            have c32b1 : (t116 != 16) = true := bne_iff_ne.mpr c32
            obtain rfl := Option.some.inj H
            go_wp2
            go_ret
            exact ⟨by first | rfl | (simp [errW_none, errW_some] <;> rfl) | (simp [*, errW_none, errW_some] <;> rfl), by repeat (first | (with_reducible first | exact HB.out | apply below_alloc | apply pw_below_drewN | apply below_drew1 | refine below_set ?_ GE115.out | refine below_set ?_ GE171.out) | exact HB.out)⟩
  · rw [if_neg c3] at H
    exact absurd H (by simp)

/-! ### shacklelaw05_section: function 12 -/
mutual
def shacklelaw05_section.l0 : Nat → List (S38) → List Int → Int → Option (List Int)
  | 0, _, _, _ => none
  | k + 1, x0, x3, x4 => if x4 ≤ (x0.length : Int) then (if x4 < (x0.length : Int) then (if 0 ≤ x4 then (shacklelaw05_section.j1 k x0 x3 x4 ((rd_T38 x0 x4).f0) ((rd_T38 x0 x4).f1)) else (none)) else (shacklelaw05_section.j1 k x0 x3 x4 0 0)) else (some x3)
def shacklelaw05_section.j1 : Nat → List (S38) → List Int → Int → Int → Int → Option (List Int)
  | 0, _, _, _, _, _ => none
  | k + 1, x0, x3, x4, x177000, x177001 => shacklelaw05_section.l1 k x0 x3 x4 0 x177000 x177001
def shacklelaw05_section.l1 : Nat → List (S38) → List Int → Int → Int → Int → Int → Option (List Int)
  | 0, _, _, _, _, _, _ => none
  | k + 1, x0, x3, x4, x6, x177000, x177001 => if x6 < 8 then (if x3.length < 140737488355328 then (shacklelaw05_section.l1 k x0 (x3 ++ [(x177000) % 256]) x4 (wrap64 (x6 + 1)) (IntKind.u64.wrap (Int.tdiv x177000 256)) x177001) else (none)) else (shacklelaw05_section.l2 k x0 x3 x4 0 x177000 x177001)
def shacklelaw05_section.l2 : Nat → List (S38) → List Int → Int → Int → Int → Int → Option (List Int)
  | 0, _, _, _, _, _, _ => none
  | k + 1, x0, x3, x4, x7, x177000, x177001 => if x7 < 8 then (if x3.length < 140737488355328 then (shacklelaw05_section.l2 k x0 (x3 ++ [(x177001) % 256]) x4 (wrap64 (x7 + 1)) x177000 (IntKind.u64.wrap (Int.tdiv x177001 256))) else (none)) else (shacklelaw05_section.l0 k x0 x3 (wrap64 (x4 + 1)))
end
def shacklelaw05_section.f (k : Nat) (l0 : List (S38)) : Option (List Int) := shacklelaw05_section.l0 k l0 ([] : List Int) 0
theorem shacklelaw05_section.mono_l : ∀ k, (∀ y0 y1 y2, LeO (shacklelaw05_section.l0 k y0 y1 y2) (shacklelaw05_section.l0 (k + 1) y0 y1 y2)) ∧ (∀ y0 y1 y2 y3 y4, LeO (shacklelaw05_section.j1 k y0 y1 y2 y3 y4) (shacklelaw05_section.j1 (k + 1) y0 y1 y2 y3 y4)) ∧ (∀ y0 y1 y2 y3 y4 y5, LeO (shacklelaw05_section.l1 k y0 y1 y2 y3 y4 y5) (shacklelaw05_section.l1 (k + 1) y0 y1 y2 y3 y4 y5)) ∧ (∀ y0 y1 y2 y3 y4 y5, LeO (shacklelaw05_section.l2 k y0 y1 y2 y3 y4 y5) (shacklelaw05_section.l2 (k + 1) y0 y1 y2 y3 y4 y5))
  | 0 => ⟨fun _ _ _ r h => by simp [shacklelaw05_section.l0] at h, fun _ _ _ _ _ r h => by simp [shacklelaw05_section.j1] at h, fun _ _ _ _ _ _ r h => by simp [shacklelaw05_section.l1] at h, fun _ _ _ _ _ _ r h => by simp [shacklelaw05_section.l2] at h⟩
  | k + 1 => by
    obtain ⟨ih0, ih1, ih2, ih3⟩ := shacklelaw05_section.mono_l k
    refine ⟨?_, ?_, ?_, ?_⟩
    · intro y0 y1 y2
      unfold shacklelaw05_section.l0
      repeat' first
      | (with_reducible exact ih0 _ _ _)
      | (with_reducible exact ih1 _ _ _ _ _)
      | (with_reducible exact ih2 _ _ _ _ _ _)
      | (with_reducible exact ih3 _ _ _ _ _ _)
      | (with_reducible exact LeO.refl _)
      | (with_reducible exact LeO.none _)
      | (with_reducible refine LeO.ite ?_ ?_)
      | (with_reducible refine LeO.bind ?_ (fun _ => ?_))
      | exact ih0 _ _ _
      | exact ih1 _ _ _ _ _
      | exact ih2 _ _ _ _ _ _
      | exact ih3 _ _ _ _ _ _
      | exact LeO.none _
      | refine LeO.ite ?_ ?_
      | refine LeO.bind ?_ (fun _ => ?_)
    · intro y0 y1 y2 y3 y4
      unfold shacklelaw05_section.j1
      repeat' first
      | (with_reducible exact ih0 _ _ _)
      | (with_reducible exact ih1 _ _ _ _ _)
      | (with_reducible exact ih2 _ _ _ _ _ _)
      | (with_reducible exact ih3 _ _ _ _ _ _)
      | (with_reducible exact LeO.refl _)
      | (with_reducible exact LeO.none _)
      | (with_reducible refine LeO.ite ?_ ?_)
      | (with_reducible refine LeO.bind ?_ (fun _ => ?_))
      | exact ih0 _ _ _
      | exact ih1 _ _ _ _ _
      | exact ih2 _ _ _ _ _ _
      | exact ih3 _ _ _ _ _ _
      | exact LeO.none _
      | refine LeO.ite ?_ ?_
      | refine LeO.bind ?_ (fun _ => ?_)
    · intro y0 y1 y2 y3 y4 y5
      unfold shacklelaw05_section.l1
      repeat' first
      | (with_reducible exact ih0 _ _ _)
      | (with_reducible exact ih1 _ _ _ _ _)
      | (with_reducible exact ih2 _ _ _ _ _ _)
      | (with_reducible exact ih3 _ _ _ _ _ _)
      | (with_reducible exact LeO.refl _)
      | (with_reducible exact LeO.none _)
      | (with_reducible refine LeO.ite ?_ ?_)
      | (with_reducible refine LeO.bind ?_ (fun _ => ?_))
      | exact ih0 _ _ _
      | exact ih1 _ _ _ _ _
      | exact ih2 _ _ _ _ _ _
      | exact ih3 _ _ _ _ _ _
      | exact LeO.none _
      | refine LeO.ite ?_ ?_
      | refine LeO.bind ?_ (fun _ => ?_)
    · intro y0 y1 y2 y3 y4 y5
      unfold shacklelaw05_section.l2
      repeat' first
      | (with_reducible exact ih0 _ _ _)
      | (with_reducible exact ih1 _ _ _ _ _)
      | (with_reducible exact ih2 _ _ _ _ _ _)
      | (with_reducible exact ih3 _ _ _ _ _ _)
      | (with_reducible exact LeO.refl _)
      | (with_reducible exact LeO.none _)
      | (with_reducible refine LeO.ite ?_ ?_)
      | (with_reducible refine LeO.bind ?_ (fun _ => ?_))
      | exact ih0 _ _ _
      | exact ih1 _ _ _ _ _
      | exact ih2 _ _ _ _ _ _
      | exact ih3 _ _ _ _ _ _
      | exact LeO.none _
      | refine LeO.ite ?_ ?_
      | refine LeO.bind ?_ (fun _ => ?_)
theorem shacklelaw05_section.mono : ∀ a0 k, LeO (shacklelaw05_section.f k a0) (shacklelaw05_section.f (k + 1) a0) := by
  intro a0 k
  obtain ⟨ih0, ih1, ih2, ih3⟩ := shacklelaw05_section.mono_l k
  unfold shacklelaw05_section.f
  repeat' first
      | (with_reducible exact ih0 _ _ _)
      | (with_reducible exact ih1 _ _ _ _ _)
      | (with_reducible exact ih2 _ _ _ _ _ _)
      | (with_reducible exact ih3 _ _ _ _ _ _)
      | (with_reducible exact LeO.refl _)
      | (with_reducible exact LeO.none _)
      | (with_reducible refine LeO.ite ?_ ?_)
      | (with_reducible refine LeO.bind ?_ (fun _ => ?_))
      | exact ih0 _ _ _
      | exact ih1 _ _ _ _ _
      | exact ih2 _ _ _ _ _ _
      | exact ih3 _ _ _ _ _ _
      | exact LeO.none _
      | refine LeO.ite ?_ ?_
      | refine LeO.bind ?_ (fun _ => ?_)
set_option maxHeartbeats 8000000 in
set_option maxRecDepth 100000 in
theorem shacklelaw05_section.calls (k : Nat) (A0 : Option Addr) (c0 : Nat) (l0 : List (S38)) (r : List Int) (w : World) (hr0 : Kd.C k38 w A0 l0.length l0) (hc0 : l0.length ≤ c0) (h : shacklelaw05_section.f k l0 = some r) :
    Calls Try.prog 12 #[.slice A0 l0.length c0] w fun e w' => ∃ v0_ : Value, e = .returned (v0_) ∧ Kd.R (Kd.int .u8) 5 w' w.heap.size (fun _ => True) v0_ r ∧ Below w.heap.size w w' := by
  have hu38 := Try.underlying38
  have HR0 := Aside0.mk hr0
  have HC0 := Aside0.mk hc0
  clear hr0 hc0
  have HB := Aside0.mk (Below.refl w.heap.size w)
  have H : (shacklelaw05_section.l0 k l0 ([] : List Int) 0) = some r := h
  clear h
  have H' := Aside0.mk H
  clear H
  go_enter Try.func12, Try.ntmps12
  go_wp2
  go_loopg [3, 4] k (fun kq v3 v4 w' => ∃ (x3_1 : List Int) (x4_1 : Int), v4 = .int .i64 x4_1 ∧ Aside0 (shacklelaw05_section.l0 kq l0 x3_1 x4_1 = some r) ∧ Aside0 (kq ≤ k) ∧ Aside0 (Kd.R (Kd.int .u8) 5 w' w.heap.size (fun _ => True) v3 x3_1) ∧ Aside0 (Below w.heap.size w w'))
  case atStart => exact ⟨(([] : List Int)), (0), (by first | rfl | (simp; done) | (simp [*]; done)), H', ⟨Nat.le_refl _⟩, ⟨by first | exact Kd.R_nil _ _ _ _ _ | exact Kd.N_nil _ _ _ _ _ | exact Kd.V_nil _ _ _ _ _ | exact Kd.Q_nil _ _ _ _ _ | exact Kd.S_nil _ _ _ _ _⟩, ⟨by repeat (first | (with_reducible first | exact HB.out | apply below_alloc | apply pw_below_drewN | apply below_drew1) | exact HB.out)⟩⟩
  case round =>
    clear H'
    try clear c1
    obtain ⟨x3_1, x4_1, rfl, HA, HK1, HO_3, HB⟩ := hrel
    cases gk with
    | zero => exact absurd HA.out (by simp [shacklelaw05_section.l0])
    | succ k1 =>
      have H := HA.out
      clear HA
      simp only [shacklelaw05_section.l0] at H
      by_cases c2 : x4_1 ≤ (l0.length : Int)
      · rw [if_pos c2] at H
        have c2b0 : decide (x4_1 ≤ (l0.length : Int)) = true := decide_eq_true c2
        clear c2
        have HC3 := Aside0.mk H
        clear H
        go_upto_if 18 with (first | ((with_reducible refine gate_dst (N := 5) rfl ?_); refine box_event ?hg (N := 5) ?hd (cs := #[.int .u64 0, .int .u64 0]) (t := 38) ?hr ?_; (case hd => rfl); (case hg => rfl); (case hr => first | (go_simp; done) | (go_simp; rfl)); intro gb176 hg w4 hbox hb; have n0_ := Aside0.mk (Kd.R_below (by (with_reducible repeat (first | apply Kd.R_alloc | apply Kd.R_drewN | apply Kd.R_drew)); exact HO_3.out) hb); have n1_ := Aside0.mk (below_step (by repeat (first | (with_reducible first | exact HB.out | apply below_alloc | apply pw_below_drewN | apply below_drew1) | exact HB.out)) hb); have n2_ := Aside0.mk (hbox); have n3_ := Aside0.mk ((by rw [hg]; exact (below_size (by repeat (first | (with_reducible first | exact HB.out | apply below_alloc | apply pw_below_drewN | apply below_drew1) | exact HB.out))) : w.heap.size ≤ gb176)); have n4_ := Aside0.mk ((by rw [hg]; exact (below_size (by repeat (first | (with_reducible first | exact HB.out | apply below_alloc | apply pw_below_drewN | apply below_drew1) | exact HB.out))) : w.heap.size ≤ gb176)); clear HO_3; clear HB; have HO_3 := n0_; have HB := n1_; have BK176 := n2_; have GW176 := n3_; have GE176 := n4_; clear n0_ n1_ n2_ n3_ n4_; clear hb hbox hg; have hcz5_0 : w4.cell? ⟨gb176, 0, none⟩ = some (.int .u64 0) := (blk_cell BK176.out 0).trans rfl; have hcz5_1 : w4.cell? ⟨gb176, 1, none⟩ = some (.int .u64 0) := (blk_cell BK176.out 1).trans rfl; have hfz5_0 := blk_frozen BK176.out 0; have hfz5_1 := blk_frozen BK176.out 1))
        (try simp only [Act.put, List.setIfInBounds_toArray, List.set_cons_zero, List.set_cons_succ])
        go_cut [] (fun wc => ∃ (kq : Nat) (x177000_2 : Int) (x177001_2 : Int), Aside0 (shacklelaw05_section.j1 kq l0 x3_1 x4_1 x177000_2 x177001_2 = some r) ∧ Aside0 (kq ≤ k1) ∧ Aside0 (Kd.R (Kd.int .u8) 5 wc w.heap.size (fun _ => True) u3 x3_1) ∧ Aside0 (wc.heap[gb176]? = some (.cells #[.int .u64 x177000_2, .int .u64 x177001_2] 38 (0, 0))) ∧ Aside0 (Below w.heap.size w wc))
        case first =>
          have H := HC3.out
          clear HC3
          by_cases c6 : x4_1 < (l0.length : Int)
          · rw [if_pos c6] at H
            have c6b0 : decide (x4_1 < (l0.length : Int)) = true := decide_eq_true c6
            clear c6
            (first | rw [c6b0] | (simp only [i64_w, i32_w]; rw [c6b0]) | skip)
            by_cases c7 : 0 ≤ x4_1
            · rw [if_pos c7] at H
              have c7b0 : decide (0 ≤ x4_1) = true := decide_eq_true c7
              clear c7
              have H' := Aside0.mk H
              clear H
              have p177 : 0 ≤ (x4_1 : Int) := of_decide_eq_true (by first | (with_reducible assumption) | assumption)
              have q177 : x4_1 < (l0.length : Int) := of_decide_eq_true (by first | (with_reducible assumption) | assumption)
              obtain ⟨ad177, e177, hx177_0, hx177_1⟩ := at_T38 HR0.out x4_1 p177 q177
              cases e177
              have hn177_0 : ad177.block ≠ gb176 := Nat.ne_of_lt (Nat.lt_of_lt_of_le (by have := World.block_lt_of_cell? _ _ hx177_0; first | rwa [add_block] at this | exact this) GW176.out)
              have hn177_1 : ad177.block ≠ gb176 := Nat.ne_of_lt (Nat.lt_of_lt_of_le (by have := World.block_lt_of_cell? _ _ hx177_0; first | rwa [add_block] at this | exact this) GW176.out)
              replace hx177_0 := (HB.out.cell (World.block_lt_of_cell? w _ hx177_0)).trans hx177_0
              replace hx177_1 := (HB.out.cell (World.block_lt_of_cell? w _ hx177_1)).trans hx177_1
              replace hx177_0 := (cell_far (p := ⟨gb176, 0, none⟩) (by first | (rw [add_block]; exact hn177_0) | (show (Addr.add _ _).block ≠ _; rw [add_block]; exact hn177_0) | exact hn177_0) (.int .u64 0)).trans hx177_0
              replace hx177_1 := (cell_far (p := ⟨gb176, 0, none⟩) (by first | (rw [add_block]; exact hn177_0) | (show (Addr.add _ _).block ≠ _; rw [add_block]; exact hn177_0) | exact hn177_0) (.int .u64 0)).trans hx177_1
              replace hx177_0 := (cell_far (p := ⟨gb176, 1, none⟩) (by first | (rw [add_block]; exact hn177_1) | (show (Addr.add _ _).block ≠ _; rw [add_block]; exact hn177_1) | exact hn177_1) (.int .u64 0)).trans hx177_0
              replace hx177_1 := (cell_far (p := ⟨gb176, 1, none⟩) (by first | (rw [add_block]; exact hn177_1) | (show (Addr.add _ _).block ≠ _; rw [add_block]; exact hn177_1) | exact hn177_1) (.int .u64 0)).trans hx177_1
              clear hn177_0
              clear hn177_1
              replace p177 := eq_true p177
              replace q177 := eq_true q177
              have hcz8_0 : w4.cell? ⟨gb176, 0, none⟩ = some (.int .u64 0) := (blk_cell BK176.out 0).trans rfl
              have hcz8_1 : w4.cell? ⟨gb176, 1, none⟩ = some (.int .u64 0) := (blk_cell BK176.out 1).trans rfl
              have hfz8_0 := blk_frozen BK176.out 0
              have hfz8_1 := blk_frozen BK176.out 1
              go_wp2
              go_meet
              case rel => exact ⟨_, ((rd_T38 l0 x4_1).f0), ((rd_T38 l0 x4_1).f1), H', ⟨by have := HK1.out; first | omega | exact Nat.le_refl _⟩, ⟨by (with_reducible repeat (first | apply Kd.R_alloc | apply Kd.R_drewN | apply Kd.R_drew)); exact Kd.R_mono (Kd.R_far (p := ⟨gb176, 1, none⟩) (Kd.R_far (p := ⟨gb176, 0, none⟩) (Kd.R_far (p := ⟨gb176, 1, none⟩) (Kd.R_far (p := ⟨gb176, 0, none⟩) (Kd.R_types HO_3.out BK176.out (by decide)) (fun _ hk => hk.2) (.int .u64 0)) (fun _ hk => hk.2) (.int .u64 0)) (fun _ hk => hk.2) (.int .u64 ((rd_T38 l0 x4_1).f0))) (fun _ hk => hk.2) (.int .u64 ((rd_T38 l0 x4_1).f1))) (fun _ hk => trivial)⟩, ⟨by (with_reducible repeat (first | refine blk_drewN ?_ _ | refine blk_drew ?_ | refine blk_alloc ?_ _)); refine blk_put (cs := #[.int .u64 ((rd_T38 l0 x4_1).f0), .int .u64 0]) ?_ 1 _ rfl; (with_reducible repeat (first | refine blk_drewN ?_ _ | refine blk_drew ?_ | refine blk_alloc ?_ _)); refine blk_put (cs := #[.int .u64 0, .int .u64 0]) ?_ 0 _ rfl; (with_reducible repeat (first | refine blk_drewN ?_ _ | refine blk_drew ?_ | refine blk_alloc ?_ _)); refine blk_put (cs := #[.int .u64 0, .int .u64 0]) ?_ 1 _ rfl; (with_reducible repeat (first | refine blk_drewN ?_ _ | refine blk_drew ?_ | refine blk_alloc ?_ _)); refine blk_put (cs := #[.int .u64 0, .int .u64 0]) ?_ 0 _ rfl; (with_reducible repeat (first | refine blk_drewN ?_ _ | refine blk_drew ?_ | refine blk_alloc ?_ _)); exact BK176.out⟩, ⟨by repeat (first | (with_reducible first | exact HB.out | apply below_alloc | apply pw_below_drewN | apply below_drew1 | refine below_set ?_ GE176.out) | exact HB.out)⟩⟩
            · rw [if_neg c7] at H
              exact absurd H (by simp)
          · rw [if_neg c6] at H
            have c6b0 : decide (x4_1 < (l0.length : Int)) = false := decide_eq_false c6
            clear c6
            (first | rw [c6b0] | (simp only [i64_w, i32_w]; rw [c6b0]) | skip)
            have H' := Aside0.mk H
            clear H
            go_wp2
            go_meet
            case rel => exact ⟨_, (0), (0), H', ⟨by have := HK1.out; first | omega | exact Nat.le_refl _⟩, ⟨by (with_reducible repeat (first | apply Kd.R_alloc | apply Kd.R_drewN | apply Kd.R_drew)); exact Kd.R_mono (Kd.R_far (p := ⟨gb176, 1, none⟩) (Kd.R_far (p := ⟨gb176, 0, none⟩) (Kd.R_types HO_3.out BK176.out (by decide)) (fun _ hk => hk.2) (.int .u64 0)) (fun _ hk => hk.2) (.int .u64 0)) (fun _ hk => trivial)⟩, ⟨by (with_reducible repeat (first | refine blk_drewN ?_ _ | refine blk_drew ?_ | refine blk_alloc ?_ _)); refine blk_put (cs := #[.int .u64 0, .int .u64 0]) ?_ 1 _ rfl; (with_reducible repeat (first | refine blk_drewN ?_ _ | refine blk_drew ?_ | refine blk_alloc ?_ _)); refine blk_put (cs := #[.int .u64 0, .int .u64 0]) ?_ 0 _ rfl; (with_reducible repeat (first | refine blk_drewN ?_ _ | refine blk_drew ?_ | refine blk_alloc ?_ _)); exact BK176.out⟩, ⟨by repeat (first | (with_reducible first | exact HB.out | apply below_alloc | apply pw_below_drewN | apply below_drew1 | refine below_set ?_ GE176.out) | exact HB.out)⟩⟩
        case rest =>
          clear HC3
          try clear c1
          try clear p1
          try clear q1
          try clear hx1
          try clear c2
          try clear c2b0
          try clear p2
          try clear c6
          try clear c6b0
          try clear c7
          try clear c7b0
          try clear hcz5_0
          try clear hcz5_1
          try clear hcz8_0
          try clear hcz8_1
          try clear hfz5_0
          try clear hfz5_1
          try clear hfz8_0
          try clear hfz8_1
          try clear hx177_0
          try clear hx177_1
          try clear p177
          try clear q177
          obtain ⟨kq, x177000_2, x177001_2, HA, HJ2, HO_3, BK176, HB⟩ := hcut
          cases kq with
          | zero => exact absurd HA.out (by simp [shacklelaw05_section.j1])
          | succ kj2 =>
            have H := HA.out
            clear HA
            simp only [shacklelaw05_section.j1] at H
            have H' := Aside0.mk H
            clear H
            go_wp2
            go_loopg [3, 6] kj2 (fun kq v3 v6 w' => ∃ (x3_3 : List Int) (x6_3 : Int) (x177000_3 : Int), v6 = .int .i64 x6_3 ∧ Aside0 (shacklelaw05_section.l1 kq l0 x3_3 x4_1 x6_3 x177000_3 x177001_2 = some r) ∧ Aside0 (kq ≤ kj2) ∧ Aside0 (Kd.R (Kd.int .u8) 5 w' w.heap.size (fun _ => True) v3 x3_3) ∧ Aside0 (w'.heap[gb176]? = some (.cells #[.int .u64 x177000_3, .int .u64 x177001_2] 38 (0, 0))) ∧ Aside0 (Below w.heap.size w w'))
            case atStart => exact ⟨(x3_1), (0), (x177000_2), (by first | rfl | (simp; done) | (simp [*]; done)), H', ⟨Nat.le_refl _⟩, ⟨by (with_reducible repeat (first | apply Kd.R_alloc | apply Kd.R_drewN | apply Kd.R_drew)); exact HO_3.out⟩, ⟨by (with_reducible repeat (first | refine blk_drewN ?_ _ | refine blk_drew ?_ | refine blk_alloc ?_ _)); exact BK176.out⟩, ⟨by repeat (first | (with_reducible first | exact HB.out | apply below_alloc | apply pw_below_drewN | apply below_drew1 | refine below_set ?_ GE176.out) | exact HB.out)⟩⟩
            case round =>
              clear H'
              try clear c1
              try clear p1
              try clear q1
              try clear hx1
              try clear c2
              try clear c2b0
              try clear p2
              try clear c6
              try clear c6b0
              try clear c7
              try clear c7b0
              try clear hcz5_0
              try clear hcz5_1
              try clear hcz8_0
              try clear hcz8_1
              try clear hfz5_0
              try clear hfz5_1
              try clear hfz8_0
              try clear hfz8_1
              try clear hx177_0
              try clear hx177_1
              try clear p1
              try clear p177
              try clear p2
              try clear q1
              try clear q177
              obtain ⟨x3_3, x6_3, x177000_3, rfl, HA, HK3, HO_3, BK176, HB⟩ := hrel
              cases gk with
              | zero => exact absurd HA.out (by simp [shacklelaw05_section.l1])
              | succ k3 =>
                have H := HA.out
                clear HA
                simp only [shacklelaw05_section.l1] at H
                by_cases c9 : x6_3 < 8
                · rw [if_pos c9] at H
                  have c9b0 : decide (x6_3 < 8) = true := decide_eq_true c9
                  clear c9
                  by_cases c10 : x3_3.length < 140737488355328
                  · rw [if_pos c10] at H
                    have LMc10 := Aside0.mk c10
                    clear c10
                    obtain ⟨y178, hy178⟩ : ∃ y_ : List Int, y_ = (x3_3 ++ [(x177000_3) % 256]) := ⟨_, rfl⟩
                    replace H : (shacklelaw05_section.l1 k3 l0 y178 x4_1 (wrap64 (x6_3 + 1)) (IntKind.u64.wrap (Int.tdiv x177000_3 256)) x177001_2) = some r := by first | (rw [hy178]; with_reducible exact H) | (have H2_ := (Option.bind_some _ _).symm.trans H; rw [hy178]; with_reducible exact H2_) | (have H2_ := (Option.bind_some _ _).symm.trans H; with_reducible exact H2_) | with_reducible exact H | (rw [hy178]; exact H) | exact H
                    have Ny178 := Aside0.mk hy178
                    clear hy178
                    have H' := Aside0.mk H
                    clear H
                    have hcz11_0 : wr.cell? ⟨gb176, 0, none⟩ = some (.int .u64 x177000_3) := (blk_cell BK176.out 0).trans rfl
                    have hcz11_1 : wr.cell? ⟨gb176, 1, none⟩ = some (.int .u64 x177001_2) := (blk_cell BK176.out 1).trans rfl
                    have hfz11_0 := blk_frozen BK176.out 0
                    have hfz11_1 := blk_frozen BK176.out 1
                    go_wp2_with (first | ((with_reducible refine gate_builtin (b := .append) (xs := #[.tmp 27, .tmp 31]) rfl ?_); at_builtin; refine Kd.R_append (Kd.int .u8) (w0 := w) w.heap.size rfl (.tmp 27) (.tmp 31) 35 5 (.int .u8 0) 1 rfl Try.underlying35 info5 rfl (by decide) (by omega) u3 x3_3 ((x177000_3) % 256) [.int .u8 ((x177000_3) % 256)] (fun _ => True) (fun _ => False) rfl rfl ?aP (fun _ hk => hk.elim) ?aF ?aO ?aB ?aS ?aL ?_; (case aP => exact rfl); (case aB => exact (by repeat (first | (with_reducible first | exact HB.out | apply below_alloc | apply pw_below_drewN | apply below_drew1 | refine below_set ?_ GE176.out) | exact HB.out))); (case aF => exact (fun _ _ => trivial)); (case aO => exact (by (with_reducible repeat (first | apply Kd.R_alloc | apply Kd.R_drewN | apply Kd.R_drew)); exact HO_3.out)); (case aS => exact (below_size (by repeat (first | (with_reducible first | exact HB.out | apply below_alloc | apply pw_below_drewN | apply below_drew1 | refine below_set ?_ GE176.out) | exact HB.out)))); (case aL => have := LMc10.out; omega); intro v179 w12 ho hb hg hat; rw [← Ny178.out] at ho; have n0_ := Aside0.mk (blk_grown (g := gb176) (o := .cells #[.int .u64 x177000_3, .int .u64 x177001_2] 38 (0, 0)) (by (with_reducible repeat (first | refine blk_drewN ?_ _ | refine blk_drew ?_ | refine blk_alloc ?_ _)); exact BK176.out) hg (Kd.R_ne HO_3.out BK176.out (by decide))); have n1_ := Aside0.mk (hb); have n2_ := Aside0.mk (ho); clear BK176; clear HB; clear HO_3; have BK176 := n0_; have HB := n1_; have HO180 := n2_; clear n0_ n1_ n2_; clear ho hb hg hat; have hcz13_0 : w12.cell? ⟨gb176, 0, none⟩ = some (.int .u64 x177000_3) := (blk_cell BK176.out 0).trans rfl; have hcz13_1 : w12.cell? ⟨gb176, 1, none⟩ = some (.int .u64 x177001_2) := (blk_cell BK176.out 1).trans rfl; have hfz13_0 := blk_frozen BK176.out 0; have hfz13_1 := blk_frozen BK176.out 1))
                    go_roundg k3
                    case measure => have := HK1.out; have := HJ2.out; have := HK3.out; omega
                    case rel => exact ⟨(y178), (wrap64 (x6_3 + 1)), (IntKind.u64.wrap (Int.tdiv x177000_3 256)), (by first | rfl | (simp; done) | (simp [*]; done)), H', ⟨by have := HK1.out; have := HJ2.out; have := HK3.out; omega⟩, ⟨by (with_reducible repeat (first | apply Kd.R_alloc | apply Kd.R_drewN | apply Kd.R_drew)); exact Kd.R_mono (Kd.R_far (p := ⟨gb176, 0, none⟩) (Kd.R_types HO180.out BK176.out (by decide)) (fun _ hk => hk.2) (.int .u64 (IntKind.u64.wrap (Int.tdiv x177000_3 256)))) (fun _ hk => trivial)⟩, ⟨by (with_reducible repeat (first | refine blk_drewN ?_ _ | refine blk_drew ?_ | refine blk_alloc ?_ _)); refine blk_put (cs := #[.int .u64 x177000_3, .int .u64 x177001_2]) ?_ 0 _ rfl; (with_reducible repeat (first | refine blk_drewN ?_ _ | refine blk_drew ?_ | refine blk_alloc ?_ _)); exact BK176.out⟩, ⟨by repeat (first | (with_reducible first | exact HB.out | apply below_alloc | apply pw_below_drewN | apply below_drew1 | refine below_set ?_ GE176.out) | exact HB.out)⟩⟩
                  · rw [if_neg c10] at H
                    exact absurd H (by simp)
                · rw [if_neg c9] at H
                  have c9b0 : decide (x6_3 < 8) = false := decide_eq_false c9
                  clear c9
                  have H' := Aside0.mk H
                  clear H
                  go_wp2
                  go_loopg [3, 7] k3 (fun kq v3 v7 w' => ∃ (x3_4 : List Int) (x7_4 : Int) (x177001_4 : Int), v7 = .int .i64 x7_4 ∧ Aside0 (shacklelaw05_section.l2 kq l0 x3_4 x4_1 x7_4 x177000_3 x177001_4 = some r) ∧ Aside0 (kq ≤ k3) ∧ Aside0 (Kd.R (Kd.int .u8) 5 w' w.heap.size (fun _ => True) v3 x3_4) ∧ Aside0 (w'.heap[gb176]? = some (.cells #[.int .u64 x177000_3, .int .u64 x177001_4] 38 (0, 0))) ∧ Aside0 (Below w.heap.size w w'))
                  case atStart => exact ⟨(x3_3), (0), (x177001_2), (by first | rfl | (simp; done) | (simp [*]; done)), H', ⟨Nat.le_refl _⟩, ⟨by (with_reducible repeat (first | apply Kd.R_alloc | apply Kd.R_drewN | apply Kd.R_drew)); exact HO_3.out⟩, ⟨by (with_reducible repeat (first | refine blk_drewN ?_ _ | refine blk_drew ?_ | refine blk_alloc ?_ _)); exact BK176.out⟩, ⟨by repeat (first | (with_reducible first | exact HB.out | apply below_alloc | apply pw_below_drewN | apply below_drew1 | refine below_set ?_ GE176.out) | exact HB.out)⟩⟩
                  case round =>
                    clear H'
                    try clear c1
                    try clear p1
                    try clear q1
                    try clear hx1
                    try clear c2
                    try clear c2b0
                    try clear p2
                    try clear c6
                    try clear c6b0
                    try clear p6
                    try clear c7
                    try clear c7b0
                    try clear c9
                    try clear c9b0
                    try clear c10
                    try clear c12
                    try clear hcz11_0
                    try clear hcz11_1
                    try clear hcz13_0
                    try clear hcz13_1
                    try clear hcz5_0
                    try clear hcz5_1
                    try clear hcz8_0
                    try clear hcz8_1
                    try clear hfz11_0
                    try clear hfz11_1
                    try clear hfz13_0
                    try clear hfz13_1
                    try clear hfz5_0
                    try clear hfz5_1
                    try clear hfz8_0
                    try clear hfz8_1
                    try clear hx177_0
                    try clear hx177_1
                    try clear p1
                    try clear p177
                    try clear p2
                    try clear q1
                    try clear q177
                    obtain ⟨x3_4, x7_4, x177001_4, rfl, HA, HK4, HO_3, BK176, HB⟩ := hrel
                    cases gk with
                    | zero => exact absurd HA.out (by simp [shacklelaw05_section.l2])
                    | succ k4 =>
                      have H := HA.out
                      clear HA
                      simp only [shacklelaw05_section.l2] at H
                      by_cases c14 : x7_4 < 8
                      · rw [if_pos c14] at H
                        have c14b0 : decide (x7_4 < 8) = true := decide_eq_true c14
                        clear c14
                        by_cases c15 : x3_4.length < 140737488355328
                        · rw [if_pos c15] at H
                          have LMc15 := Aside0.mk c15
                          clear c15
                          obtain ⟨y181, hy181⟩ : ∃ y_ : List Int, y_ = (x3_4 ++ [(x177001_4) % 256]) := ⟨_, rfl⟩
                          replace H : (shacklelaw05_section.l2 k4 l0 y181 x4_1 (wrap64 (x7_4 + 1)) x177000_3 (IntKind.u64.wrap (Int.tdiv x177001_4 256))) = some r := by first | (rw [hy181]; with_reducible exact H) | (have H2_ := (Option.bind_some _ _).symm.trans H; rw [hy181]; with_reducible exact H2_) | (have H2_ := (Option.bind_some _ _).symm.trans H; with_reducible exact H2_) | with_reducible exact H | (rw [hy181]; exact H) | exact H
                          have Ny181 := Aside0.mk hy181
                          clear hy181
                          have H' := Aside0.mk H
                          clear H
                          have hcz16_0 : wr.cell? ⟨gb176, 0, none⟩ = some (.int .u64 x177000_3) := (blk_cell BK176.out 0).trans rfl
                          have hcz16_1 : wr.cell? ⟨gb176, 1, none⟩ = some (.int .u64 x177001_4) := (blk_cell BK176.out 1).trans rfl
                          have hfz16_0 := blk_frozen BK176.out 0
                          have hfz16_1 := blk_frozen BK176.out 1
                          go_wp2_with (first | ((with_reducible refine gate_builtin (b := .append) (xs := #[.tmp 41, .tmp 45]) rfl ?_); at_builtin; refine Kd.R_append (Kd.int .u8) (w0 := w) w.heap.size rfl (.tmp 41) (.tmp 45) 35 5 (.int .u8 0) 1 rfl Try.underlying35 info5 rfl (by decide) (by omega) u3 x3_4 ((x177001_4) % 256) [.int .u8 ((x177001_4) % 256)] (fun _ => True) (fun _ => False) rfl rfl ?aP (fun _ hk => hk.elim) ?aF ?aO ?aB ?aS ?aL ?_; (case aP => exact rfl); (case aB => exact (by repeat (first | (with_reducible first | exact HB.out | apply below_alloc | apply pw_below_drewN | apply below_drew1 | refine below_set ?_ GE176.out) | exact HB.out))); (case aF => exact (fun _ _ => trivial)); (case aO => exact (by (with_reducible repeat (first | apply Kd.R_alloc | apply Kd.R_drewN | apply Kd.R_drew)); exact HO_3.out)); (case aS => exact (below_size (by repeat (first | (with_reducible first | exact HB.out | apply below_alloc | apply pw_below_drewN | apply below_drew1 | refine below_set ?_ GE176.out) | exact HB.out)))); (case aL => have := LMc15.out; omega); intro v182 w17 ho hb hg hat; rw [← Ny181.out] at ho; have n0_ := Aside0.mk (blk_grown (g := gb176) (o := .cells #[.int .u64 x177000_3, .int .u64 x177001_4] 38 (0, 0)) (by (with_reducible repeat (first | refine blk_drewN ?_ _ | refine blk_drew ?_ | refine blk_alloc ?_ _)); exact BK176.out) hg (Kd.R_ne HO_3.out BK176.out (by decide))); have n1_ := Aside0.mk (hb); have n2_ := Aside0.mk (ho); clear BK176; clear HB; clear HO_3; have BK176 := n0_; have HB := n1_; have HO183 := n2_; clear n0_ n1_ n2_; clear ho hb hg hat; have hcz18_0 : w17.cell? ⟨gb176, 0, none⟩ = some (.int .u64 x177000_3) := (blk_cell BK176.out 0).trans rfl; have hcz18_1 : w17.cell? ⟨gb176, 1, none⟩ = some (.int .u64 x177001_4) := (blk_cell BK176.out 1).trans rfl; have hfz18_0 := blk_frozen BK176.out 0; have hfz18_1 := blk_frozen BK176.out 1))
                          go_roundg k4
                          case measure => have := HK1.out; have := HJ2.out; have := HK3.out; have := HK4.out; omega
                          case rel => exact ⟨(y181), (wrap64 (x7_4 + 1)), (IntKind.u64.wrap (Int.tdiv x177001_4 256)), (by first | rfl | (simp; done) | (simp [*]; done)), H', ⟨by have := HK1.out; have := HJ2.out; have := HK3.out; have := HK4.out; omega⟩, ⟨by (with_reducible repeat (first | apply Kd.R_alloc | apply Kd.R_drewN | apply Kd.R_drew)); exact Kd.R_mono (Kd.R_far (p := ⟨gb176, 1, none⟩) (Kd.R_types HO183.out BK176.out (by decide)) (fun _ hk => hk.2) (.int .u64 (IntKind.u64.wrap (Int.tdiv x177001_4 256)))) (fun _ hk => trivial)⟩, ⟨by (with_reducible repeat (first | refine blk_drewN ?_ _ | refine blk_drew ?_ | refine blk_alloc ?_ _)); refine blk_put (cs := #[.int .u64 x177000_3, .int .u64 x177001_4]) ?_ 1 _ rfl; (with_reducible repeat (first | refine blk_drewN ?_ _ | refine blk_drew ?_ | refine blk_alloc ?_ _)); exact BK176.out⟩, ⟨by repeat (first | (with_reducible first | exact HB.out | apply below_alloc | apply pw_below_drewN | apply below_drew1 | refine below_set ?_ GE176.out) | exact HB.out)⟩⟩
                        · rw [if_neg c15] at H
                          exact absurd H (by simp)
                      · rw [if_neg c14] at H
                        have c14b0 : decide (x7_4 < 8) = false := decide_eq_false c14
                        clear c14
                        have H' := Aside0.mk H
                        clear H
                        go_wp2
                        go_roundg k4
                        case measure => have := HK1.out; have := HJ2.out; have := HK3.out; have := HK4.out; omega
                        case rel => exact ⟨(x3_4), (wrap64 (x4_1 + 1)), (by first | rfl | (simp; done) | (simp [*]; done)), H', ⟨by have := HK1.out; have := HJ2.out; have := HK3.out; have := HK4.out; omega⟩, ⟨by (with_reducible repeat (first | apply Kd.R_alloc | apply Kd.R_drewN | apply Kd.R_drew)); exact HO_3.out⟩, ⟨by repeat (first | (with_reducible first | exact HB.out | apply below_alloc | apply pw_below_drewN | apply below_drew1 | refine below_set ?_ GE176.out) | exact HB.out)⟩⟩
      · rw [if_neg c2] at H
        have c2b0 : decide (x4_1 ≤ (l0.length : Int)) = false := decide_eq_false c2
        clear c2
        obtain rfl := Option.some.inj H
        go_wp2
        go_ret
        exact ⟨_, by first | rfl | (simp [errW_none, errW_some] <;> rfl) | (simp [*, errW_none, errW_some] <;> rfl), by (with_reducible repeat (first | apply Kd.R_alloc | apply Kd.R_drewN | apply Kd.R_drew)); exact HO_3.out, by repeat (first | (with_reducible first | exact HB.out | apply below_alloc | apply pw_below_drewN | apply below_drew1) | exact HB.out)⟩

/-! ### shacklelaw05_pick: function 13 -/
def shacklelaw05_pick.f (a0 : Int) (a1 : Int) : Option (Int) := if a0 < 0 then (if a1 = 0 then (none) else (some (Int.tmod (wrap64 (-(wrap64 (a0 + 1)))) a1))) else (if a1 = 0 then (none) else (some (Int.tmod a0 a1)))
set_option maxHeartbeats 8000000 in
set_option maxRecDepth 100000 in
theorem shacklelaw05_pick.calls (a0 : Int) (a1 : Int) (r : Int) (w : World) (h : shacklelaw05_pick.f a0 a1 = some r) :
    Calls Try.prog 13 #[.int .i64 a0, .int .i64 a1] w fun e w' => e = .returned (.int .i64 r) ∧ Drawn0 w w' := by
  have H : (if a0 < 0 then (if a1 = 0 then (none) else (some (Int.tmod (wrap64 (-(wrap64 (a0 + 1)))) a1))) else (if a1 = 0 then (none) else (some (Int.tmod a0 a1)))) = some r := h
  clear h
  by_cases c3 : a0 < 0
  · rw [if_pos c3] at H
    have c3b0 : decide (a0 < 0) = true := decide_eq_true c3
    clear c3
    by_cases c4 : a1 = 0
    · rw [if_pos c4] at H
      exact absurd H (by simp)
    · rw [if_neg c4] at H
      have c4b0 : (a1 == 0) = false := beq_eq_false_iff_ne.mpr c4
      have c4b1 : (a1 != 0) = true := bne_iff_ne.mpr c4
      obtain rfl := Option.some.inj H
      go_enter Try.func13, Try.ntmps13
      go_wp2
      go_ret
      exact ⟨by first | rfl | (simp; done) | (simp [*]; done), by repeat (first | exact Drawn0.refl _ | apply Drawn0.step)⟩
  · rw [if_neg c3] at H
    have c3b0 : decide (a0 < 0) = false := decide_eq_false c3
    clear c3
    by_cases c5 : a1 = 0
    · rw [if_pos c5] at H
      exact absurd H (by simp)
    · rw [if_neg c5] at H
      have c5b0 : (a1 == 0) = false := beq_eq_false_iff_ne.mpr c5
      have c5b1 : (a1 != 0) = true := bne_iff_ne.mpr c5
      obtain rfl := Option.some.inj H
      go_enter Try.func13, Try.ntmps13
      go_wp2
      go_ret
      exact ⟨by first | rfl | (simp; done) | (simp [*]; done), by repeat (first | exact Drawn0.refl _ | apply Drawn0.step)⟩

/-! ### shackleref05_fields: function 31 -/
def shackleref05_fields.f (l0_0 : List Int) (a0_1 : Int) (a0_2 : Int) (a0_3 : Int) (a0_4 : Int) (a0_5 : Int) (a0_6 : Int) (a0_7 : Int) (a0_8 : Int) (a0_9 : Int) (a0_10 : Int) (a0_11 : Int) (a0_12 : Int) (a0_13 : Int) (a0_14 : Bool) (a0_15 : Bool) (a0_16 : Bool) (a0_17 : Int) (a0_18 : Int) (a0_19 : Int) (a0_20 : Int) (a0_21 : Int) (a0_22 : Int) (a0_23 : Int) (a0_24 : Int) (a0_25 : Int) (a0_26 : Int) (a0_27 : Int) (a0_28 : Int) (a0_29 : Int) (a0_30 : Int) (a0_31 : Int) (a0_32 : Bool) (a0_33 : Bool) (a0_34 : Bool) (a0_35 : Bool) (a0_36 : Bool) : Option (List Int) := some (([a0_1, a0_2, a0_3, a0_4, a0_5, a0_6, a0_7, a0_8, a0_9, a0_10, a0_11, a0_12, a0_13, a0_17, a0_18, a0_19, a0_20, a0_21, a0_22, a0_23, a0_24, a0_25, a0_26, a0_27, a0_28, a0_29, a0_30, a0_31] : List Int))
set_option maxHeartbeats 8000000 in
set_option maxRecDepth 100000 in
theorem shackleref05_fields.calls (A0_0 : Option Addr) (c0_0 : Nat) (l0_0 : List Int) (a0_1 : Int) (a0_2 : Int) (a0_3 : Int) (a0_4 : Int) (a0_5 : Int) (a0_6 : Int) (a0_7 : Int) (a0_8 : Int) (a0_9 : Int) (a0_10 : Int) (a0_11 : Int) (a0_12 : Int) (a0_13 : Int) (a0_14 : Bool) (a0_15 : Bool) (a0_16 : Bool) (a0_17 : Int) (a0_18 : Int) (a0_19 : Int) (a0_20 : Int) (a0_21 : Int) (a0_22 : Int) (a0_23 : Int) (a0_24 : Int) (a0_25 : Int) (a0_26 : Int) (a0_27 : Int) (a0_28 : Int) (a0_29 : Int) (a0_30 : Int) (a0_31 : Int) (a0_32 : Bool) (a0_33 : Bool) (a0_34 : Bool) (a0_35 : Bool) (a0_36 : Bool) (r : List Int) (w : World) (hr0_0 : Kd.C (Kd.int .u64) w A0_0 l0_0.length l0_0) (hc0_0 : l0_0.length ≤ c0_0) (h : shackleref05_fields.f l0_0 a0_1 a0_2 a0_3 a0_4 a0_5 a0_6 a0_7 a0_8 a0_9 a0_10 a0_11 a0_12 a0_13 a0_14 a0_15 a0_16 a0_17 a0_18 a0_19 a0_20 a0_21 a0_22 a0_23 a0_24 a0_25 a0_26 a0_27 a0_28 a0_29 a0_30 a0_31 a0_32 a0_33 a0_34 a0_35 a0_36 = some r) :
    Calls Try.prog 31 #[.agg #[.slice A0_0 l0_0.length c0_0, .int .u64 a0_1, .int .u64 a0_2, .int .u64 a0_3, .int .u64 a0_4, .int .u64 a0_5, .int .u64 a0_6, .int .u64 a0_7, .int .u64 a0_8, .int .u64 a0_9, .int .u64 a0_10, .int .u64 a0_11, .int .u64 a0_12, .int .u64 a0_13, .bool a0_14, .bool a0_15, .bool a0_16, .int .u64 a0_17, .int .u64 a0_18, .int .u64 a0_19, .int .u64 a0_20, .int .u64 a0_21, .int .u64 a0_22, .int .u64 a0_23, .int .u64 a0_24, .int .u64 a0_25, .int .u64 a0_26, .int .u64 a0_27, .int .u64 a0_28, .int .u64 a0_29, .int .u64 a0_30, .int .u64 a0_31, .bool a0_32, .bool a0_33, .bool a0_34, .bool a0_35, .bool a0_36]] w fun e w' => ∃ v0_ : Value, e = .returned (v0_) ∧ Kd.R (Kd.int .u64) 36 w' w.heap.size (fun _ => True) v0_ r ∧ Below w.heap.size w w' := by
  have hu43 := Try.underlying43
  have HR0_0 := Aside0.mk hr0_0
  have HC0_0 := Aside0.mk hc0_0
  clear hr0_0 hc0_0
  have HB := Aside0.mk (Below.refl w.heap.size w)
  have H : (some (([a0_1, a0_2, a0_3, a0_4, a0_5, a0_6, a0_7, a0_8, a0_9, a0_10, a0_11, a0_12, a0_13, a0_17, a0_18, a0_19, a0_20, a0_21, a0_22, a0_23, a0_24, a0_25, a0_26, a0_27, a0_28, a0_29, a0_30, a0_31] : List Int))) = some r := h
  clear h
  obtain ⟨y185, hy185⟩ : ∃ y_ : List Int, y_ = (([a0_1, a0_2, a0_3, a0_4, a0_5, a0_6, a0_7, a0_8, a0_9, a0_10, a0_11, a0_12, a0_13, a0_17, a0_18, a0_19, a0_20, a0_21, a0_22, a0_23, a0_24, a0_25, a0_26, a0_27, a0_28, a0_29, a0_30, a0_31] : List Int)) := ⟨_, rfl⟩
  replace H : (some y185) = some r := by first | (rw [hy185]; with_reducible exact H) | (have H2_ := (Option.bind_some _ _).symm.trans H; rw [hy185]; with_reducible exact H2_) | (have H2_ := (Option.bind_some _ _).symm.trans H; with_reducible exact H2_) | with_reducible exact H | (rw [hy185]; exact H) | exact H
  have Ny185 := Aside0.mk hy185
  clear hy185
  obtain rfl := Option.some.inj H
  go_enter Try.func31, Try.ntmps31
  go_wp2_with (first | ((with_reducible refine gate_dst (N := 1) rfl ?_); refine box_event ?hg (N := 1) ?hd (cs := #[.slice A0_0 l0_0.length c0_0, .int .u64 a0_1, .int .u64 a0_2, .int .u64 a0_3, .int .u64 a0_4, .int .u64 a0_5, .int .u64 a0_6, .int .u64 a0_7, .int .u64 a0_8, .int .u64 a0_9, .int .u64 a0_10, .int .u64 a0_11, .int .u64 a0_12, .int .u64 a0_13, .bool a0_14, .bool a0_15, .bool a0_16, .int .u64 a0_17, .int .u64 a0_18, .int .u64 a0_19, .int .u64 a0_20, .int .u64 a0_21, .int .u64 a0_22, .int .u64 a0_23, .int .u64 a0_24, .int .u64 a0_25, .int .u64 a0_26, .int .u64 a0_27, .int .u64 a0_28, .int .u64 a0_29, .int .u64 a0_30, .int .u64 a0_31, .bool a0_32, .bool a0_33, .bool a0_34, .bool a0_35, .bool a0_36]) (t := 43) ?hr ?_; (case hd => rfl); (case hg => rfl); (case hr => first | (go_simp; done) | (go_simp; rfl)); intro gb184 hg w2 hbox hb; have n0_ := Aside0.mk (below_step (by repeat (first | (with_reducible first | exact HB.out | apply below_alloc | apply pw_below_drewN | apply below_drew1) | exact HB.out)) hb); have n1_ := Aside0.mk (hbox); have n2_ := Aside0.mk ((by rw [hg]; exact (below_size (by repeat (first | (with_reducible first | exact HB.out | apply below_alloc | apply pw_below_drewN | apply below_drew1) | exact HB.out))) : w.heap.size ≤ gb184)); have n3_ := Aside0.mk ((by rw [hg]; exact (below_size (by repeat (first | (with_reducible first | exact HB.out | apply below_alloc | apply pw_below_drewN | apply below_drew1) | exact HB.out))) : w.heap.size ≤ gb184)); clear HB; have HB := n0_; have BK184 := n1_; have GW184 := n2_; have GE184 := n3_; clear n0_ n1_ n2_ n3_; clear hb hbox hg; have hcz3_0 : w2.cell? ⟨gb184, 0, none⟩ = some (.slice A0_0 l0_0.length c0_0) := (blk_cell BK184.out 0).trans rfl; have hcz3_1 : w2.cell? ⟨gb184, 1, none⟩ = some (.int .u64 a0_1) := (blk_cell BK184.out 1).trans rfl; have hcz3_2 : w2.cell? ⟨gb184, 2, none⟩ = some (.int .u64 a0_2) := (blk_cell BK184.out 2).trans rfl; have hcz3_3 : w2.cell? ⟨gb184, 3, none⟩ = some (.int .u64 a0_3) := (blk_cell BK184.out 3).trans rfl; have hcz3_4 : w2.cell? ⟨gb184, 4, none⟩ = some (.int .u64 a0_4) := (blk_cell BK184.out 4).trans rfl; have hcz3_5 : w2.cell? ⟨gb184, 5, none⟩ = some (.int .u64 a0_5) := (blk_cell BK184.out 5).trans rfl; have hcz3_6 : w2.cell? ⟨gb184, 6, none⟩ = some (.int .u64 a0_6) := (blk_cell BK184.out 6).trans rfl; have hcz3_7 : w2.cell? ⟨gb184, 7, none⟩ = some (.int .u64 a0_7) := (blk_cell BK184.out 7).trans rfl; have hcz3_8 : w2.cell? ⟨gb184, 8, none⟩ = some (.int .u64 a0_8) := (blk_cell BK184.out 8).trans rfl; have hcz3_9 : w2.cell? ⟨gb184, 9, none⟩ = some (.int .u64 a0_9) := (blk_cell BK184.out 9).trans rfl; have hcz3_10 : w2.cell? ⟨gb184, 10, none⟩ = some (.int .u64 a0_10) := (blk_cell BK184.out 10).trans rfl; have hcz3_11 : w2.cell? ⟨gb184, 11, none⟩ = some (.int .u64 a0_11) := (blk_cell BK184.out 11).trans rfl; have hcz3_12 : w2.cell? ⟨gb184, 12, none⟩ = some (.int .u64 a0_12) := (blk_cell BK184.out 12).trans rfl; have hcz3_13 : w2.cell? ⟨gb184, 13, none⟩ = some (.int .u64 a0_13) := (blk_cell BK184.out 13).trans rfl; have hcz3_14 : w2.cell? ⟨gb184, 14, none⟩ = some (.bool a0_14) := (blk_cell BK184.out 14).trans rfl; have hcz3_15 : w2.cell? ⟨gb184, 15, none⟩ = some (.bool a0_15) := (blk_cell BK184.out 15).trans rfl; have hcz3_16 : w2.cell? ⟨gb184, 16, none⟩ = some (.bool a0_16) := (blk_cell BK184.out 16).trans rfl; have hcz3_17 : w2.cell? ⟨gb184, 17, none⟩ = some (.int .u64 a0_17) := (blk_cell BK184.out 17).trans rfl; have hcz3_18 : w2.cell? ⟨gb184, 18, none⟩ = some (.int .u64 a0_18) := (blk_cell BK184.out 18).trans rfl; have hcz3_19 : w2.cell? ⟨gb184, 19, none⟩ = some (.int .u64 a0_19) := (blk_cell BK184.out 19).trans rfl; have hcz3_20 : w2.cell? ⟨gb184, 20, none⟩ = some (.int .u64 a0_20) := (blk_cell BK184.out 20).trans rfl; have hcz3_21 : w2.cell? ⟨gb184, 21, none⟩ = some (.int .u64 a0_21) := (blk_cell BK184.out 21).trans rfl; have hcz3_22 : w2.cell? ⟨gb184, 22, none⟩ = some (.int .u64 a0_22) := (blk_cell BK184.out 22).trans rfl; have hcz3_23 : w2.cell? ⟨gb184, 23, none⟩ = some (.int .u64 a0_23) := (blk_cell BK184.out 23).trans rfl; have hcz3_24 : w2.cell? ⟨gb184, 24, none⟩ = some (.int .u64 a0_24) := (blk_cell BK184.out 24).trans rfl; have hcz3_25 : w2.cell? ⟨gb184, 25, none⟩ = some (.int .u64 a0_25) := (blk_cell BK184.out 25).trans rfl; have hcz3_26 : w2.cell? ⟨gb184, 26, none⟩ = some (.int .u64 a0_26) := (blk_cell BK184.out 26).trans rfl; have hcz3_27 : w2.cell? ⟨gb184, 27, none⟩ = some (.int .u64 a0_27) := (blk_cell BK184.out 27).trans rfl; have hcz3_28 : w2.cell? ⟨gb184, 28, none⟩ = some (.int .u64 a0_28) := (blk_cell BK184.out 28).trans rfl; have hcz3_29 : w2.cell? ⟨gb184, 29, none⟩ = some (.int .u64 a0_29) := (blk_cell BK184.out 29).trans rfl; have hcz3_30 : w2.cell? ⟨gb184, 30, none⟩ = some (.int .u64 a0_30) := (blk_cell BK184.out 30).trans rfl; have hcz3_31 : w2.cell? ⟨gb184, 31, none⟩ = some (.int .u64 a0_31) := (blk_cell BK184.out 31).trans rfl; have hcz3_32 : w2.cell? ⟨gb184, 32, none⟩ = some (.bool a0_32) := (blk_cell BK184.out 32).trans rfl; have hcz3_33 : w2.cell? ⟨gb184, 33, none⟩ = some (.bool a0_33) := (blk_cell BK184.out 33).trans rfl; have hcz3_34 : w2.cell? ⟨gb184, 34, none⟩ = some (.bool a0_34) := (blk_cell BK184.out 34).trans rfl; have hcz3_35 : w2.cell? ⟨gb184, 35, none⟩ = some (.bool a0_35) := (blk_cell BK184.out 35).trans rfl; have hcz3_36 : w2.cell? ⟨gb184, 36, none⟩ = some (.bool a0_36) := (blk_cell BK184.out 36).trans rfl; have hfz3_0 := blk_frozen BK184.out 0; have hfz3_1 := blk_frozen BK184.out 1; have hfz3_2 := blk_frozen BK184.out 2; have hfz3_3 := blk_frozen BK184.out 3; have hfz3_4 := blk_frozen BK184.out 4; have hfz3_5 := blk_frozen BK184.out 5; have hfz3_6 := blk_frozen BK184.out 6; have hfz3_7 := blk_frozen BK184.out 7; have hfz3_8 := blk_frozen BK184.out 8; have hfz3_9 := blk_frozen BK184.out 9; have hfz3_10 := blk_frozen BK184.out 10; have hfz3_11 := blk_frozen BK184.out 11; have hfz3_12 := blk_frozen BK184.out 12; have hfz3_13 := blk_frozen BK184.out 13; have hfz3_14 := blk_frozen BK184.out 14; have hfz3_15 := blk_frozen BK184.out 15; have hfz3_16 := blk_frozen BK184.out 16; have hfz3_17 := blk_frozen BK184.out 17; have hfz3_18 := blk_frozen BK184.out 18; have hfz3_19 := blk_frozen BK184.out 19; have hfz3_20 := blk_frozen BK184.out 20; have hfz3_21 := blk_frozen BK184.out 21; have hfz3_22 := blk_frozen BK184.out 22; have hfz3_23 := blk_frozen BK184.out 23; have hfz3_24 := blk_frozen BK184.out 24; have hfz3_25 := blk_frozen BK184.out 25; have hfz3_26 := blk_frozen BK184.out 26; have hfz3_27 := blk_frozen BK184.out 27; have hfz3_28 := blk_frozen BK184.out 28; have hfz3_29 := blk_frozen BK184.out 29; have hfz3_30 := blk_frozen BK184.out 30; have hfz3_31 := blk_frozen BK184.out 31; have hfz3_32 := blk_frozen BK184.out 32; have hfz3_33 := blk_frozen BK184.out 33; have hfz3_34 := blk_frozen BK184.out 34; have hfz3_35 := blk_frozen BK184.out 35; have hfz3_36 := blk_frozen BK184.out 36) | ((with_reducible refine gate_dst (N := 59) rfl ?_); refine Kd.R_lit (Kd.int .u64) _ 36 ?hg (N := 59) ?hd (xs := ([a0_1, a0_2, a0_3, a0_4, a0_5, a0_6, a0_7, a0_8, a0_9, a0_10, a0_11, a0_12, a0_13, a0_17, a0_18, a0_19, a0_20, a0_21, a0_22, a0_23, a0_24, a0_25, a0_26, a0_27, a0_28, a0_29, a0_30, a0_31] : List Int)) (inner := [.int .u64 a0_1, .int .u64 a0_2, .int .u64 a0_3, .int .u64 a0_4, .int .u64 a0_5, .int .u64 a0_6, .int .u64 a0_7, .int .u64 a0_8, .int .u64 a0_9, .int .u64 a0_10, .int .u64 a0_11, .int .u64 a0_12, .int .u64 a0_13, .int .u64 a0_17, .int .u64 a0_18, .int .u64 a0_19, .int .u64 a0_20, .int .u64 a0_21, .int .u64 a0_22, .int .u64 a0_23, .int .u64 a0_24, .int .u64 a0_25, .int .u64 a0_26, .int .u64 a0_27, .int .u64 a0_28, .int .u64 a0_29, .int .u64 a0_30, .int .u64 a0_31]) (ok := fun _ => True) (okp := fun _ => True) ?hr ?hp (fun _ hk => hk) trivial (Below.refl _ _) (Nat.le_refl _) (by simp) ?_; (case hd => rfl); (case hg => rfl); (case hr => first | (go_simp; done) | (go_simp; rfl)); (case hp => exact (Reps.one (show Kd.M (Kd.int .u64) _ _ _ a0_1 [.int .u64 a0_1] from rfl) (Reps.one (show Kd.M (Kd.int .u64) _ _ _ a0_2 [.int .u64 a0_2] from rfl) (Reps.one (show Kd.M (Kd.int .u64) _ _ _ a0_3 [.int .u64 a0_3] from rfl) (Reps.one (show Kd.M (Kd.int .u64) _ _ _ a0_4 [.int .u64 a0_4] from rfl) (Reps.one (show Kd.M (Kd.int .u64) _ _ _ a0_5 [.int .u64 a0_5] from rfl) (Reps.one (show Kd.M (Kd.int .u64) _ _ _ a0_6 [.int .u64 a0_6] from rfl) (Reps.one (show Kd.M (Kd.int .u64) _ _ _ a0_7 [.int .u64 a0_7] from rfl) (Reps.one (show Kd.M (Kd.int .u64) _ _ _ a0_8 [.int .u64 a0_8] from rfl) (Reps.one (show Kd.M (Kd.int .u64) _ _ _ a0_9 [.int .u64 a0_9] from rfl) (Reps.one (show Kd.M (Kd.int .u64) _ _ _ a0_10 [.int .u64 a0_10] from rfl) (Reps.one (show Kd.M (Kd.int .u64) _ _ _ a0_11 [.int .u64 a0_11] from rfl) (Reps.one (show Kd.M (Kd.int .u64) _ _ _ a0_12 [.int .u64 a0_12] from rfl) (Reps.one (show Kd.M (Kd.int .u64) _ _ _ a0_13 [.int .u64 a0_13] from rfl) (Reps.one (show Kd.M (Kd.int .u64) _ _ _ a0_17 [.int .u64 a0_17] from rfl) (Reps.one (show Kd.M (Kd.int .u64) _ _ _ a0_18 [.int .u64 a0_18] from rfl) (Reps.one (show Kd.M (Kd.int .u64) _ _ _ a0_19 [.int .u64 a0_19] from rfl) (Reps.one (show Kd.M (Kd.int .u64) _ _ _ a0_20 [.int .u64 a0_20] from rfl) (Reps.one (show Kd.M (Kd.int .u64) _ _ _ a0_21 [.int .u64 a0_21] from rfl) (Reps.one (show Kd.M (Kd.int .u64) _ _ _ a0_22 [.int .u64 a0_22] from rfl) (Reps.one (show Kd.M (Kd.int .u64) _ _ _ a0_23 [.int .u64 a0_23] from rfl) (Reps.one (show Kd.M (Kd.int .u64) _ _ _ a0_24 [.int .u64 a0_24] from rfl) (Reps.one (show Kd.M (Kd.int .u64) _ _ _ a0_25 [.int .u64 a0_25] from rfl) (Reps.one (show Kd.M (Kd.int .u64) _ _ _ a0_26 [.int .u64 a0_26] from rfl) (Reps.one (show Kd.M (Kd.int .u64) _ _ _ a0_27 [.int .u64 a0_27] from rfl) (Reps.one (show Kd.M (Kd.int .u64) _ _ _ a0_28 [.int .u64 a0_28] from rfl) (Reps.one (show Kd.M (Kd.int .u64) _ _ _ a0_29 [.int .u64 a0_29] from rfl) (Reps.one (show Kd.M (Kd.int .u64) _ _ _ a0_30 [.int .u64 a0_30] from rfl) (Reps.one (show Kd.M (Kd.int .u64) _ _ _ a0_31 [.int .u64 a0_31] from rfl) (Reps.none _ _)))))))))))))))))))))))))))))); intro v186 w4 ho5 hb hg_ hnew_; clear hg_ hnew_; (first | rw [← Ny185.out] at ho5 | (simp only [Int.reduceToNat] at ho5; rw [← Ny185.out] at ho5)); have n0_ := Aside0.mk (Kd.R_lower ho5 (below_size (by repeat (first | (with_reducible first | exact HB.out | apply below_alloc | apply pw_below_drewN | apply below_drew1 | refine below_set ?_ GE184.out) | exact HB.out)))); have n1_ := Aside0.mk (blk_below (g := gb184) (o := .cells #[.slice A0_0 l0_0.length c0_0, .int .u64 a0_1, .int .u64 a0_2, .int .u64 a0_3, .int .u64 a0_4, .int .u64 a0_5, .int .u64 a0_6, .int .u64 a0_7, .int .u64 a0_8, .int .u64 a0_9, .int .u64 a0_10, .int .u64 a0_11, .int .u64 a0_12, .int .u64 a0_13, .bool a0_14, .bool a0_15, .bool a0_16, .int .u64 a0_17, .int .u64 a0_18, .int .u64 a0_19, .int .u64 a0_20, .int .u64 a0_21, .int .u64 a0_22, .int .u64 a0_23, .int .u64 a0_24, .int .u64 a0_25, .int .u64 a0_26, .int .u64 a0_27, .int .u64 a0_28, .int .u64 a0_29, .int .u64 a0_30, .int .u64 a0_31, .bool a0_32, .bool a0_33, .bool a0_34, .bool a0_35, .bool a0_36] 43 (0, 0)) (by (with_reducible repeat (first | refine blk_drewN ?_ _ | refine blk_drew ?_ | refine blk_alloc ?_ _)); exact BK184.out) hb); have n2_ := Aside0.mk (below_step (by repeat (first | (with_reducible first | exact HB.out | apply below_alloc | apply pw_below_drewN | apply below_drew1 | refine below_set ?_ GE184.out) | exact HB.out)) hb); clear BK184; clear HB; have HO187 := n0_; have BK184 := n1_; have HB := n2_; clear n0_ n1_ n2_; clear hb ho5))
  go_ret
  exact ⟨_, by first | rfl | (simp [errW_none, errW_some] <;> rfl) | (simp [*, errW_none, errW_some] <;> rfl), by (with_reducible repeat (first | apply Kd.R_alloc | apply Kd.R_drewN | apply Kd.R_drew)); exact HO187.out, by repeat (first | (with_reducible first | exact HB.out | apply below_alloc | apply pw_below_drewN | apply below_drew1 | refine below_set ?_ GE184.out) | exact HB.out)⟩

end Go.Proofs.Ytjbndfogjmfbhaa.PDynOrders
