/- Printed by this session's own program (wip/tools: a turn of the kit's print) out of the translation: each Go function that the law reaches as a Lean function, and that the machine's call comes to what that function tells; no condition but what each theorem names. -/
import Derived.Test.YtjbndfogjmfbhaaPDynOrdersx0
namespace Go.Proofs.Ytjbndfogjmfbhaa.PDynOrders
open Go.RowKit Go.Proofs.YtjbndfogjmfbhaaW.PrintWords Go.Proofs.YtjbndfogjmfbhaaW.PrintLast Go.Proofs.YtjbndfogjmfbhaaW.PrintMore Go.Proofs.YtjbndfogjmfbhaaX
attribute [local go_sem] max2_int min2_int max_two min_two max_three min_three max_four min_four   -- for this text's walks alone
set_option linter.unusedVariables false
set_option linter.unusedSimpArgs false

/-! ### dyn_Offset: function 28 -/
mutual
def dyn_Offset.l0 : Nat → Int → Int → List (S50) → Int → Int → Option (Int × Option Int)
  | 0, _, _, _, _, _ => none
  | k + 1, x1, x2, x12, x13, x14 => if x14 < x13 then (if 0 ≤ x14 then (if x14 < (x12.length : Int) then (if ((rd_T50 x12 x14).f0) = 1 then (dyn_Offset.j1 k x1 x2 x12 x13 x14 (decide (x1 < ((rd_T50 x12 x14).f3))) ((rd_T50 x12 x14).f0) ((rd_T50 x12 x14).f1) ((rd_T50 x12 x14).f2) ((rd_T50 x12 x14).f3) ((rd_T50 x12 x14).f4) ((rd_T50 x12 x14).f5) ((rd_T50 x12 x14).f6)) else (dyn_Offset.j1 k x1 x2 x12 x13 x14 true ((rd_T50 x12 x14).f0) ((rd_T50 x12 x14).f1) ((rd_T50 x12 x14).f2) ((rd_T50 x12 x14).f3) ((rd_T50 x12 x14).f4) ((rd_T50 x12 x14).f5) ((rd_T50 x12 x14).f6))) else (none)) else (none)) else (some (0, some 4))
def dyn_Offset.j1 : Nat → Int → Int → List (S50) → Int → Int → Bool → Int → Int → Int → Int → Int → Int → Int → Option (Int × Option Int)
  | 0, _, _, _, _, _, _, _, _, _, _, _, _, _ => none
  | k + 1, x1, x2, x12, x13, x14, x26, x112000, x112001, x112002, x112003, x112004, x112005, x112006 => if x26 = true then (dyn_Offset.l0 k x1 x2 x12 x13 (wrap64 (x14 + 1))) else (if (IntKind.u64.wrap (x1 - x112003)) > x112004 then (dyn_Offset.j2 k x1 x2 (IntKind.u64.wrap (x1 - x112003)) x12 x13 x14 true x112000 x112001 x112002 x112003 x112004 x112005 x112006) else (dyn_Offset.j2 k x1 x2 (IntKind.u64.wrap (x1 - x112003)) x12 x13 x14 (decide (x2 > (IntKind.u64.wrap (x112004 - (IntKind.u64.wrap (x1 - x112003)))))) x112000 x112001 x112002 x112003 x112004 x112005 x112006))
def dyn_Offset.j2 : Nat → Int → Int → Int → List (S50) → Int → Int → Bool → Int → Int → Int → Int → Int → Int → Int → Option (Int × Option Int)
  | 0, _, _, _, _, _, _, _, _, _, _, _, _, _, _ => none
  | k + 1, x1, x2, x10, x12, x13, x14, x42, x112000, x112001, x112002, x112003, x112004, x112005, x112006 => if x42 = true then (dyn_Offset.l0 k x1 x2 x12 x13 (wrap64 (x14 + 1))) else (if x112002 > (IntKind.u64.wrap (18446744073709551615 - x10)) then (some (0, some 4)) else (some (IntKind.u64.wrap (x112002 + x10), none)))
end
def dyn_Offset.f (k : Nat) (a0_0 : Int) (a0_1 : Int) (l0_2 : List (S50)) (a1 : Int) (a2 : Int) : Option (Int × Option Int) := dyn_Offset.l0 k a1 a2 l0_2 (l0_2.length : Int) 0
theorem dyn_Offset.mono_l : ∀ k, (∀ y0 y1 y2 y3 y4, LeO (dyn_Offset.l0 k y0 y1 y2 y3 y4) (dyn_Offset.l0 (k + 1) y0 y1 y2 y3 y4)) ∧ (∀ y0 y1 y2 y3 y4 y5 y6 y7 y8 y9 y10 y11 y12, LeO (dyn_Offset.j1 k y0 y1 y2 y3 y4 y5 y6 y7 y8 y9 y10 y11 y12) (dyn_Offset.j1 (k + 1) y0 y1 y2 y3 y4 y5 y6 y7 y8 y9 y10 y11 y12)) ∧ (∀ y0 y1 y2 y3 y4 y5 y6 y7 y8 y9 y10 y11 y12 y13, LeO (dyn_Offset.j2 k y0 y1 y2 y3 y4 y5 y6 y7 y8 y9 y10 y11 y12 y13) (dyn_Offset.j2 (k + 1) y0 y1 y2 y3 y4 y5 y6 y7 y8 y9 y10 y11 y12 y13))
  | 0 => ⟨fun _ _ _ _ _ r h => by simp [dyn_Offset.l0] at h, fun _ _ _ _ _ _ _ _ _ _ _ _ _ r h => by simp [dyn_Offset.j1] at h, fun _ _ _ _ _ _ _ _ _ _ _ _ _ _ r h => by simp [dyn_Offset.j2] at h⟩
  | k + 1 => by
    obtain ⟨ih0, ih1, ih2⟩ := dyn_Offset.mono_l k
    refine ⟨?_, ?_, ?_⟩
    · intro y0 y1 y2 y3 y4
      unfold dyn_Offset.l0
      repeat' first
      | (with_reducible exact ih0 _ _ _ _ _)
      | (with_reducible exact ih1 _ _ _ _ _ _ _ _ _ _ _ _ _)
      | (with_reducible exact ih2 _ _ _ _ _ _ _ _ _ _ _ _ _ _)
      | (with_reducible exact LeO.refl _)
      | (with_reducible exact LeO.none _)
      | (with_reducible refine LeO.ite ?_ ?_)
      | (with_reducible refine LeO.bind ?_ (fun _ => ?_))
      | exact ih0 _ _ _ _ _
      | exact ih1 _ _ _ _ _ _ _ _ _ _ _ _ _
      | exact ih2 _ _ _ _ _ _ _ _ _ _ _ _ _ _
      | exact LeO.none _
      | refine LeO.ite ?_ ?_
      | refine LeO.bind ?_ (fun _ => ?_)
    · intro y0 y1 y2 y3 y4 y5 y6 y7 y8 y9 y10 y11 y12
      unfold dyn_Offset.j1
      repeat' first
      | (with_reducible exact ih0 _ _ _ _ _)
      | (with_reducible exact ih1 _ _ _ _ _ _ _ _ _ _ _ _ _)
      | (with_reducible exact ih2 _ _ _ _ _ _ _ _ _ _ _ _ _ _)
      | (with_reducible exact LeO.refl _)
      | (with_reducible exact LeO.none _)
      | (with_reducible refine LeO.ite ?_ ?_)
      | (with_reducible refine LeO.bind ?_ (fun _ => ?_))
      | exact ih0 _ _ _ _ _
      | exact ih1 _ _ _ _ _ _ _ _ _ _ _ _ _
      | exact ih2 _ _ _ _ _ _ _ _ _ _ _ _ _ _
      | exact LeO.none _
      | refine LeO.ite ?_ ?_
      | refine LeO.bind ?_ (fun _ => ?_)
    · intro y0 y1 y2 y3 y4 y5 y6 y7 y8 y9 y10 y11 y12 y13
      unfold dyn_Offset.j2
      repeat' first
      | (with_reducible exact ih0 _ _ _ _ _)
      | (with_reducible exact ih1 _ _ _ _ _ _ _ _ _ _ _ _ _)
      | (with_reducible exact ih2 _ _ _ _ _ _ _ _ _ _ _ _ _ _)
      | (with_reducible exact LeO.refl _)
      | (with_reducible exact LeO.none _)
      | (with_reducible refine LeO.ite ?_ ?_)
      | (with_reducible refine LeO.bind ?_ (fun _ => ?_))
      | exact ih0 _ _ _ _ _
      | exact ih1 _ _ _ _ _ _ _ _ _ _ _ _ _
      | exact ih2 _ _ _ _ _ _ _ _ _ _ _ _ _ _
      | exact LeO.none _
      | refine LeO.ite ?_ ?_
      | refine LeO.bind ?_ (fun _ => ?_)
theorem dyn_Offset.mono : ∀ a0 a1 a2 a3 a4 k, LeO (dyn_Offset.f k a0 a1 a2 a3 a4) (dyn_Offset.f (k + 1) a0 a1 a2 a3 a4) := by
  intro a0 a1 a2 a3 a4 k
  obtain ⟨ih0, ih1, ih2⟩ := dyn_Offset.mono_l k
  unfold dyn_Offset.f
  repeat' first
      | (with_reducible exact ih0 _ _ _ _ _)
      | (with_reducible exact ih1 _ _ _ _ _ _ _ _ _ _ _ _ _)
      | (with_reducible exact ih2 _ _ _ _ _ _ _ _ _ _ _ _ _ _)
      | (with_reducible exact LeO.refl _)
      | (with_reducible exact LeO.none _)
      | (with_reducible refine LeO.ite ?_ ?_)
      | (with_reducible refine LeO.bind ?_ (fun _ => ?_))
      | exact ih0 _ _ _ _ _
      | exact ih1 _ _ _ _ _ _ _ _ _ _ _ _ _
      | exact ih2 _ _ _ _ _ _ _ _ _ _ _ _ _ _
      | exact LeO.none _
      | refine LeO.ite ?_ ?_
      | refine LeO.bind ?_ (fun _ => ?_)
set_option maxHeartbeats 8000000 in
set_option maxRecDepth 100000 in
theorem dyn_Offset.calls (k : Nat) (a0_0 : Int) (a0_1 : Int) (A0_2 : Option Addr) (c0_2 : Nat) (l0_2 : List (S50)) (a1 : Int) (a2 : Int) (r1 : Int) (r2 : Option Int) (w : World) (hr0_2 : Kd.C k50 w A0_2 l0_2.length l0_2) (hc0_2 : l0_2.length ≤ c0_2) (h : dyn_Offset.f k a0_0 a0_1 l0_2 a1 a2 = some (r1, r2)) :
    Calls Try.prog 28 #[.agg #[.int .i64 a0_0, .int .u64 a0_1, .slice A0_2 l0_2.length c0_2], .int .u64 a1, .int .u64 a2] w fun e w' => e = .returned (.tuple #[.int .u64 r1, errW r2]) ∧ Below w.heap.size w w' := by
  have hu53 := Try.underlying53
  have hu50 := Try.underlying50
  have hu45 := Try.underlying45
  have hu76 := Try.underlying76
  have HR0_2 := Aside0.mk hr0_2
  have HC0_2 := Aside0.mk hc0_2
  clear hr0_2 hc0_2
  have HB := Aside0.mk (Below.refl w.heap.size w)
  have H : (dyn_Offset.l0 k a1 a2 l0_2 (l0_2.length : Int) 0) = some (r1, r2) := h
  clear h
  have H' := Aside0.mk H
  clear H
  go_enter Try.func28, Try.ntmps28
  go_wp2_with (first | ((with_reducible refine gate_dst (N := 3) rfl ?_); refine box_event ?hg (N := 3) ?hd (cs := #[.int .i64 a0_0, .int .u64 a0_1, .slice A0_2 l0_2.length c0_2]) (t := 53) ?hr ?_; (case hd => rfl); (case hg => rfl); (case hr => first | (go_simp; done) | (go_simp; rfl)); intro gb109 hg w4 hbox hb; have n0_ := Aside0.mk (below_step (by repeat (first | (with_reducible first | exact HB.out | apply below_alloc | apply pw_below_drewN | apply below_drew1) | exact HB.out)) hb); have n1_ := Aside0.mk (hbox); have n2_ := Aside0.mk ((by rw [hg]; exact (below_size (by repeat (first | (with_reducible first | exact HB.out | apply below_alloc | apply pw_below_drewN | apply below_drew1) | exact HB.out))) : w.heap.size ≤ gb109)); have n3_ := Aside0.mk ((by rw [hg]; exact (below_size (by repeat (first | (with_reducible first | exact HB.out | apply below_alloc | apply pw_below_drewN | apply below_drew1) | exact HB.out))) : w.heap.size ≤ gb109)); clear HB; have HB := n0_; have BK109 := n1_; have GW109 := n2_; have GE109 := n3_; clear n0_ n1_ n2_ n3_; clear hb hbox hg; have hcz5_0 : w4.cell? ⟨gb109, 0, none⟩ = some (.int .i64 a0_0) := (blk_cell BK109.out 0).trans rfl; have hcz5_1 : w4.cell? ⟨gb109, 1, none⟩ = some (.int .u64 a0_1) := (blk_cell BK109.out 1).trans rfl; have hcz5_2 : w4.cell? ⟨gb109, 2, none⟩ = some (.slice A0_2 l0_2.length c0_2) := (blk_cell BK109.out 2).trans rfl; have hfz5_0 := blk_frozen BK109.out 0; have hfz5_1 := blk_frozen BK109.out 1; have hfz5_2 := blk_frozen BK109.out 2))
  go_loopg [14] k (fun kq v14 w' => ∃ (x14_1 : Int), v14 = .int .i64 x14_1 ∧ Aside0 (dyn_Offset.l0 kq a1 a2 l0_2 (l0_2.length : Int) x14_1 = some (r1, r2)) ∧ Aside0 (kq ≤ k) ∧ Aside0 (w'.heap[gb109]? = some (.cells #[.int .i64 a0_0, .int .u64 a0_1, (.slice A0_2 l0_2.length c0_2)] 53 (0, 0))) ∧ Aside0 (Below w.heap.size w w'))
  case atStart => exact ⟨(0), (by first | rfl | (simp; done) | (simp [*]; done)), H', ⟨Nat.le_refl _⟩, ⟨by (with_reducible repeat (first | refine blk_drewN ?_ _ | refine blk_drew ?_ | refine blk_alloc ?_ _)); exact BK109.out⟩, ⟨by repeat (first | (with_reducible first | exact HB.out | apply below_alloc | apply pw_below_drewN | apply below_drew1 | refine below_set ?_ GE109.out) | exact HB.out)⟩⟩
  case round =>
    clear H'
    try clear c2
    try clear p2
    try clear hcz5_0
    try clear hcz5_1
    try clear hcz5_2
    try clear hfz5_0
    try clear hfz5_1
    try clear hfz5_2
    obtain ⟨x14_1, rfl, HA, HK1, BK109, HB⟩ := hrel
    cases gk with
    | zero => exact absurd HA.out (by simp [dyn_Offset.l0])
    | succ k1 =>
      have H := HA.out
      clear HA
      simp only [dyn_Offset.l0] at H
      by_cases c6 : x14_1 < (l0_2.length : Int)
      · rw [if_pos c6] at H
        have c6b0 : decide (x14_1 < (l0_2.length : Int)) = true := decide_eq_true c6
        clear c6
        by_cases c7 : 0 ≤ x14_1
        · rw [if_pos c7] at H
          have c7b0 : decide (0 ≤ x14_1) = true := decide_eq_true c7
          clear c7
          by_cases c8 : x14_1 < (l0_2.length : Int)
          · rw [if_pos c8] at H
            have c8b0 : decide (x14_1 < (l0_2.length : Int)) = true := decide_eq_true c8
            clear c8
            have HC9 := Aside0.mk H
            clear H
            have p110 : 0 ≤ (x14_1 : Int) := of_decide_eq_true (by first | (with_reducible assumption) | assumption)
            have q110 : x14_1 < (l0_2.length : Int) := of_decide_eq_true (by first | (with_reducible assumption) | assumption)
            obtain ⟨ad110, e110, hx110_0, hx110_1, hx110_2, hx110_3, hx110_4, hx110_5, hx110_6⟩ := at_T50 HR0_2.out x14_1 p110 q110
            cases e110
            replace hx110_0 := (HB.out.cell (World.block_lt_of_cell? w _ hx110_0)).trans hx110_0
            replace hx110_1 := (HB.out.cell (World.block_lt_of_cell? w _ hx110_1)).trans hx110_1
            replace hx110_2 := (HB.out.cell (World.block_lt_of_cell? w _ hx110_2)).trans hx110_2
            replace hx110_3 := (HB.out.cell (World.block_lt_of_cell? w _ hx110_3)).trans hx110_3
            replace hx110_4 := (HB.out.cell (World.block_lt_of_cell? w _ hx110_4)).trans hx110_4
            replace hx110_5 := (HB.out.cell (World.block_lt_of_cell? w _ hx110_5)).trans hx110_5
            replace hx110_6 := (HB.out.cell (World.block_lt_of_cell? w _ hx110_6)).trans hx110_6
            replace p110 := eq_true p110
            replace q110 := eq_true q110
            go_upto_region 4 with (first | ((with_reducible refine gate_dst (N := 9) rfl ?_); refine box_event ?hg (N := 9) ?hd (cs := #[.int .u32 0, .int .u32 0, .int .u64 0, .int .u64 0, .int .u64 0, .int .u64 0, .int .u64 0]) (t := 50) ?hr ?_; (case hd => rfl); (case hg => rfl); (case hr => first | (go_simp; done) | (go_simp; rfl)); intro gb111 hg w10 hbox hb; have n0_ := Aside0.mk (blk_below (g := gb109) (o := .cells #[.int .i64 a0_0, .int .u64 a0_1, .slice (some ad110) l0_2.length c0_2] 53 (0, 0)) (by (with_reducible repeat (first | refine blk_drewN ?_ _ | refine blk_drew ?_ | refine blk_alloc ?_ _)); exact BK109.out) hb); have n1_ := Aside0.mk (below_step (by repeat (first | (with_reducible first | exact HB.out | apply below_alloc | apply pw_below_drewN | apply below_drew1 | refine below_set ?_ GE109.out) | exact HB.out)) hb); have n2_ := Aside0.mk (hbox); have n3_ := Aside0.mk ((by rw [hg]; exact (below_size (by repeat (first | (with_reducible first | exact HB.out | apply below_alloc | apply pw_below_drewN | apply below_drew1 | refine below_set ?_ GE109.out) | exact HB.out))) : w.heap.size ≤ gb111)); have n4_ := Aside0.mk ((by rw [hg]; exact (below_size (by repeat (first | (with_reducible first | exact HB.out | apply below_alloc | apply pw_below_drewN | apply below_drew1 | refine below_set ?_ GE109.out) | exact HB.out))) : w.heap.size ≤ gb111)); have n5_ := Aside0.mk ((by rw [hg]; exact Nat.ne_of_lt (blk_lt (g := gb109) (o := .cells #[.int .i64 a0_0, .int .u64 a0_1, .slice (some ad110) l0_2.length c0_2] 53 (0, 0)) (by (with_reducible repeat (first | refine blk_drewN ?_ _ | refine blk_drew ?_ | refine blk_alloc ?_ _)); exact BK109.out)) : gb109 ≠ gb111)); have n6_ := Aside0.mk ((by rw [hg]; exact Nat.ne_of_gt (blk_lt (g := gb109) (o := .cells #[.int .i64 a0_0, .int .u64 a0_1, .slice (some ad110) l0_2.length c0_2] 53 (0, 0)) (by (with_reducible repeat (first | refine blk_drewN ?_ _ | refine blk_drew ?_ | refine blk_alloc ?_ _)); exact BK109.out)) : gb111 ≠ gb109)); clear BK109; clear HB; have BK109 := n0_; have HB := n1_; have BK111 := n2_; have GW111 := n3_; have GE111 := n4_; have NB109_111 := n5_; have NB111_109 := n6_; clear n0_ n1_ n2_ n3_ n4_ n5_ n6_; clear hb hbox hg; have hnb11 := NB111_109.out; have hnc11 := NB109_111.out; have hcz12_0 : w10.cell? ⟨gb111, 0, none⟩ = some (.int .u32 0) := (blk_cell BK111.out 0).trans rfl; have hcz12_1 : w10.cell? ⟨gb111, 1, none⟩ = some (.int .u32 0) := (blk_cell BK111.out 1).trans rfl; have hcz12_2 : w10.cell? ⟨gb111, 2, none⟩ = some (.int .u64 0) := (blk_cell BK111.out 2).trans rfl; have hcz12_3 : w10.cell? ⟨gb111, 3, none⟩ = some (.int .u64 0) := (blk_cell BK111.out 3).trans rfl; have hcz12_4 : w10.cell? ⟨gb111, 4, none⟩ = some (.int .u64 0) := (blk_cell BK111.out 4).trans rfl; have hcz12_5 : w10.cell? ⟨gb111, 5, none⟩ = some (.int .u64 0) := (blk_cell BK111.out 5).trans rfl; have hcz12_6 : w10.cell? ⟨gb111, 6, none⟩ = some (.int .u64 0) := (blk_cell BK111.out 6).trans rfl; have hfz12_0 := blk_frozen BK111.out 0; have hfz12_1 := blk_frozen BK111.out 1; have hfz12_2 := blk_frozen BK111.out 2; have hfz12_3 := blk_frozen BK111.out 3; have hfz12_4 := blk_frozen BK111.out 4; have hfz12_5 := blk_frozen BK111.out 5; have hfz12_6 := blk_frozen BK111.out 6))
            (try simp only [Act.put, List.setIfInBounds_toArray, List.set_cons_zero, List.set_cons_succ])
            go_cut [26] (fun v26 wc => ∃ (kq : Nat) (x26_8 : Bool), v26 = .bool x26_8 ∧ Aside0 (dyn_Offset.j1 kq a1 a2 l0_2 (l0_2.length : Int) x14_1 x26_8 ((rd_T50 l0_2 x14_1).f0) ((rd_T50 l0_2 x14_1).f1) ((rd_T50 l0_2 x14_1).f2) ((rd_T50 l0_2 x14_1).f3) ((rd_T50 l0_2 x14_1).f4) ((rd_T50 l0_2 x14_1).f5) ((rd_T50 l0_2 x14_1).f6) = some (r1, r2)) ∧ Aside0 (kq ≤ k1) ∧ Aside0 (wc.heap[gb109]? = some (.cells #[.int .i64 a0_0, .int .u64 a0_1, (.slice (some ad110) l0_2.length c0_2)] 53 (0, 0))) ∧ Aside0 (wc.heap[gb111]? = some (.cells #[.int .u32 ((rd_T50 l0_2 x14_1).f0), .int .u32 ((rd_T50 l0_2 x14_1).f1), .int .u64 ((rd_T50 l0_2 x14_1).f2), .int .u64 ((rd_T50 l0_2 x14_1).f3), .int .u64 ((rd_T50 l0_2 x14_1).f4), .int .u64 ((rd_T50 l0_2 x14_1).f5), .int .u64 ((rd_T50 l0_2 x14_1).f6)] 50 (0, 0))) ∧ Aside0 (Below w.heap.size w wc))
            case first =>
              have H := HC9.out
              clear HC9
              by_cases c13 : ((rd_T50 l0_2 x14_1).f0) = 1
              · rw [if_pos c13] at H
                have c13b0 : (((rd_T50 l0_2 x14_1).f0) == 1) = true := beq_iff_eq.mpr c13
                have c13b1 : (((rd_T50 l0_2 x14_1).f0) != 1) = false := bne_eq_false_iff_eq.mpr c13
                clear c13
                (first | rw [c13b0] | (simp only [i64_w, i32_w]; rw [c13b0]) | skip)
                have H' := Aside0.mk H
                clear H
                have hnb14 := NB111_109.out
                have hnc14 := NB109_111.out
                have hcz15_0 : w10.cell? ⟨gb111, 0, none⟩ = some (.int .u32 0) := (blk_cell BK111.out 0).trans rfl
                have hcz15_1 : w10.cell? ⟨gb111, 1, none⟩ = some (.int .u32 0) := (blk_cell BK111.out 1).trans rfl
                have hcz15_2 : w10.cell? ⟨gb111, 2, none⟩ = some (.int .u64 0) := (blk_cell BK111.out 2).trans rfl
                have hcz15_3 : w10.cell? ⟨gb111, 3, none⟩ = some (.int .u64 0) := (blk_cell BK111.out 3).trans rfl
                have hcz15_4 : w10.cell? ⟨gb111, 4, none⟩ = some (.int .u64 0) := (blk_cell BK111.out 4).trans rfl
                have hcz15_5 : w10.cell? ⟨gb111, 5, none⟩ = some (.int .u64 0) := (blk_cell BK111.out 5).trans rfl
                have hcz15_6 : w10.cell? ⟨gb111, 6, none⟩ = some (.int .u64 0) := (blk_cell BK111.out 6).trans rfl
                have hfz15_0 := blk_frozen BK111.out 0
                have hfz15_1 := blk_frozen BK111.out 1
                have hfz15_2 := blk_frozen BK111.out 2
                have hfz15_3 := blk_frozen BK111.out 3
                have hfz15_4 := blk_frozen BK111.out 4
                have hfz15_5 := blk_frozen BK111.out 5
                have hfz15_6 := blk_frozen BK111.out 6
                go_wp2
                go_meet
                case rel => exact ⟨_, (decide (a1 < ((rd_T50 l0_2 x14_1).f3))), (by first | rfl | (simp; done) | (simp [*]; done)), H', ⟨by have := HK1.out; first | omega | exact Nat.le_refl _⟩, ⟨by (with_reducible repeat (first | refine blk_drewN ?_ _ | refine blk_drew ?_ | refine blk_alloc ?_ _)); refine blk_far ?_ NB109_111.out _; (with_reducible repeat (first | refine blk_drewN ?_ _ | refine blk_drew ?_ | refine blk_alloc ?_ _)); refine blk_far ?_ NB109_111.out _; (with_reducible repeat (first | refine blk_drewN ?_ _ | refine blk_drew ?_ | refine blk_alloc ?_ _)); refine blk_far ?_ NB109_111.out _; (with_reducible repeat (first | refine blk_drewN ?_ _ | refine blk_drew ?_ | refine blk_alloc ?_ _)); refine blk_far ?_ NB109_111.out _; (with_reducible repeat (first | refine blk_drewN ?_ _ | refine blk_drew ?_ | refine blk_alloc ?_ _)); refine blk_far ?_ NB109_111.out _; (with_reducible repeat (first | refine blk_drewN ?_ _ | refine blk_drew ?_ | refine blk_alloc ?_ _)); refine blk_far ?_ NB109_111.out _; (with_reducible repeat (first | refine blk_drewN ?_ _ | refine blk_drew ?_ | refine blk_alloc ?_ _)); refine blk_far ?_ NB109_111.out _; (with_reducible repeat (first | refine blk_drewN ?_ _ | refine blk_drew ?_ | refine blk_alloc ?_ _)); exact BK109.out⟩, ⟨by (with_reducible repeat (first | refine blk_drewN ?_ _ | refine blk_drew ?_ | refine blk_alloc ?_ _)); refine blk_put (cs := #[.int .u32 ((rd_T50 l0_2 x14_1).f0), .int .u32 ((rd_T50 l0_2 x14_1).f1), .int .u64 ((rd_T50 l0_2 x14_1).f2), .int .u64 ((rd_T50 l0_2 x14_1).f3), .int .u64 ((rd_T50 l0_2 x14_1).f4), .int .u64 ((rd_T50 l0_2 x14_1).f5), .int .u64 0]) ?_ 6 _ rfl; (with_reducible repeat (first | refine blk_drewN ?_ _ | refine blk_drew ?_ | refine blk_alloc ?_ _)); refine blk_put (cs := #[.int .u32 ((rd_T50 l0_2 x14_1).f0), .int .u32 ((rd_T50 l0_2 x14_1).f1), .int .u64 ((rd_T50 l0_2 x14_1).f2), .int .u64 ((rd_T50 l0_2 x14_1).f3), .int .u64 ((rd_T50 l0_2 x14_1).f4), .int .u64 0, .int .u64 0]) ?_ 5 _ rfl; (with_reducible repeat (first | refine blk_drewN ?_ _ | refine blk_drew ?_ | refine blk_alloc ?_ _)); refine blk_put (cs := #[.int .u32 ((rd_T50 l0_2 x14_1).f0), .int .u32 ((rd_T50 l0_2 x14_1).f1), .int .u64 ((rd_T50 l0_2 x14_1).f2), .int .u64 ((rd_T50 l0_2 x14_1).f3), .int .u64 0, .int .u64 0, .int .u64 0]) ?_ 4 _ rfl; (with_reducible repeat (first | refine blk_drewN ?_ _ | refine blk_drew ?_ | refine blk_alloc ?_ _)); refine blk_put (cs := #[.int .u32 ((rd_T50 l0_2 x14_1).f0), .int .u32 ((rd_T50 l0_2 x14_1).f1), .int .u64 ((rd_T50 l0_2 x14_1).f2), .int .u64 0, .int .u64 0, .int .u64 0, .int .u64 0]) ?_ 3 _ rfl; (with_reducible repeat (first | refine blk_drewN ?_ _ | refine blk_drew ?_ | refine blk_alloc ?_ _)); refine blk_put (cs := #[.int .u32 ((rd_T50 l0_2 x14_1).f0), .int .u32 ((rd_T50 l0_2 x14_1).f1), .int .u64 0, .int .u64 0, .int .u64 0, .int .u64 0, .int .u64 0]) ?_ 2 _ rfl; (with_reducible repeat (first | refine blk_drewN ?_ _ | refine blk_drew ?_ | refine blk_alloc ?_ _)); refine blk_put (cs := #[.int .u32 ((rd_T50 l0_2 x14_1).f0), .int .u32 0, .int .u64 0, .int .u64 0, .int .u64 0, .int .u64 0, .int .u64 0]) ?_ 1 _ rfl; (with_reducible repeat (first | refine blk_drewN ?_ _ | refine blk_drew ?_ | refine blk_alloc ?_ _)); refine blk_put (cs := #[.int .u32 0, .int .u32 0, .int .u64 0, .int .u64 0, .int .u64 0, .int .u64 0, .int .u64 0]) ?_ 0 _ rfl; (with_reducible repeat (first | refine blk_drewN ?_ _ | refine blk_drew ?_ | refine blk_alloc ?_ _)); exact BK111.out⟩, ⟨by repeat (first | (with_reducible first | exact HB.out | apply below_alloc | apply pw_below_drewN | apply below_drew1 | refine below_set ?_ GE109.out | refine below_set ?_ GE111.out) | exact HB.out)⟩⟩
              · rw [if_neg c13] at H
                have c13b0 : (((rd_T50 l0_2 x14_1).f0) == 1) = false := beq_eq_false_iff_ne.mpr c13
                have c13b1 : (((rd_T50 l0_2 x14_1).f0) != 1) = true := bne_iff_ne.mpr c13
                (first | rw [c13b0] | (simp only [i64_w, i32_w]; rw [c13b0]) | skip)
                have H' := Aside0.mk H
                clear H
                have hnb16 := NB111_109.out
                have hnc16 := NB109_111.out
                have hcz17_0 : w10.cell? ⟨gb111, 0, none⟩ = some (.int .u32 0) := (blk_cell BK111.out 0).trans rfl
                have hcz17_1 : w10.cell? ⟨gb111, 1, none⟩ = some (.int .u32 0) := (blk_cell BK111.out 1).trans rfl
                have hcz17_2 : w10.cell? ⟨gb111, 2, none⟩ = some (.int .u64 0) := (blk_cell BK111.out 2).trans rfl
                have hcz17_3 : w10.cell? ⟨gb111, 3, none⟩ = some (.int .u64 0) := (blk_cell BK111.out 3).trans rfl
                have hcz17_4 : w10.cell? ⟨gb111, 4, none⟩ = some (.int .u64 0) := (blk_cell BK111.out 4).trans rfl
                have hcz17_5 : w10.cell? ⟨gb111, 5, none⟩ = some (.int .u64 0) := (blk_cell BK111.out 5).trans rfl
                have hcz17_6 : w10.cell? ⟨gb111, 6, none⟩ = some (.int .u64 0) := (blk_cell BK111.out 6).trans rfl
                have hfz17_0 := blk_frozen BK111.out 0
                have hfz17_1 := blk_frozen BK111.out 1
                have hfz17_2 := blk_frozen BK111.out 2
                have hfz17_3 := blk_frozen BK111.out 3
                have hfz17_4 := blk_frozen BK111.out 4
                have hfz17_5 := blk_frozen BK111.out 5
                have hfz17_6 := blk_frozen BK111.out 6
                go_wp2
                go_meet
                case rel => exact ⟨_, (true), (by first | rfl | (simp; done) | (simp [*]; done)), H', ⟨by have := HK1.out; first | omega | exact Nat.le_refl _⟩, ⟨by (with_reducible repeat (first | refine blk_drewN ?_ _ | refine blk_drew ?_ | refine blk_alloc ?_ _)); refine blk_far ?_ NB109_111.out _; (with_reducible repeat (first | refine blk_drewN ?_ _ | refine blk_drew ?_ | refine blk_alloc ?_ _)); refine blk_far ?_ NB109_111.out _; (with_reducible repeat (first | refine blk_drewN ?_ _ | refine blk_drew ?_ | refine blk_alloc ?_ _)); refine blk_far ?_ NB109_111.out _; (with_reducible repeat (first | refine blk_drewN ?_ _ | refine blk_drew ?_ | refine blk_alloc ?_ _)); refine blk_far ?_ NB109_111.out _; (with_reducible repeat (first | refine blk_drewN ?_ _ | refine blk_drew ?_ | refine blk_alloc ?_ _)); refine blk_far ?_ NB109_111.out _; (with_reducible repeat (first | refine blk_drewN ?_ _ | refine blk_drew ?_ | refine blk_alloc ?_ _)); refine blk_far ?_ NB109_111.out _; (with_reducible repeat (first | refine blk_drewN ?_ _ | refine blk_drew ?_ | refine blk_alloc ?_ _)); refine blk_far ?_ NB109_111.out _; (with_reducible repeat (first | refine blk_drewN ?_ _ | refine blk_drew ?_ | refine blk_alloc ?_ _)); exact BK109.out⟩, ⟨by (with_reducible repeat (first | refine blk_drewN ?_ _ | refine blk_drew ?_ | refine blk_alloc ?_ _)); refine blk_put (cs := #[.int .u32 ((rd_T50 l0_2 x14_1).f0), .int .u32 ((rd_T50 l0_2 x14_1).f1), .int .u64 ((rd_T50 l0_2 x14_1).f2), .int .u64 ((rd_T50 l0_2 x14_1).f3), .int .u64 ((rd_T50 l0_2 x14_1).f4), .int .u64 ((rd_T50 l0_2 x14_1).f5), .int .u64 0]) ?_ 6 _ rfl; (with_reducible repeat (first | refine blk_drewN ?_ _ | refine blk_drew ?_ | refine blk_alloc ?_ _)); refine blk_put (cs := #[.int .u32 ((rd_T50 l0_2 x14_1).f0), .int .u32 ((rd_T50 l0_2 x14_1).f1), .int .u64 ((rd_T50 l0_2 x14_1).f2), .int .u64 ((rd_T50 l0_2 x14_1).f3), .int .u64 ((rd_T50 l0_2 x14_1).f4), .int .u64 0, .int .u64 0]) ?_ 5 _ rfl; (with_reducible repeat (first | refine blk_drewN ?_ _ | refine blk_drew ?_ | refine blk_alloc ?_ _)); refine blk_put (cs := #[.int .u32 ((rd_T50 l0_2 x14_1).f0), .int .u32 ((rd_T50 l0_2 x14_1).f1), .int .u64 ((rd_T50 l0_2 x14_1).f2), .int .u64 ((rd_T50 l0_2 x14_1).f3), .int .u64 0, .int .u64 0, .int .u64 0]) ?_ 4 _ rfl; (with_reducible repeat (first | refine blk_drewN ?_ _ | refine blk_drew ?_ | refine blk_alloc ?_ _)); refine blk_put (cs := #[.int .u32 ((rd_T50 l0_2 x14_1).f0), .int .u32 ((rd_T50 l0_2 x14_1).f1), .int .u64 ((rd_T50 l0_2 x14_1).f2), .int .u64 0, .int .u64 0, .int .u64 0, .int .u64 0]) ?_ 3 _ rfl; (with_reducible repeat (first | refine blk_drewN ?_ _ | refine blk_drew ?_ | refine blk_alloc ?_ _)); refine blk_put (cs := #[.int .u32 ((rd_T50 l0_2 x14_1).f0), .int .u32 ((rd_T50 l0_2 x14_1).f1), .int .u64 0, .int .u64 0, .int .u64 0, .int .u64 0, .int .u64 0]) ?_ 2 _ rfl; (with_reducible repeat (first | refine blk_drewN ?_ _ | refine blk_drew ?_ | refine blk_alloc ?_ _)); refine blk_put (cs := #[.int .u32 ((rd_T50 l0_2 x14_1).f0), .int .u32 0, .int .u64 0, .int .u64 0, .int .u64 0, .int .u64 0, .int .u64 0]) ?_ 1 _ rfl; (with_reducible repeat (first | refine blk_drewN ?_ _ | refine blk_drew ?_ | refine blk_alloc ?_ _)); refine blk_put (cs := #[.int .u32 0, .int .u32 0, .int .u64 0, .int .u64 0, .int .u64 0, .int .u64 0, .int .u64 0]) ?_ 0 _ rfl; (with_reducible repeat (first | refine blk_drewN ?_ _ | refine blk_drew ?_ | refine blk_alloc ?_ _)); exact BK111.out⟩, ⟨by repeat (first | (with_reducible first | exact HB.out | apply below_alloc | apply pw_below_drewN | apply below_drew1 | refine below_set ?_ GE109.out | refine below_set ?_ GE111.out) | exact HB.out)⟩⟩
            case rest =>
              clear HC9
              try clear c1
              try clear p1
              try clear q1
              try clear hx1
              try clear c2
              try clear p2
              try clear c6
              try clear c6b0
              try clear c7
              try clear c7b0
              try clear c8
              try clear c8b0
              try clear c11
              try clear p11
              try clear q11
              try clear hx11
              try clear c13
              try clear c13b0
              try clear c13b1
              try clear c14
              try clear c16
              try clear hcz12_0
              try clear hcz12_1
              try clear hcz12_2
              try clear hcz12_3
              try clear hcz12_4
              try clear hcz12_5
              try clear hcz12_6
              try clear hcz15_0
              try clear hcz15_1
              try clear hcz15_2
              try clear hcz15_3
              try clear hcz15_4
              try clear hcz15_5
              try clear hcz15_6
              try clear hcz17_0
              try clear hcz17_1
              try clear hcz17_2
              try clear hcz17_3
              try clear hcz17_4
              try clear hcz17_5
              try clear hcz17_6
              try clear hcz5_0
              try clear hcz5_1
              try clear hcz5_2
              try clear hfz12_0
              try clear hfz12_1
              try clear hfz12_2
              try clear hfz12_3
              try clear hfz12_4
              try clear hfz12_5
              try clear hfz12_6
              try clear hfz15_0
              try clear hfz15_1
              try clear hfz15_2
              try clear hfz15_3
              try clear hfz15_4
              try clear hfz15_5
              try clear hfz15_6
              try clear hfz17_0
              try clear hfz17_1
              try clear hfz17_2
              try clear hfz17_3
              try clear hfz17_4
              try clear hfz17_5
              try clear hfz17_6
              try clear hfz5_0
              try clear hfz5_1
              try clear hfz5_2
              try clear hx110_0
              try clear hx110_1
              try clear hx110_2
              try clear hx110_3
              try clear hx110_4
              try clear hx110_5
              try clear hx110_6
              try clear p110
              try clear p2
              try clear q110
              obtain ⟨kq, x26_8, rfl, HA, HJ8, BK109, BK111, HB⟩ := hcut
              cases kq with
              | zero => exact absurd HA.out (by simp [dyn_Offset.j1])
              | succ kj8 =>
                have H := HA.out
                clear HA
                simp only [dyn_Offset.j1] at H
                by_cases c18 : x26_8 = true
                · subst c18
                  have H1 : (dyn_Offset.l0 kj8 a1 a2 l0_2 (l0_2.length : Int) (wrap64 (x14_1 + 1))) = some (r1, r2) := by rw [if_pos rfl] at H; exact H
                  clear H
                  have H := H1
                  clear H1
                  have H' := Aside0.mk H
                  clear H
                  go_wp2
                  go_roundg kj8
                  case measure => have := HK1.out; have := HJ8.out; omega
                  case rel => exact ⟨(wrap64 (x14_1 + 1)), (by first | rfl | (simp; done) | (simp [*]; done)), H', ⟨by have := HK1.out; have := HJ8.out; omega⟩, ⟨by (with_reducible repeat (first | refine blk_drewN ?_ _ | refine blk_drew ?_ | refine blk_alloc ?_ _)); exact BK109.out⟩, ⟨by repeat (first | (with_reducible first | exact HB.out | apply below_alloc | apply pw_below_drewN | apply below_drew1 | refine below_set ?_ GE109.out | refine below_set ?_ GE111.out) | exact HB.out)⟩⟩
                · replace c18 := Bool.eq_false_iff.mpr c18
                  subst c18
                  have H1 : (if (IntKind.u64.wrap (a1 - ((rd_T50 l0_2 x14_1).f3))) > ((rd_T50 l0_2 x14_1).f4) then (dyn_Offset.j2 kj8 a1 a2 (IntKind.u64.wrap (a1 - ((rd_T50 l0_2 x14_1).f3))) l0_2 (l0_2.length : Int) x14_1 true ((rd_T50 l0_2 x14_1).f0) ((rd_T50 l0_2 x14_1).f1) ((rd_T50 l0_2 x14_1).f2) ((rd_T50 l0_2 x14_1).f3) ((rd_T50 l0_2 x14_1).f4) ((rd_T50 l0_2 x14_1).f5) ((rd_T50 l0_2 x14_1).f6)) else (dyn_Offset.j2 kj8 a1 a2 (IntKind.u64.wrap (a1 - ((rd_T50 l0_2 x14_1).f3))) l0_2 (l0_2.length : Int) x14_1 (decide (a2 > (IntKind.u64.wrap (((rd_T50 l0_2 x14_1).f4) - (IntKind.u64.wrap (a1 - ((rd_T50 l0_2 x14_1).f3))))))) ((rd_T50 l0_2 x14_1).f0) ((rd_T50 l0_2 x14_1).f1) ((rd_T50 l0_2 x14_1).f2) ((rd_T50 l0_2 x14_1).f3) ((rd_T50 l0_2 x14_1).f4) ((rd_T50 l0_2 x14_1).f5) ((rd_T50 l0_2 x14_1).f6))) = some (r1, r2) := by rw [if_neg (show ¬ (false = true) by decide)] at H; exact H
                  clear H
                  have H := H1
                  clear H1
                  have HC19 := Aside0.mk H
                  clear H
                  have hnb20 := NB111_109.out
                  have hnc20 := NB109_111.out
                  have hcz21_0 : wc.cell? ⟨gb111, 0, none⟩ = some (.int .u32 ((rd_T50 l0_2 x14_1).f0)) := (blk_cell BK111.out 0).trans rfl
                  have hcz21_1 : wc.cell? ⟨gb111, 1, none⟩ = some (.int .u32 ((rd_T50 l0_2 x14_1).f1)) := (blk_cell BK111.out 1).trans rfl
                  have hcz21_2 : wc.cell? ⟨gb111, 2, none⟩ = some (.int .u64 ((rd_T50 l0_2 x14_1).f2)) := (blk_cell BK111.out 2).trans rfl
                  have hcz21_3 : wc.cell? ⟨gb111, 3, none⟩ = some (.int .u64 ((rd_T50 l0_2 x14_1).f3)) := (blk_cell BK111.out 3).trans rfl
                  have hcz21_4 : wc.cell? ⟨gb111, 4, none⟩ = some (.int .u64 ((rd_T50 l0_2 x14_1).f4)) := (blk_cell BK111.out 4).trans rfl
                  have hcz21_5 : wc.cell? ⟨gb111, 5, none⟩ = some (.int .u64 ((rd_T50 l0_2 x14_1).f5)) := (blk_cell BK111.out 5).trans rfl
                  have hcz21_6 : wc.cell? ⟨gb111, 6, none⟩ = some (.int .u64 ((rd_T50 l0_2 x14_1).f6)) := (blk_cell BK111.out 6).trans rfl
                  have hfz21_0 := blk_frozen BK111.out 0
                  have hfz21_1 := blk_frozen BK111.out 1
                  have hfz21_2 := blk_frozen BK111.out 2
                  have hfz21_3 := blk_frozen BK111.out 3
                  have hfz21_4 := blk_frozen BK111.out 4
                  have hfz21_5 := blk_frozen BK111.out 5
                  have hfz21_6 := blk_frozen BK111.out 6
                  go_upto_region 6 with (fail)
                  go_cut [42] (fun v42 wc => ∃ (kq : Nat) (x42_18 : Bool), v42 = .bool x42_18 ∧ Aside0 (dyn_Offset.j2 kq a1 a2 (IntKind.u64.wrap (a1 - ((rd_T50 l0_2 x14_1).f3))) l0_2 (l0_2.length : Int) x14_1 x42_18 ((rd_T50 l0_2 x14_1).f0) ((rd_T50 l0_2 x14_1).f1) ((rd_T50 l0_2 x14_1).f2) ((rd_T50 l0_2 x14_1).f3) ((rd_T50 l0_2 x14_1).f4) ((rd_T50 l0_2 x14_1).f5) ((rd_T50 l0_2 x14_1).f6) = some (r1, r2)) ∧ Aside0 (kq ≤ kj8) ∧ Aside0 (wc.heap[gb109]? = some (.cells #[.int .i64 a0_0, .int .u64 a0_1, (.slice (some ad110) l0_2.length c0_2)] 53 (0, 0))) ∧ Aside0 (wc.heap[gb111]? = some (.cells #[.int .u32 ((rd_T50 l0_2 x14_1).f0), .int .u32 ((rd_T50 l0_2 x14_1).f1), .int .u64 ((rd_T50 l0_2 x14_1).f2), .int .u64 ((rd_T50 l0_2 x14_1).f3), .int .u64 ((rd_T50 l0_2 x14_1).f4), .int .u64 ((rd_T50 l0_2 x14_1).f5), .int .u64 ((rd_T50 l0_2 x14_1).f6)] 50 (0, 0))) ∧ Aside0 (Below w.heap.size w wc))
                  case first =>
                    have H := HC19.out
                    clear HC19
                    by_cases c22 : (IntKind.u64.wrap (a1 - ((rd_T50 l0_2 x14_1).f3))) > ((rd_T50 l0_2 x14_1).f4)
                    · rw [if_pos c22] at H
                      have c22b0 : decide (((rd_T50 l0_2 x14_1).f4) < (IntKind.u64.wrap (a1 - ((rd_T50 l0_2 x14_1).f3)))) = true := decide_eq_true c22
                      clear c22
                      (first | rw [c22b0] | (simp only [i64_w, i32_w]; rw [c22b0]) | skip)
                      have H' := Aside0.mk H
                      clear H
                      have hnb23 := NB111_109.out
                      have hnc23 := NB109_111.out
                      have hcz24_0 : wc.cell? ⟨gb111, 0, none⟩ = some (.int .u32 ((rd_T50 l0_2 x14_1).f0)) := (blk_cell BK111.out 0).trans rfl
                      have hcz24_1 : wc.cell? ⟨gb111, 1, none⟩ = some (.int .u32 ((rd_T50 l0_2 x14_1).f1)) := (blk_cell BK111.out 1).trans rfl
                      have hcz24_2 : wc.cell? ⟨gb111, 2, none⟩ = some (.int .u64 ((rd_T50 l0_2 x14_1).f2)) := (blk_cell BK111.out 2).trans rfl
                      have hcz24_3 : wc.cell? ⟨gb111, 3, none⟩ = some (.int .u64 ((rd_T50 l0_2 x14_1).f3)) := (blk_cell BK111.out 3).trans rfl
                      have hcz24_4 : wc.cell? ⟨gb111, 4, none⟩ = some (.int .u64 ((rd_T50 l0_2 x14_1).f4)) := (blk_cell BK111.out 4).trans rfl
                      have hcz24_5 : wc.cell? ⟨gb111, 5, none⟩ = some (.int .u64 ((rd_T50 l0_2 x14_1).f5)) := (blk_cell BK111.out 5).trans rfl
                      have hcz24_6 : wc.cell? ⟨gb111, 6, none⟩ = some (.int .u64 ((rd_T50 l0_2 x14_1).f6)) := (blk_cell BK111.out 6).trans rfl
                      have hfz24_0 := blk_frozen BK111.out 0
                      have hfz24_1 := blk_frozen BK111.out 1
                      have hfz24_2 := blk_frozen BK111.out 2
                      have hfz24_3 := blk_frozen BK111.out 3
                      have hfz24_4 := blk_frozen BK111.out 4
                      have hfz24_5 := blk_frozen BK111.out 5
                      have hfz24_6 := blk_frozen BK111.out 6
                      go_wp2
                      go_meet
                      case rel => exact ⟨_, (true), (by first | rfl | (simp; done) | (simp [*]; done)), H', ⟨by have := HK1.out; have := HJ8.out; first | omega | exact Nat.le_refl _⟩, ⟨by (with_reducible repeat (first | refine blk_drewN ?_ _ | refine blk_drew ?_ | refine blk_alloc ?_ _)); exact BK109.out⟩, ⟨by (with_reducible repeat (first | refine blk_drewN ?_ _ | refine blk_drew ?_ | refine blk_alloc ?_ _)); exact BK111.out⟩, ⟨by repeat (first | (with_reducible first | exact HB.out | apply below_alloc | apply pw_below_drewN | apply below_drew1 | refine below_set ?_ GE109.out | refine below_set ?_ GE111.out) | exact HB.out)⟩⟩
                    · rw [if_neg c22] at H
                      have c22b0 : decide (((rd_T50 l0_2 x14_1).f4) < (IntKind.u64.wrap (a1 - ((rd_T50 l0_2 x14_1).f3)))) = false := decide_eq_false c22
                      clear c22
                      (first | rw [c22b0] | (simp only [i64_w, i32_w]; rw [c22b0]) | skip)
                      have H' := Aside0.mk H
                      clear H
                      have hnb25 := NB111_109.out
                      have hnc25 := NB109_111.out
                      have hcz26_0 : wc.cell? ⟨gb111, 0, none⟩ = some (.int .u32 ((rd_T50 l0_2 x14_1).f0)) := (blk_cell BK111.out 0).trans rfl
                      have hcz26_1 : wc.cell? ⟨gb111, 1, none⟩ = some (.int .u32 ((rd_T50 l0_2 x14_1).f1)) := (blk_cell BK111.out 1).trans rfl
                      have hcz26_2 : wc.cell? ⟨gb111, 2, none⟩ = some (.int .u64 ((rd_T50 l0_2 x14_1).f2)) := (blk_cell BK111.out 2).trans rfl
                      have hcz26_3 : wc.cell? ⟨gb111, 3, none⟩ = some (.int .u64 ((rd_T50 l0_2 x14_1).f3)) := (blk_cell BK111.out 3).trans rfl
                      have hcz26_4 : wc.cell? ⟨gb111, 4, none⟩ = some (.int .u64 ((rd_T50 l0_2 x14_1).f4)) := (blk_cell BK111.out 4).trans rfl
                      have hcz26_5 : wc.cell? ⟨gb111, 5, none⟩ = some (.int .u64 ((rd_T50 l0_2 x14_1).f5)) := (blk_cell BK111.out 5).trans rfl
                      have hcz26_6 : wc.cell? ⟨gb111, 6, none⟩ = some (.int .u64 ((rd_T50 l0_2 x14_1).f6)) := (blk_cell BK111.out 6).trans rfl
                      have hfz26_0 := blk_frozen BK111.out 0
                      have hfz26_1 := blk_frozen BK111.out 1
                      have hfz26_2 := blk_frozen BK111.out 2
                      have hfz26_3 := blk_frozen BK111.out 3
                      have hfz26_4 := blk_frozen BK111.out 4
                      have hfz26_5 := blk_frozen BK111.out 5
                      have hfz26_6 := blk_frozen BK111.out 6
                      go_wp2
                      go_meet
                      case rel => exact ⟨_, (decide (a2 > (IntKind.u64.wrap (((rd_T50 l0_2 x14_1).f4) - (IntKind.u64.wrap (a1 - ((rd_T50 l0_2 x14_1).f3))))))), (by first | rfl | (simp; done) | (simp [*]; done)), H', ⟨by have := HK1.out; have := HJ8.out; first | omega | exact Nat.le_refl _⟩, ⟨by (with_reducible repeat (first | refine blk_drewN ?_ _ | refine blk_drew ?_ | refine blk_alloc ?_ _)); exact BK109.out⟩, ⟨by (with_reducible repeat (first | refine blk_drewN ?_ _ | refine blk_drew ?_ | refine blk_alloc ?_ _)); exact BK111.out⟩, ⟨by repeat (first | (with_reducible first | exact HB.out | apply below_alloc | apply pw_below_drewN | apply below_drew1 | refine below_set ?_ GE109.out | refine below_set ?_ GE111.out) | exact HB.out)⟩⟩
                  case rest =>
                    clear HC19
                    try clear c1
                    try clear p1
                    try clear q1
                    try clear hx1
                    try clear c2
                    try clear p2
                    try clear c6
                    try clear c6b0
                    try clear p6
                    try clear c7
                    try clear c7b0
                    try clear c8
                    try clear c8b0
                    try clear c11
                    try clear p11
                    try clear q11
                    try clear hx11
                    try clear c13
                    try clear c13b0
                    try clear c13b1
                    try clear c14
                    try clear c16
                    try clear c18
                    try clear c20
                    try clear c22
                    try clear c22b0
                    try clear c23
                    try clear c25
                    try clear hcz12_0
                    try clear hcz12_1
                    try clear hcz12_2
                    try clear hcz12_3
                    try clear hcz12_4
                    try clear hcz12_5
                    try clear hcz12_6
                    try clear hcz15_0
                    try clear hcz15_1
                    try clear hcz15_2
                    try clear hcz15_3
                    try clear hcz15_4
                    try clear hcz15_5
                    try clear hcz15_6
                    try clear hcz17_0
                    try clear hcz17_1
                    try clear hcz17_2
                    try clear hcz17_3
                    try clear hcz17_4
                    try clear hcz17_5
                    try clear hcz17_6
                    try clear hcz21_0
                    try clear hcz21_1
                    try clear hcz21_2
                    try clear hcz21_3
                    try clear hcz21_4
                    try clear hcz21_5
                    try clear hcz21_6
                    try clear hcz24_0
                    try clear hcz24_1
                    try clear hcz24_2
                    try clear hcz24_3
                    try clear hcz24_4
                    try clear hcz24_5
                    try clear hcz24_6
                    try clear hcz26_0
                    try clear hcz26_1
                    try clear hcz26_2
                    try clear hcz26_3
                    try clear hcz26_4
                    try clear hcz26_5
                    try clear hcz26_6
                    try clear hcz5_0
                    try clear hcz5_1
                    try clear hcz5_2
                    try clear hfz12_0
                    try clear hfz12_1
                    try clear hfz12_2
                    try clear hfz12_3
                    try clear hfz12_4
                    try clear hfz12_5
                    try clear hfz12_6
                    try clear hfz15_0
                    try clear hfz15_1
                    try clear hfz15_2
                    try clear hfz15_3
                    try clear hfz15_4
                    try clear hfz15_5
                    try clear hfz15_6
                    try clear hfz17_0
                    try clear hfz17_1
                    try clear hfz17_2
                    try clear hfz17_3
                    try clear hfz17_4
                    try clear hfz17_5
                    try clear hfz17_6
                    try clear hfz21_0
                    try clear hfz21_1
                    try clear hfz21_2
                    try clear hfz21_3
                    try clear hfz21_4
                    try clear hfz21_5
                    try clear hfz21_6
                    try clear hfz24_0
                    try clear hfz24_1
                    try clear hfz24_2
                    try clear hfz24_3
                    try clear hfz24_4
                    try clear hfz24_5
                    try clear hfz24_6
                    try clear hfz26_0
                    try clear hfz26_1
                    try clear hfz26_2
                    try clear hfz26_3
                    try clear hfz26_4
                    try clear hfz26_5
                    try clear hfz26_6
                    try clear hfz5_0
                    try clear hfz5_1
                    try clear hfz5_2
                    try clear hx110_0
                    try clear hx110_1
                    try clear hx110_2
                    try clear hx110_3
                    try clear hx110_4
                    try clear hx110_5
                    try clear hx110_6
                    try clear p1
                    try clear p11
                    try clear p110
                    try clear p2
                    try clear q1
                    try clear q11
                    try clear q110
                    obtain ⟨kq, x42_18, rfl, HA, HJ18, BK109, BK111, HB⟩ := hcut
                    cases kq with
                    | zero => exact absurd HA.out (by simp [dyn_Offset.j2])
                    | succ kj18 =>
                      have H := HA.out
                      clear HA
                      simp only [dyn_Offset.j2] at H
                      by_cases c27 : x42_18 = true
                      · subst c27
                        have H1 : (dyn_Offset.l0 kj18 a1 a2 l0_2 (l0_2.length : Int) (wrap64 (x14_1 + 1))) = some (r1, r2) := by rw [if_pos rfl] at H; exact H
                        clear H
                        have H := H1
                        clear H1
                        have H' := Aside0.mk H
                        clear H
                        go_wp2
                        go_roundg kj18
                        case measure => have := HK1.out; have := HJ8.out; have := HJ18.out; omega
                        case rel => exact ⟨(wrap64 (x14_1 + 1)), (by first | rfl | (simp; done) | (simp [*]; done)), H', ⟨by have := HK1.out; have := HJ8.out; have := HJ18.out; omega⟩, ⟨by (with_reducible repeat (first | refine blk_drewN ?_ _ | refine blk_drew ?_ | refine blk_alloc ?_ _)); exact BK109.out⟩, ⟨by repeat (first | (with_reducible first | exact HB.out | apply below_alloc | apply pw_below_drewN | apply below_drew1 | refine below_set ?_ GE109.out | refine below_set ?_ GE111.out) | exact HB.out)⟩⟩
                      · replace c27 := Bool.eq_false_iff.mpr c27
                        subst c27
                        have H1 : (if ((rd_T50 l0_2 x14_1).f2) > (IntKind.u64.wrap (18446744073709551615 - (IntKind.u64.wrap (a1 - ((rd_T50 l0_2 x14_1).f3))))) then (some (0, some 4)) else (some (IntKind.u64.wrap (((rd_T50 l0_2 x14_1).f2) + (IntKind.u64.wrap (a1 - ((rd_T50 l0_2 x14_1).f3)))), none))) = some (r1, r2) := by rw [if_neg (show ¬ (false = true) by decide)] at H; exact H
                        clear H
                        have H := H1
                        clear H1
                        by_cases c28 : ((rd_T50 l0_2 x14_1).f2) > (IntKind.u64.wrap (18446744073709551615 - (IntKind.u64.wrap (a1 - ((rd_T50 l0_2 x14_1).f3)))))
                        · rw [if_pos c28] at H
                          have c28b0 : decide ((IntKind.u64.wrap (18446744073709551615 - (IntKind.u64.wrap (a1 - ((rd_T50 l0_2 x14_1).f3))))) < ((rd_T50 l0_2 x14_1).f2)) = true := decide_eq_true c28
                          clear c28
                          simp only [Option.some.injEq, Prod.mk.injEq] at H
                          obtain ⟨rfl, rfl⟩ := H
                          have hnb29 := NB111_109.out
                          have hnc29 := NB109_111.out
                          have hcz30_0 : wc.cell? ⟨gb111, 0, none⟩ = some (.int .u32 ((rd_T50 l0_2 x14_1).f0)) := (blk_cell BK111.out 0).trans rfl
                          have hcz30_1 : wc.cell? ⟨gb111, 1, none⟩ = some (.int .u32 ((rd_T50 l0_2 x14_1).f1)) := (blk_cell BK111.out 1).trans rfl
                          have hcz30_2 : wc.cell? ⟨gb111, 2, none⟩ = some (.int .u64 ((rd_T50 l0_2 x14_1).f2)) := (blk_cell BK111.out 2).trans rfl
                          have hcz30_3 : wc.cell? ⟨gb111, 3, none⟩ = some (.int .u64 ((rd_T50 l0_2 x14_1).f3)) := (blk_cell BK111.out 3).trans rfl
                          have hcz30_4 : wc.cell? ⟨gb111, 4, none⟩ = some (.int .u64 ((rd_T50 l0_2 x14_1).f4)) := (blk_cell BK111.out 4).trans rfl
                          have hcz30_5 : wc.cell? ⟨gb111, 5, none⟩ = some (.int .u64 ((rd_T50 l0_2 x14_1).f5)) := (blk_cell BK111.out 5).trans rfl
                          have hcz30_6 : wc.cell? ⟨gb111, 6, none⟩ = some (.int .u64 ((rd_T50 l0_2 x14_1).f6)) := (blk_cell BK111.out 6).trans rfl
                          have hfz30_0 := blk_frozen BK111.out 0
                          have hfz30_1 := blk_frozen BK111.out 1
                          have hfz30_2 := blk_frozen BK111.out 2
                          have hfz30_3 := blk_frozen BK111.out 3
                          have hfz30_4 := blk_frozen BK111.out 4
                          have hfz30_5 := blk_frozen BK111.out 5
                          have hfz30_6 := blk_frozen BK111.out 6
                          go_wp2
                          go_ret2
                          exact ⟨by first | rfl | (simp [errW_none, errW_some] <;> rfl) | (simp [*, errW_none, errW_some] <;> rfl), by repeat (first | (with_reducible first | exact HB.out | apply below_alloc | apply pw_below_drewN | apply below_drew1 | refine below_set ?_ GE109.out | refine below_set ?_ GE111.out) | exact HB.out)⟩
                        · rw [if_neg c28] at H
                          have c28b0 : decide ((IntKind.u64.wrap (18446744073709551615 - (IntKind.u64.wrap (a1 - ((rd_T50 l0_2 x14_1).f3))))) < ((rd_T50 l0_2 x14_1).f2)) = false := decide_eq_false c28
                          clear c28
                          simp only [Option.some.injEq, Prod.mk.injEq] at H
                          obtain ⟨rfl, rfl⟩ := H
                          have hnb31 := NB111_109.out
                          have hnc31 := NB109_111.out
                          have hcz32_0 : wc.cell? ⟨gb111, 0, none⟩ = some (.int .u32 ((rd_T50 l0_2 x14_1).f0)) := (blk_cell BK111.out 0).trans rfl
                          have hcz32_1 : wc.cell? ⟨gb111, 1, none⟩ = some (.int .u32 ((rd_T50 l0_2 x14_1).f1)) := (blk_cell BK111.out 1).trans rfl
                          have hcz32_2 : wc.cell? ⟨gb111, 2, none⟩ = some (.int .u64 ((rd_T50 l0_2 x14_1).f2)) := (blk_cell BK111.out 2).trans rfl
                          have hcz32_3 : wc.cell? ⟨gb111, 3, none⟩ = some (.int .u64 ((rd_T50 l0_2 x14_1).f3)) := (blk_cell BK111.out 3).trans rfl
                          have hcz32_4 : wc.cell? ⟨gb111, 4, none⟩ = some (.int .u64 ((rd_T50 l0_2 x14_1).f4)) := (blk_cell BK111.out 4).trans rfl
                          have hcz32_5 : wc.cell? ⟨gb111, 5, none⟩ = some (.int .u64 ((rd_T50 l0_2 x14_1).f5)) := (blk_cell BK111.out 5).trans rfl
                          have hcz32_6 : wc.cell? ⟨gb111, 6, none⟩ = some (.int .u64 ((rd_T50 l0_2 x14_1).f6)) := (blk_cell BK111.out 6).trans rfl
                          have hfz32_0 := blk_frozen BK111.out 0
                          have hfz32_1 := blk_frozen BK111.out 1
                          have hfz32_2 := blk_frozen BK111.out 2
                          have hfz32_3 := blk_frozen BK111.out 3
                          have hfz32_4 := blk_frozen BK111.out 4
                          have hfz32_5 := blk_frozen BK111.out 5
                          have hfz32_6 := blk_frozen BK111.out 6
                          go_wp2
                          go_ret2
                          exact ⟨by first | rfl | (simp [errW_none, errW_some] <;> rfl) | (simp [*, errW_none, errW_some] <;> rfl), by repeat (first | (with_reducible first | exact HB.out | apply below_alloc | apply pw_below_drewN | apply below_drew1 | refine below_set ?_ GE109.out | refine below_set ?_ GE111.out) | exact HB.out)⟩
          · rw [if_neg c8] at H
            exact absurd H (by simp)
        · rw [if_neg c7] at H
          exact absurd H (by simp)
      · rw [if_neg c6] at H
        have c6b0 : decide (x14_1 < (l0_2.length : Int)) = false := decide_eq_false c6
        clear c6
        simp only [Option.some.injEq, Prod.mk.injEq] at H
        obtain ⟨rfl, rfl⟩ := H
        go_wp2
        go_ret2
        exact ⟨by first | rfl | (simp [errW_none, errW_some] <;> rfl) | (simp [*, errW_none, errW_some] <;> rfl), by repeat (first | (with_reducible first | exact HB.out | apply below_alloc | apply pw_below_drewN | apply below_drew1 | refine below_set ?_ GE109.out) | exact HB.out)⟩

end Go.Proofs.Ytjbndfogjmfbhaa.PDynOrders
