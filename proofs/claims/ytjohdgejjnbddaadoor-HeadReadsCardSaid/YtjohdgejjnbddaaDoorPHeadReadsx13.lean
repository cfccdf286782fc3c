/- Printed by this session's own program (wip/tools: a turn of the kit's print) out of the translation: each Go function that the law reaches as a Lean function, and that the machine's call comes to what that function tells; no condition but what each theorem names. -/
import Derived.Test.YtjohdgejjnbddaaDoorPHeadReadsx0
import Derived.Test.YtjohdgejjnbddaaDoorPHeadReadsx1
namespace Go.Proofs.YtjohdgejjnbddaaDoor.PHeadReads
open Go.RowKit Go.Proofs.YtjohdgejjnbddaaDoorW.PrintWords Go.Proofs.YtjohdgejjnbddaaDoorW.PrintLast Go.Proofs.YtjohdgejjnbddaaDoorW.PrintMore Go.Proofs.YtjohdgejjnbddaaDoorX
attribute [local go_sem] max2_int min2_int max_two min_two max_three min_three max_four min_four   -- for this text's walks alone
set_option linter.unusedVariables false
set_option linter.unusedSimpArgs false

attribute [local go_sem high] eqA50
/-! ### shackleref04_Same: function 11 -/
mutual
def shackleref04_Same.j0 : Nat → Bool → Int → Int → List (S50) → Int → Int → List (S50) → Option (Bool)
 | 0, _, _, _, _, _, _, _ => none
 | k + 1, x26, x276000, x276001, x276002, x277000, x277001, x277002 => if x26 = true then (some false) else (shackleref04_Same.l0 k 0 x276000 x276001 x276002 x277000 x277001 x277002)
def shackleref04_Same.l0 : Nat → Int → Int → Int → List (S50) → Int → Int → List (S50) → Option (Bool)
 | 0, _, _, _, _, _, _, _ => none
 | k + 1, x5, x276000, x276001, x276002, x277000, x277001, x277002 => if x5 < (x276002.length : Int) then (if 0 ≤ x5 then (if x5 < (x277002.length : Int) then (if (!(((rd_T50 x276002 x5).f0) == ((rd_T50 x277002 x5).f0)) || (!(((rd_T50 x276002 x5).f1) == ((rd_T50 x277002 x5).f1)) || (!(((rd_T50 x276002 x5).f2) == ((rd_T50 x277002 x5).f2)) || (!(((rd_T50 x276002 x5).f3) == ((rd_T50 x277002 x5).f3)) || (!(((rd_T50 x276002 x5).f4) == ((rd_T50 x277002 x5).f4)) || (!(((rd_T50 x276002 x5).f5) == ((rd_T50 x277002 x5).f5)) || (!(((rd_T50 x276002 x5).f6) == ((rd_T50 x277002 x5).f6))))))))) = true then (some false) else (shackleref04_Same.l0 k (wrap64 (x5 + 1)) x276000 x276001 x276002 x277000 x277001 x277002)) else (none)) else (none)) else (some true)
end
def shackleref04_Same.f (k : Nat) (a0_0 : Int) (a0_1 : Int) (l0_2 : List (S50)) (a1_0 : Int) (a1_1 : Int) (l1_2 : List (S50)) : Option (Bool) := if a0_0 = a1_0 then (if a0_1 = a1_1 then (shackleref04_Same.j0 k ((l0_2.length : Int) != (l1_2.length : Int)) a0_0 a0_1 l0_2 a1_0 a1_1 l1_2) else (shackleref04_Same.j0 k true a0_0 a0_1 l0_2 a1_0 a1_1 l1_2)) else (shackleref04_Same.j0 k true a0_0 a0_1 l0_2 a1_0 a1_1 l1_2)
theorem shackleref04_Same.mono_l : ∀ k, (∀ y0 y1 y2 y3 y4 y5 y6, LeO (shackleref04_Same.j0 k y0 y1 y2 y3 y4 y5 y6) (shackleref04_Same.j0 (k + 1) y0 y1 y2 y3 y4 y5 y6)) ∧ (∀ y0 y1 y2 y3 y4 y5 y6, LeO (shackleref04_Same.l0 k y0 y1 y2 y3 y4 y5 y6) (shackleref04_Same.l0 (k + 1) y0 y1 y2 y3 y4 y5 y6))
 | 0 => ⟨fun _ _ _ _ _ _ _ r h => by simp [shackleref04_Same.j0] at h, fun _ _ _ _ _ _ _ r h => by simp [shackleref04_Same.l0] at h⟩
 | k + 1 => by
  obtain ⟨ih0, ih1⟩ := shackleref04_Same.mono_l k; refine ⟨?_, ?_⟩
  ·intro y0 y1 y2 y3 y4 y5 y6
   unfold shackleref04_Same.j0
   repeat' first
   | (with_reducible exact ih0 _ _ _ _ _ _ _)
   | (with_reducible exact ih1 _ _ _ _ _ _ _)
   | (with_reducible exact LeO.refl _)
   | (with_reducible exact LeO.none _)
   | (with_reducible refine LeO.ite ?_ ?_)
   | (with_reducible refine LeO.bind ?_ (fun _ => ?_))
   | exact ih0 _ _ _ _ _ _ _
   | exact ih1 _ _ _ _ _ _ _
   | exact LeO.none _
   | refine LeO.ite ?_ ?_
   | refine LeO.bind ?_ (fun _ => ?_)
  ·intro y0 y1 y2 y3 y4 y5 y6
   unfold shackleref04_Same.l0
   repeat' first
   | (with_reducible exact ih0 _ _ _ _ _ _ _)
   | (with_reducible exact ih1 _ _ _ _ _ _ _)
   | (with_reducible exact LeO.refl _)
   | (with_reducible exact LeO.none _)
   | (with_reducible refine LeO.ite ?_ ?_)
   | (with_reducible refine LeO.bind ?_ (fun _ => ?_))
   | exact ih0 _ _ _ _ _ _ _
   | exact ih1 _ _ _ _ _ _ _
   | exact LeO.none _
   | refine LeO.ite ?_ ?_
   | refine LeO.bind ?_ (fun _ => ?_)
theorem shackleref04_Same.mono : ∀ a0 a1 a2 a3 a4 a5 k, LeO (shackleref04_Same.f k a0 a1 a2 a3 a4 a5) (shackleref04_Same.f (k + 1) a0 a1 a2 a3 a4 a5) := by
 intro a0 a1 a2 a3 a4 a5 k; obtain ⟨ih0, ih1⟩ := shackleref04_Same.mono_l k
 unfold shackleref04_Same.f
 repeat' first
   | (with_reducible exact ih0 _ _ _ _ _ _ _)
   | (with_reducible exact ih1 _ _ _ _ _ _ _)
   | (with_reducible exact LeO.refl _)
   | (with_reducible exact LeO.none _)
   | (with_reducible refine LeO.ite ?_ ?_)
   | (with_reducible refine LeO.bind ?_ (fun _ => ?_))
   | exact ih0 _ _ _ _ _ _ _
   | exact ih1 _ _ _ _ _ _ _
   | exact LeO.none _
   | refine LeO.ite ?_ ?_
   | refine LeO.bind ?_ (fun _ => ?_)
set_option maxHeartbeats 8000000 in
set_option maxRecDepth 100000 in
theorem shackleref04_Same.calls (k : Nat) (a0_0 : Int) (a0_1 : Int) (A0_2 : Option Addr) (c0_2 : Nat) (l0_2 : List (S50)) (a1_0 : Int) (a1_1 : Int) (A1_2 : Option Addr) (c1_2 : Nat) (l1_2 : List (S50)) (r : Bool) (w : World) (hr0_2 : Kd.C k50 w A0_2 l0_2.length l0_2) (hc0_2 : l0_2.length ≤ c0_2) (hr1_2 : Kd.C k50 w A1_2 l1_2.length l1_2) (hc1_2 : l1_2.length ≤ c1_2) (h : shackleref04_Same.f k a0_0 a0_1 l0_2 a1_0 a1_1 l1_2 = some r) :
  Calls Tryd.prog 11 #[.agg #[.int .i64 a0_0, .int .u64 a0_1, .slice A0_2 l0_2.length c0_2], .agg #[.int .i64 a1_0, .int .u64 a1_1, .slice A1_2 l1_2.length c1_2]] w fun e w' => e = .returned (.bool r) ∧ Below w.heap.size w w' := by
 have hu27 := Tryd.underlying27; have hu50 := Tryd.underlying50; have HR0_2 := aM hr0_2; have HC0_2 := aM hc0_2; clear hr0_2 hc0_2; have HR1_2 := aM hr1_2; have HC1_2 := aM hc1_2; clear hr1_2 hc1_2; have HB := aM (Below.refl w.heap.size w); have H : (if a0_0 = a1_0 then (if a0_1 = a1_1 then (shackleref04_Same.j0 k ((l0_2.length : Int) != (l1_2.length : Int)) a0_0 a0_1 l0_2 a1_0 a1_1 l1_2) else (shackleref04_Same.j0 k true a0_0 a0_1 l0_2 a1_0 a1_1 l1_2)) else (shackleref04_Same.j0 k true a0_0 a0_1 l0_2 a1_0 a1_1 l1_2)) = some r := h; clear h; have HC3 := aM H; clear H
 go_enter Tryd.func11, Tryd.ntmps11
 go_upto_region 1 with (first | ((with_reducible refine gate_dst (N := 2) rfl ?_); (try (refine gate_guard (by rfl) ?_; dsimp only)); refine box_event ?hg (N := 2) ?hd (cs := #[.int .i64 a0_0, .int .u64 a0_1, .slice A0_2 l0_2.length c0_2]) (t := 27) ?hr ?_; (case hd => rfl); (case hg => rfl); (case hr => first | (go_simp; done) | (go_simp; rfl)); intro gb275 hg w4 hbox hb; have BK275 := aM (hbox); have GW275 := aM ((by rw [hg]; exact (below_size (by repeat (first | (with_reducible first | exact HB.out | apply bA | apply bN | apply bD) | exact HB.out))) : w.heap.size ≤ gb275)); have GE275 := aM ((by rw [hg]; exact (below_size (by repeat (first | (with_reducible first | exact HB.out | apply bA | apply bN | apply bD) | exact HB.out))) : w.heap.size ≤ gb275)); replace HB := aM (below_step (by repeat (first | (with_reducible first | exact HB.out | apply bA | apply bN | apply bD) | exact HB.out)) hb); clear hb hbox hg) | ((with_reducible refine gate_dst (N := 3) rfl ?_); (try (refine gate_guard (by rfl) ?_; dsimp only)); refine box_event ?hg (N := 3) ?hd (cs := #[.int .i64 a1_0, .int .u64 a1_1, .slice A1_2 l1_2.length c1_2]) (t := 27) ?hr ?_; (case hd => rfl); (case hg => rfl); (case hr => first | (go_simp; done) | (go_simp; rfl)); intro gb276 hg w5 hbox hb; have BK276 := aM (hbox); have GW276 := aM ((by rw [hg]; exact (below_size (by repeat (first | (with_reducible first | exact HB.out | apply bA | apply bN | apply bD | refine below_set ?_ GE275.out) | exact HB.out))) : w.heap.size ≤ gb276)); have GE276 := aM ((by rw [hg]; exact (below_size (by repeat (first | (with_reducible first | exact HB.out | apply bA | apply bN | apply bD | refine below_set ?_ GE275.out) | exact HB.out))) : w.heap.size ≤ gb276)); replace HB := aM (below_step (by repeat (first | (with_reducible first | exact HB.out | apply bA | apply bN | apply bD | refine below_set ?_ GE275.out) | exact HB.out)) hb); have NB275_276 := aM ((by rw [hg]; exact Nat.ne_of_lt (blk_lt (by (with_reducible repeat (first | refine kN ?_ _ | refine kD ?_ | refine kA ?_ _)); exact BK275.out)) : gb275 ≠ gb276)); have NB276_275 := aM ((by rw [hg]; exact Nat.ne_of_gt (blk_lt (by (with_reducible repeat (first | refine kN ?_ _ | refine kD ?_ | refine kA ?_ _)); exact BK275.out)) : gb276 ≠ gb275)); replace BK275 := aM (blk_below (by (with_reducible repeat (first | refine kN ?_ _ | refine kD ?_ | refine kA ?_ _)); exact BK275.out) hb); clear hb hbox hg))
 repeat (go_quiet (first | ((with_reducible refine gate_dst (N := 2) rfl ?_); (try (refine gate_guard (by rfl) ?_; dsimp only)); refine box_event ?hg (N := 2) ?hd (cs := #[.int .i64 a0_0, .int .u64 a0_1, .slice A0_2 l0_2.length c0_2]) (t := 27) ?hr ?_; (case hd => rfl); (case hg => rfl); (case hr => first | (go_simp; done) | (go_simp; rfl)); intro gb275 hg w4 hbox hb; have BK275 := aM (hbox); have GW275 := aM ((by rw [hg]; exact (below_size (by repeat (first | (with_reducible first | exact HB.out | apply bA | apply bN | apply bD) | exact HB.out))) : w.heap.size ≤ gb275)); have GE275 := aM ((by rw [hg]; exact (below_size (by repeat (first | (with_reducible first | exact HB.out | apply bA | apply bN | apply bD) | exact HB.out))) : w.heap.size ≤ gb275)); replace HB := aM (below_step (by repeat (first | (with_reducible first | exact HB.out | apply bA | apply bN | apply bD) | exact HB.out)) hb); clear hb hbox hg) | ((with_reducible refine gate_dst (N := 3) rfl ?_); (try (refine gate_guard (by rfl) ?_; dsimp only)); refine box_event ?hg (N := 3) ?hd (cs := #[.int .i64 a1_0, .int .u64 a1_1, .slice A1_2 l1_2.length c1_2]) (t := 27) ?hr ?_; (case hd => rfl); (case hg => rfl); (case hr => first | (go_simp; done) | (go_simp; rfl)); intro gb276 hg w5 hbox hb; have BK276 := aM (hbox); have GW276 := aM ((by rw [hg]; exact (below_size (by repeat (first | (with_reducible first | exact HB.out | apply bA | apply bN | apply bD | refine below_set ?_ GE275.out) | exact HB.out))) : w.heap.size ≤ gb276)); have GE276 := aM ((by rw [hg]; exact (below_size (by repeat (first | (with_reducible first | exact HB.out | apply bA | apply bN | apply bD | refine below_set ?_ GE275.out) | exact HB.out))) : w.heap.size ≤ gb276)); replace HB := aM (below_step (by repeat (first | (with_reducible first | exact HB.out | apply bA | apply bN | apply bD | refine below_set ?_ GE275.out) | exact HB.out)) hb); have NB275_276 := aM ((by rw [hg]; exact Nat.ne_of_lt (blk_lt (by (with_reducible repeat (first | refine kN ?_ _ | refine kD ?_ | refine kA ?_ _)); exact BK275.out)) : gb275 ≠ gb276)); have NB276_275 := aM ((by rw [hg]; exact Nat.ne_of_gt (blk_lt (by (with_reducible repeat (first | refine kN ?_ _ | refine kD ?_ | refine kA ?_ _)); exact BK275.out)) : gb276 ≠ gb275)); replace BK275 := aM (blk_below (by (with_reducible repeat (first | refine kN ?_ _ | refine kD ?_ | refine kA ?_ _)); exact BK275.out) hb); clear hb hbox hg)); go_upto_region 1 with (first | ((with_reducible refine gate_dst (N := 2) rfl ?_); (try (refine gate_guard (by rfl) ?_; dsimp only)); refine box_event ?hg (N := 2) ?hd (cs := #[.int .i64 a0_0, .int .u64 a0_1, .slice A0_2 l0_2.length c0_2]) (t := 27) ?hr ?_; (case hd => rfl); (case hg => rfl); (case hr => first | (go_simp; done) | (go_simp; rfl)); intro gb275 hg w4 hbox hb; have BK275 := aM (hbox); have GW275 := aM ((by rw [hg]; exact (below_size (by repeat (first | (with_reducible first | exact HB.out | apply bA | apply bN | apply bD) | exact HB.out))) : w.heap.size ≤ gb275)); have GE275 := aM ((by rw [hg]; exact (below_size (by repeat (first | (with_reducible first | exact HB.out | apply bA | apply bN | apply bD) | exact HB.out))) : w.heap.size ≤ gb275)); replace HB := aM (below_step (by repeat (first | (with_reducible first | exact HB.out | apply bA | apply bN | apply bD) | exact HB.out)) hb); clear hb hbox hg) | ((with_reducible refine gate_dst (N := 3) rfl ?_); (try (refine gate_guard (by rfl) ?_; dsimp only)); refine box_event ?hg (N := 3) ?hd (cs := #[.int .i64 a1_0, .int .u64 a1_1, .slice A1_2 l1_2.length c1_2]) (t := 27) ?hr ?_; (case hd => rfl); (case hg => rfl); (case hr => first | (go_simp; done) | (go_simp; rfl)); intro gb276 hg w5 hbox hb; have BK276 := aM (hbox); have GW276 := aM ((by rw [hg]; exact (below_size (by repeat (first | (with_reducible first | exact HB.out | apply bA | apply bN | apply bD | refine below_set ?_ GE275.out) | exact HB.out))) : w.heap.size ≤ gb276)); have GE276 := aM ((by rw [hg]; exact (below_size (by repeat (first | (with_reducible first | exact HB.out | apply bA | apply bN | apply bD | refine below_set ?_ GE275.out) | exact HB.out))) : w.heap.size ≤ gb276)); replace HB := aM (below_step (by repeat (first | (with_reducible first | exact HB.out | apply bA | apply bN | apply bD | refine below_set ?_ GE275.out) | exact HB.out)) hb); have NB275_276 := aM ((by rw [hg]; exact Nat.ne_of_lt (blk_lt (by (with_reducible repeat (first | refine kN ?_ _ | refine kD ?_ | refine kA ?_ _)); exact BK275.out)) : gb275 ≠ gb276)); have NB276_275 := aM ((by rw [hg]; exact Nat.ne_of_gt (blk_lt (by (with_reducible repeat (first | refine kN ?_ _ | refine kD ?_ | refine kA ?_ _)); exact BK275.out)) : gb276 ≠ gb275)); replace BK275 := aM (blk_below (by (with_reducible repeat (first | refine kN ?_ _ | refine kD ?_ | refine kA ?_ _)); exact BK275.out) hb); clear hb hbox hg)))
 (try simp only [Act.put, sA, sZ, sS])
 go_cut [26] (fun v26 wc => ∃ (kq : Nat) (x26_2 : Bool), v26 = .bool x26_2 ∧ Aside0 (shackleref04_Same.j0 kq x26_2 a0_0 a0_1 l0_2 a1_0 a1_1 l1_2 = some r) ∧ Aside0 (kq ≤ k) ∧ Aside0 (wc.heap[gb275]? = some (.cells #[.int .i64 a0_0, .int .u64 a0_1, (.slice A0_2 l0_2.length c0_2)] 27 (0, 0))) ∧ Aside0 (wc.heap[gb276]? = some (.cells #[.int .i64 a1_0, .int .u64 a1_1, (.slice A1_2 l1_2.length c1_2)] 27 (0, 0))) ∧ Aside0 (Below w.heap.size w wc))
 case first =>
  have H := HC3.out; clear HC3
  by_cases c6 : a0_0 = a1_0
  ·rw [if_pos c6] at H; have c6b0 : (a0_0 == a1_0) = true := beq_iff_eq.mpr c6; have c6b1 : (a0_0 != a1_0) = false := bne_eq_false_iff_eq.mpr c6; clear c6
   (first | rw [c6b0] | (simp only [i64_w, i32_w]; rw [c6b0]) | skip)
   by_cases c7 : a0_1 = a1_1
   ·rw [if_pos c7] at H; have c7b0 : (a0_1 == a1_1) = true := beq_iff_eq.mpr c7; have c7b1 : (a0_1 != a1_1) = false := bne_eq_false_iff_eq.mpr c7; clear c7; have H' := aM H; clear H; have hnb8 := NB275_276.out; have hnc8 := NB276_275.out; obtain ⟨hcz9_0, hcz9_1, hcz9_2, hfz9_0, hfz9_1, hfz9_2⟩ := bx3 BK275.out; obtain ⟨hcz10_0, hcz10_1, hcz10_2, hfz10_0, hfz10_1, hfz10_2⟩ := bx3 BK276.out
    go_wp2
    repeat (go_quiet (fail); try go_wp2)
    go_meet
    case rel => exact ⟨_, (((l0_2.length : Int) != (l1_2.length : Int))), (by first | rfl | (simp; done) | (simp [*]; done)), H', ⟨by first | omega | exact Nat.le_refl _⟩, ⟨by (with_reducible repeat (first | refine kN ?_ _ | refine kD ?_ | refine kA ?_ _)); exact BK275.out⟩, ⟨by (with_reducible repeat (first | refine kN ?_ _ | refine kD ?_ | refine kA ?_ _)); exact BK276.out⟩, ⟨by repeat (first | (with_reducible first | exact HB.out | apply bA | apply bN | apply bD | refine below_set ?_ GE275.out | refine below_set ?_ GE276.out) | exact HB.out)⟩⟩
   ·rw [if_neg c7] at H; have c7b0 : (a0_1 == a1_1) = false := beq_eq_false_iff_ne.mpr c7; have c7b1 : (a0_1 != a1_1) = true := bne_iff_ne.mpr c7; have H' := aM H; clear H; have hnb11 := NB275_276.out; have hnc11 := NB276_275.out; obtain ⟨hcz12_0, hcz12_1, hcz12_2, hfz12_0, hfz12_1, hfz12_2⟩ := bx3 BK275.out; obtain ⟨hcz13_0, hcz13_1, hcz13_2, hfz13_0, hfz13_1, hfz13_2⟩ := bx3 BK276.out
    go_wp2
    repeat (go_quiet (fail); try go_wp2)
    go_meet
    case rel => exact ⟨_, (true), (by first | rfl | (simp; done) | (simp [*]; done)), H', ⟨by first | omega | exact Nat.le_refl _⟩, ⟨by (with_reducible repeat (first | refine kN ?_ _ | refine kD ?_ | refine kA ?_ _)); exact BK275.out⟩, ⟨by (with_reducible repeat (first | refine kN ?_ _ | refine kD ?_ | refine kA ?_ _)); exact BK276.out⟩, ⟨by repeat (first | (with_reducible first | exact HB.out | apply bA | apply bN | apply bD | refine below_set ?_ GE275.out | refine below_set ?_ GE276.out) | exact HB.out)⟩⟩
  ·rw [if_neg c6] at H; have c6b0 : (a0_0 == a1_0) = false := beq_eq_false_iff_ne.mpr c6; have c6b1 : (a0_0 != a1_0) = true := bne_iff_ne.mpr c6
   (first | rw [c6b0] | (simp only [i64_w, i32_w]; rw [c6b0]) | skip)
   have H' := aM H; clear H; have hnb14 := NB275_276.out; have hnc14 := NB276_275.out; obtain ⟨hcz15_0, hcz15_1, hcz15_2, hfz15_0, hfz15_1, hfz15_2⟩ := bx3 BK275.out; obtain ⟨hcz16_0, hcz16_1, hcz16_2, hfz16_0, hfz16_1, hfz16_2⟩ := bx3 BK276.out
   go_wp2
   repeat (go_quiet (fail); try go_wp2)
   go_meet
   case rel => exact ⟨_, (true), (by first | rfl | (simp; done) | (simp [*]; done)), H', ⟨by first | omega | exact Nat.le_refl _⟩, ⟨by (with_reducible repeat (first | refine kN ?_ _ | refine kD ?_ | refine kA ?_ _)); exact BK275.out⟩, ⟨by (with_reducible repeat (first | refine kN ?_ _ | refine kD ?_ | refine kA ?_ _)); exact BK276.out⟩, ⟨by repeat (first | (with_reducible first | exact HB.out | apply bA | apply bN | apply bD | refine below_set ?_ GE275.out | refine below_set ?_ GE276.out) | exact HB.out)⟩⟩
 case rest =>
  clear HC3
  try clear c1
  try clear p2
  try clear c6
  try clear c6b0
  try clear c6b1
  try clear c7
  try clear c7b0
  try clear c7b1
  try clear c8
  try clear c11
  try clear c14
  try clear hcz10_0
  try clear hcz10_1
  try clear hcz10_2
  try clear hcz12_0
  try clear hcz12_1
  try clear hcz12_2
  try clear hcz13_0
  try clear hcz13_1
  try clear hcz13_2
  try clear hcz15_0
  try clear hcz15_1
  try clear hcz15_2
  try clear hcz16_0
  try clear hcz16_1
  try clear hcz16_2
  try clear hcz9_0
  try clear hcz9_1
  try clear hcz9_2
  try clear hfz10_0
  try clear hfz10_1
  try clear hfz10_2
  try clear hfz12_0
  try clear hfz12_1
  try clear hfz12_2
  try clear hfz13_0
  try clear hfz13_1
  try clear hfz13_2
  try clear hfz15_0
  try clear hfz15_1
  try clear hfz15_2
  try clear hfz16_0
  try clear hfz16_1
  try clear hfz16_2
  try clear hfz9_0
  try clear hfz9_1
  try clear hfz9_2
  obtain ⟨kq, x26_2, rfl, HA, HJ2, BK275, BK276, HB⟩ := hcut
  cases kq with
  | zero => exact absurd HA.out (by simp [shackleref04_Same.j0])
  | succ kj2 =>
   have H := HA.out; clear HA; simp only [shackleref04_Same.j0] at H
   by_cases c17 : x26_2 = true
   ·subst c17
    have H1 : (some false) = some r := by rw [if_pos rfl] at H; exact H
    clear H; have H := H1; clear H1; obtain rfl := Option.some.inj H
    go_wp2
    repeat (go_quiet (fail); try go_wp2)
    go_ret
    exact ⟨by first | rfl | (simp [errW_none, errW_some] <;> rfl) | (simp [*, errW_none, errW_some] <;> rfl), by repeat (first | (with_reducible first | exact HB.out | apply bA | apply bN | apply bD | refine below_set ?_ GE275.out | refine below_set ?_ GE276.out) | exact HB.out)⟩
   ·replace c17 := Bool.eq_false_iff.mpr c17; subst c17
    have H1 : (shackleref04_Same.l0 kj2 0 a0_0 a0_1 l0_2 a1_0 a1_1 l1_2) = some r := by rw [if_neg (show ¬ (false = true) by decide)] at H; exact H
    clear H; have H := H1; clear H1; have H' := aM H; clear H
    go_wp2
    repeat (go_quiet (fail); try go_wp2)
    go_loopg [5] kj2 (fun kq v5 w' => ∃ (x5_2 : Int), v5 = .int .i64 x5_2 ∧ Aside0 (shackleref04_Same.l0 kq x5_2 a0_0 a0_1 l0_2 a1_0 a1_1 l1_2 = some r) ∧ Aside0 (kq ≤ kj2) ∧ Aside0 (w'.heap[gb275]? = some (.cells #[.int .i64 a0_0, .int .u64 a0_1, (.slice A0_2 l0_2.length c0_2)] 27 (0, 0))) ∧ Aside0 (w'.heap[gb276]? = some (.cells #[.int .i64 a1_0, .int .u64 a1_1, (.slice A1_2 l1_2.length c1_2)] 27 (0, 0))) ∧ Aside0 (Below w.heap.size w w'))
    case atStart => exact ⟨(0), (by first | rfl | (simp; done) | (simp [*]; done)), H', ⟨Nat.le_refl _⟩, ⟨by (with_reducible repeat (first | refine kN ?_ _ | refine kD ?_ | refine kA ?_ _)); exact BK275.out⟩, ⟨by (with_reducible repeat (first | refine kN ?_ _ | refine kD ?_ | refine kA ?_ _)); exact BK276.out⟩, ⟨by repeat (first | (with_reducible first | exact HB.out | apply bA | apply bN | apply bD | refine below_set ?_ GE275.out | refine below_set ?_ GE276.out) | exact HB.out)⟩⟩
    case round =>
     clear H'
     try clear c1
     try clear p2
     try clear c6
     try clear c6b0
     try clear c6b1
     try clear c7
     try clear c7b0
     try clear c7b1
     try clear c8
     try clear c11
     try clear c14
     try clear c17
     try clear hcz10_0
     try clear hcz10_1
     try clear hcz10_2
     try clear hcz12_0
     try clear hcz12_1
     try clear hcz12_2
     try clear hcz13_0
     try clear hcz13_1
     try clear hcz13_2
     try clear hcz15_0
     try clear hcz15_1
     try clear hcz15_2
     try clear hcz16_0
     try clear hcz16_1
     try clear hcz16_2
     try clear hcz9_0
     try clear hcz9_1
     try clear hcz9_2
     try clear hfz10_0
     try clear hfz10_1
     try clear hfz10_2
     try clear hfz12_0
     try clear hfz12_1
     try clear hfz12_2
     try clear hfz13_0
     try clear hfz13_1
     try clear hfz13_2
     try clear hfz15_0
     try clear hfz15_1
     try clear hfz15_2
     try clear hfz16_0
     try clear hfz16_1
     try clear hfz16_2
     try clear hfz9_0
     try clear hfz9_1
     try clear hfz9_2
     try clear p2
     obtain ⟨x5_2, rfl, HA, HK2, BK275, BK276, HB⟩ := hrel
     cases gk with
     | zero => exact absurd HA.out (by simp [shackleref04_Same.l0])
     | succ k2 =>
      have H := HA.out; clear HA; simp only [shackleref04_Same.l0] at H
      by_cases c18 : x5_2 < (l0_2.length : Int)
      ·rw [if_pos c18] at H; have c18b0 : decide (x5_2 < (l0_2.length : Int)) = true := decide_eq_true c18; clear c18
       by_cases c19 : 0 ≤ x5_2
       ·rw [if_pos c19] at H; have c19b0 : decide (0 ≤ x5_2) = true := decide_eq_true c19; clear c19
        by_cases c20 : x5_2 < (l1_2.length : Int)
        ·rw [if_pos c20] at H; have c20b0 : decide (x5_2 < (l1_2.length : Int)) = true := decide_eq_true c20; clear c20
         by_cases c21 : (!(((rd_T50 l0_2 x5_2).f0) == ((rd_T50 l1_2 x5_2).f0)) || (!(((rd_T50 l0_2 x5_2).f1) == ((rd_T50 l1_2 x5_2).f1)) || (!(((rd_T50 l0_2 x5_2).f2) == ((rd_T50 l1_2 x5_2).f2)) || (!(((rd_T50 l0_2 x5_2).f3) == ((rd_T50 l1_2 x5_2).f3)) || (!(((rd_T50 l0_2 x5_2).f4) == ((rd_T50 l1_2 x5_2).f4)) || (!(((rd_T50 l0_2 x5_2).f5) == ((rd_T50 l1_2 x5_2).f5)) || (!(((rd_T50 l0_2 x5_2).f6) == ((rd_T50 l1_2 x5_2).f6))))))))) = true
         ·rw [if_pos c21] at H; have c21b0 : (!(((rd_T50 l0_2 x5_2).f0) == ((rd_T50 l1_2 x5_2).f0)) || (!(((rd_T50 l0_2 x5_2).f1) == ((rd_T50 l1_2 x5_2).f1)) || (!(((rd_T50 l0_2 x5_2).f2) == ((rd_T50 l1_2 x5_2).f2)) || (!(((rd_T50 l0_2 x5_2).f3) == ((rd_T50 l1_2 x5_2).f3)) || (!(((rd_T50 l0_2 x5_2).f4) == ((rd_T50 l1_2 x5_2).f4)) || (!(((rd_T50 l0_2 x5_2).f5) == ((rd_T50 l1_2 x5_2).f5)) || (!(((rd_T50 l0_2 x5_2).f6) == ((rd_T50 l1_2 x5_2).f6))))))))) = true := c21; clear c21; obtain rfl := Option.some.inj H; have hnb22 := NB275_276.out; have hnc22 := NB276_275.out; obtain ⟨hcz23_0, hcz23_1, hcz23_2, hfz23_0, hfz23_1, hfz23_2⟩ := bx3 BK275.out; have p277 : 0 ≤ (x5_2 : Int) := of_decide_eq_true (by first | (with_reducible assumption) | assumption); have q277 : x5_2 < (l0_2.length : Int) := of_decide_eq_true (by first | (with_reducible assumption) | assumption); obtain ⟨ad277, e277, hx277_0, hx277_1, hx277_2, hx277_3, hx277_4, hx277_5, hx277_6⟩ := at_T50 HR0_2.out x5_2 p277 q277
          cases e277
          replace hx277_0 := (HB.out.cell (World.block_lt_of_cell? w _ hx277_0)).trans hx277_0; replace hx277_1 := (HB.out.cell (World.block_lt_of_cell? w _ hx277_1)).trans hx277_1; replace hx277_2 := (HB.out.cell (World.block_lt_of_cell? w _ hx277_2)).trans hx277_2; replace hx277_3 := (HB.out.cell (World.block_lt_of_cell? w _ hx277_3)).trans hx277_3; replace hx277_4 := (HB.out.cell (World.block_lt_of_cell? w _ hx277_4)).trans hx277_4; replace hx277_5 := (HB.out.cell (World.block_lt_of_cell? w _ hx277_5)).trans hx277_5; replace hx277_6 := (HB.out.cell (World.block_lt_of_cell? w _ hx277_6)).trans hx277_6; replace p277 := eq_true p277; replace q277 := eq_true q277; obtain ⟨hcz24_0, hcz24_1, hcz24_2, hfz24_0, hfz24_1, hfz24_2⟩ := bx3 BK276.out; have p278 : 0 ≤ (x5_2 : Int) := of_decide_eq_true (by first | (with_reducible assumption) | assumption); have q278 : x5_2 < (l1_2.length : Int) := of_decide_eq_true (by first | (with_reducible assumption) | assumption); obtain ⟨ad278, e278, hx278_0, hx278_1, hx278_2, hx278_3, hx278_4, hx278_5, hx278_6⟩ := at_T50 HR1_2.out x5_2 p278 q278
          cases e278
          replace hx278_0 := (HB.out.cell (World.block_lt_of_cell? w _ hx278_0)).trans hx278_0; replace hx278_1 := (HB.out.cell (World.block_lt_of_cell? w _ hx278_1)).trans hx278_1; replace hx278_2 := (HB.out.cell (World.block_lt_of_cell? w _ hx278_2)).trans hx278_2; replace hx278_3 := (HB.out.cell (World.block_lt_of_cell? w _ hx278_3)).trans hx278_3; replace hx278_4 := (HB.out.cell (World.block_lt_of_cell? w _ hx278_4)).trans hx278_4; replace hx278_5 := (HB.out.cell (World.block_lt_of_cell? w _ hx278_5)).trans hx278_5; replace hx278_6 := (HB.out.cell (World.block_lt_of_cell? w _ hx278_6)).trans hx278_6; replace p278 := eq_true p278; replace q278 := eq_true q278
          go_wp2
          repeat (go_quiet (fail); try go_wp2)
          go_ret
          exact ⟨by first | rfl | (simp [errW_none, errW_some] <;> rfl) | (simp [*, errW_none, errW_some] <;> rfl), by repeat (first | (with_reducible first | exact HB.out | apply bA | apply bN | apply bD | refine below_set ?_ GE275.out | refine below_set ?_ GE276.out) | exact HB.out)⟩
         ·rw [if_neg c21] at H
          have c21b0 : (!(((rd_T50 l0_2 x5_2).f0) == ((rd_T50 l1_2 x5_2).f0)) || (!(((rd_T50 l0_2 x5_2).f1) == ((rd_T50 l1_2 x5_2).f1)) || (!(((rd_T50 l0_2 x5_2).f2) == ((rd_T50 l1_2 x5_2).f2)) || (!(((rd_T50 l0_2 x5_2).f3) == ((rd_T50 l1_2 x5_2).f3)) || (!(((rd_T50 l0_2 x5_2).f4) == ((rd_T50 l1_2 x5_2).f4)) || (!(((rd_T50 l0_2 x5_2).f5) == ((rd_T50 l1_2 x5_2).f5)) || (!(((rd_T50 l0_2 x5_2).f6) == ((rd_T50 l1_2 x5_2).f6))))))))) = false := by simpa using c21
          clear c21; have H' := aM H; clear H; have hnb25 := NB275_276.out; have hnc25 := NB276_275.out; obtain ⟨hcz26_0, hcz26_1, hcz26_2, hfz26_0, hfz26_1, hfz26_2⟩ := bx3 BK275.out; have p277 : 0 ≤ (x5_2 : Int) := of_decide_eq_true (by first | (with_reducible assumption) | assumption); have q277 : x5_2 < (l0_2.length : Int) := of_decide_eq_true (by first | (with_reducible assumption) | assumption); obtain ⟨ad277, e277, hx277_0, hx277_1, hx277_2, hx277_3, hx277_4, hx277_5, hx277_6⟩ := at_T50 HR0_2.out x5_2 p277 q277
          cases e277
          replace hx277_0 := (HB.out.cell (World.block_lt_of_cell? w _ hx277_0)).trans hx277_0; replace hx277_1 := (HB.out.cell (World.block_lt_of_cell? w _ hx277_1)).trans hx277_1; replace hx277_2 := (HB.out.cell (World.block_lt_of_cell? w _ hx277_2)).trans hx277_2; replace hx277_3 := (HB.out.cell (World.block_lt_of_cell? w _ hx277_3)).trans hx277_3; replace hx277_4 := (HB.out.cell (World.block_lt_of_cell? w _ hx277_4)).trans hx277_4; replace hx277_5 := (HB.out.cell (World.block_lt_of_cell? w _ hx277_5)).trans hx277_5; replace hx277_6 := (HB.out.cell (World.block_lt_of_cell? w _ hx277_6)).trans hx277_6; replace p277 := eq_true p277; replace q277 := eq_true q277; obtain ⟨hcz27_0, hcz27_1, hcz27_2, hfz27_0, hfz27_1, hfz27_2⟩ := bx3 BK276.out; have p278 : 0 ≤ (x5_2 : Int) := of_decide_eq_true (by first | (with_reducible assumption) | assumption); have q278 : x5_2 < (l1_2.length : Int) := of_decide_eq_true (by first | (with_reducible assumption) | assumption); obtain ⟨ad278, e278, hx278_0, hx278_1, hx278_2, hx278_3, hx278_4, hx278_5, hx278_6⟩ := at_T50 HR1_2.out x5_2 p278 q278
          cases e278
          replace hx278_0 := (HB.out.cell (World.block_lt_of_cell? w _ hx278_0)).trans hx278_0; replace hx278_1 := (HB.out.cell (World.block_lt_of_cell? w _ hx278_1)).trans hx278_1; replace hx278_2 := (HB.out.cell (World.block_lt_of_cell? w _ hx278_2)).trans hx278_2; replace hx278_3 := (HB.out.cell (World.block_lt_of_cell? w _ hx278_3)).trans hx278_3; replace hx278_4 := (HB.out.cell (World.block_lt_of_cell? w _ hx278_4)).trans hx278_4; replace hx278_5 := (HB.out.cell (World.block_lt_of_cell? w _ hx278_5)).trans hx278_5; replace hx278_6 := (HB.out.cell (World.block_lt_of_cell? w _ hx278_6)).trans hx278_6; replace p278 := eq_true p278; replace q278 := eq_true q278
          go_wp2
          repeat (go_quiet (fail); try go_wp2)
          go_roundg k2
          case measure => have := HJ2.out; have := HK2.out; omega
          case rel => exact ⟨(wrap64 (x5_2 + 1)), (by first | rfl | (simp; done) | (simp [*]; done)), H', ⟨by have := HJ2.out; have := HK2.out; omega⟩, ⟨by (with_reducible repeat (first | refine kN ?_ _ | refine kD ?_ | refine kA ?_ _)); exact BK275.out⟩, ⟨by (with_reducible repeat (first | refine kN ?_ _ | refine kD ?_ | refine kA ?_ _)); exact BK276.out⟩, ⟨by repeat (first | (with_reducible first | exact HB.out | apply bA | apply bN | apply bD | refine below_set ?_ GE275.out | refine below_set ?_ GE276.out) | exact HB.out)⟩⟩
        ·rw [if_neg c20] at H; exact absurd H (by simp)
       ·rw [if_neg c19] at H; exact absurd H (by simp)
      ·rw [if_neg c18] at H; have c18b0 : decide (x5_2 < (l0_2.length : Int)) = false := decide_eq_false c18; clear c18; obtain rfl := Option.some.inj H; have hnb28 := NB275_276.out; have hnc28 := NB276_275.out; obtain ⟨hcz29_0, hcz29_1, hcz29_2, hfz29_0, hfz29_1, hfz29_2⟩ := bx3 BK275.out
       go_wp2
       repeat (go_quiet (fail); try go_wp2)
       go_ret
       exact ⟨by first | rfl | (simp [errW_none, errW_some] <;> rfl) | (simp [*, errW_none, errW_some] <;> rfl), by repeat (first | (with_reducible first | exact HB.out | apply bA | apply bN | apply bD | refine below_set ?_ GE275.out | refine below_set ?_ GE276.out) | exact HB.out)⟩

/-! ### shackleref01_Same: function 12 -/
def shackleref01_Same.l0 : Nat → List Int → List Int → Int → Option (Bool)
 | 0, _, _, _ => none
 | k + 1, x0, x1, x5 => if x5 < (x0.length : Int) then (if 0 ≤ x5 then (if x5 < (x1.length : Int) then (if (rd x0 x5) = (rd x1 x5) then (shackleref01_Same.l0 k x0 x1 (wrap64 (x5 + 1))) else (some false)) else (none)) else (none)) else (some true)
def shackleref01_Same.f (k : Nat) (l0 : List Int) (l1 : List Int) : Option (Bool) := if (l0.length : Int) = (l1.length : Int) then (shackleref01_Same.l0 k l0 l1 0) else (some false)
theorem shackleref01_Same.mono_l : ∀ k, (∀ y0 y1 y2, LeO (shackleref01_Same.l0 k y0 y1 y2) (shackleref01_Same.l0 (k + 1) y0 y1 y2))
 | 0 => fun _ _ _ r h => by simp [shackleref01_Same.l0] at h
 | k + 1 => by
  have ih0 := shackleref01_Same.mono_l k
  ·intro y0 y1 y2
   unfold shackleref01_Same.l0
   repeat' first
   | (with_reducible exact ih0 _ _ _)
   | (with_reducible exact LeO.refl _)
   | (with_reducible exact LeO.none _)
   | (with_reducible refine LeO.ite ?_ ?_)
   | (with_reducible refine LeO.bind ?_ (fun _ => ?_))
   | exact ih0 _ _ _
   | exact LeO.none _
   | refine LeO.ite ?_ ?_
   | refine LeO.bind ?_ (fun _ => ?_)
theorem shackleref01_Same.mono : ∀ a0 a1 k, LeO (shackleref01_Same.f k a0 a1) (shackleref01_Same.f (k + 1) a0 a1) := by
 intro a0 a1 k; have ih0 := shackleref01_Same.mono_l k
 unfold shackleref01_Same.f
 repeat' first
   | (with_reducible exact ih0 _ _ _)
   | (with_reducible exact LeO.refl _)
   | (with_reducible exact LeO.none _)
   | (with_reducible refine LeO.ite ?_ ?_)
   | (with_reducible refine LeO.bind ?_ (fun _ => ?_))
   | exact ih0 _ _ _
   | exact LeO.none _
   | refine LeO.ite ?_ ?_
   | refine LeO.bind ?_ (fun _ => ?_)
set_option maxHeartbeats 8000000 in
set_option maxRecDepth 100000 in
theorem shackleref01_Same.calls (k : Nat) (A0 : Option Addr) (c0 : Nat) (l0 : List Int) (A1 : Option Addr) (c1 : Nat) (l1 : List Int) (r : Bool) (w : World) (hr0 : Kd.C (Kd.int .u8) w A0 l0.length l0) (hc0 : l0.length ≤ c0) (hr1 : Kd.C (Kd.int .u8) w A1 l1.length l1) (hc1 : l1.length ≤ c1) (h : shackleref01_Same.f k l0 l1 = some r) :
  Calls Tryd.prog 12 #[.slice A0 l0.length c0, .slice A1 l1.length c1] w fun e w' => e = .returned (.bool r) ∧ Drawn0 w w' := by
 have HR0 := aM hr0; have HC0 := aM hc0; clear hr0 hc0; have HR1 := aM hr1; have HC1 := aM hc1; clear hr1 hc1; have H : (if (l0.length : Int) = (l1.length : Int) then (shackleref01_Same.l0 k l0 l1 0) else (some false)) = some r := h; clear h
 by_cases c3 : (l0.length : Int) = (l1.length : Int)
 ·rw [if_pos c3] at H; have c3b0 : ((l0.length : Int) == (l1.length : Int)) = true := beq_iff_eq.mpr c3; have c3b1 : ((l0.length : Int) != (l1.length : Int)) = false := bne_eq_false_iff_eq.mpr c3
  have c3b2 : (l0.length == l1.length) = true := by first | simpa using c3 | (simp at c3 ⊢; omega)
  clear c3; have H' := aM H; clear H
  go_enter Tryd.func12, Tryd.ntmps12
  go_wp2
  repeat (go_quiet (fail); try go_wp2)
  go_loopg [5] k (fun kq v5 w' => ∃ (x5_1 : Int), v5 = .int .i64 x5_1 ∧ Aside0 (shackleref01_Same.l0 kq l0 l1 x5_1 = some r) ∧ Aside0 (kq ≤ k) ∧ Drawn0 w w')
  case atStart => exact ⟨(0), (by first | rfl | (simp; done) | (simp [*]; done)), H', ⟨Nat.le_refl _⟩, by repeat (first | exact Drawn0.refl _ | apply Drawn0.step)⟩
  case round =>
   clear H'
   try clear c1
   try clear p2
   try clear c3
   try clear c3b0
   try clear c3b1
   try clear c3b2
   obtain ⟨x5_1, rfl, HA, HK1, ⟨m1, rfl⟩⟩ := hrel
   cases gk with
   | zero => exact absurd HA.out (by simp [shackleref01_Same.l0])
   | succ k1 =>
    have H := HA.out; clear HA; simp only [shackleref01_Same.l0] at H
    by_cases c4 : x5_1 < (l0.length : Int)
    ·rw [if_pos c4] at H; have c4b0 : decide (x5_1 < (l0.length : Int)) = true := decide_eq_true c4; clear c4
     by_cases c5 : 0 ≤ x5_1
     ·rw [if_pos c5] at H; have c5b0 : decide (0 ≤ x5_1) = true := decide_eq_true c5; clear c5
      by_cases c6 : x5_1 < (l1.length : Int)
      ·rw [if_pos c6] at H; have c6b0 : decide (x5_1 < (l1.length : Int)) = true := decide_eq_true c6; clear c6
       by_cases c7 : (rd l0 x5_1) = (rd l1 x5_1)
       ·rw [if_pos c7] at H; have c7b0 : ((rd l0 x5_1) == (rd l1 x5_1)) = true := beq_iff_eq.mpr c7; have c7b1 : ((rd l0 x5_1) != (rd l1 x5_1)) = false := bne_eq_false_iff_eq.mpr c7; clear c7; have H' := aM H; clear H; have p279 : 0 ≤ (x5_1 : Int) := of_decide_eq_true (by first | (with_reducible assumption) | assumption); have q279 : x5_1 < (l0.length : Int) := of_decide_eq_true (by first | (with_reducible assumption) | assumption); obtain ⟨ad279, e279, hx279_0⟩ := Kd.at_int HR0.out x5_1 p279 q279
        cases e279
        replace p279 := eq_true p279; replace q279 := eq_true q279; have p280 : 0 ≤ (x5_1 : Int) := of_decide_eq_true (by first | (with_reducible assumption) | assumption); have q280 : x5_1 < (l1.length : Int) := of_decide_eq_true (by first | (with_reducible assumption) | assumption); obtain ⟨ad280, e280, hx280_0⟩ := Kd.at_int HR1.out x5_1 p280 q280
        cases e280
        replace p280 := eq_true p280; replace q280 := eq_true q280
        go_wp2
        repeat (go_quiet (fail); try go_wp2)
        go_roundg k1
        case measure => have := HK1.out; omega
        case rel => exact ⟨(wrap64 (x5_1 + 1)), (by first | rfl | (simp; done) | (simp [*]; done)), H', ⟨by have := HK1.out; omega⟩, by repeat (first | exact Drawn0.refl _ | apply Drawn0.step)⟩
       ·rw [if_neg c7] at H; have c7b0 : ((rd l0 x5_1) == (rd l1 x5_1)) = false := beq_eq_false_iff_ne.mpr c7; have c7b1 : ((rd l0 x5_1) != (rd l1 x5_1)) = true := bne_iff_ne.mpr c7; obtain rfl := Option.some.inj H; have p279 : 0 ≤ (x5_1 : Int) := of_decide_eq_true (by first | (with_reducible assumption) | assumption); have q279 : x5_1 < (l0.length : Int) := of_decide_eq_true (by first | (with_reducible assumption) | assumption); obtain ⟨ad279, e279, hx279_0⟩ := Kd.at_int HR0.out x5_1 p279 q279
        cases e279
        replace p279 := eq_true p279; replace q279 := eq_true q279; have p280 : 0 ≤ (x5_1 : Int) := of_decide_eq_true (by first | (with_reducible assumption) | assumption); have q280 : x5_1 < (l1.length : Int) := of_decide_eq_true (by first | (with_reducible assumption) | assumption); obtain ⟨ad280, e280, hx280_0⟩ := Kd.at_int HR1.out x5_1 p280 q280
        cases e280
        replace p280 := eq_true p280; replace q280 := eq_true q280
        go_wp2
        repeat (go_quiet (fail); try go_wp2)
        go_ret
        exact ⟨by first | rfl | (simp; done) | (simp [*]; done), by repeat (first | exact Drawn0.refl _ | apply Drawn0.step)⟩
      ·rw [if_neg c6] at H; exact absurd H (by simp)
     ·rw [if_neg c5] at H; exact absurd H (by simp)
    ·rw [if_neg c4] at H; have c4b0 : decide (x5_1 < (l0.length : Int)) = false := decide_eq_false c4; clear c4; obtain rfl := Option.some.inj H
     go_wp2
     repeat (go_quiet (fail); try go_wp2)
     go_ret
     exact ⟨by first | rfl | (simp; done) | (simp [*]; done), by repeat (first | exact Drawn0.refl _ | apply Drawn0.step)⟩
 ·rw [if_neg c3] at H; have c3b0 : ((l0.length : Int) == (l1.length : Int)) = false := beq_eq_false_iff_ne.mpr c3; have c3b1 : ((l0.length : Int) != (l1.length : Int)) = true := bne_iff_ne.mpr c3
  have c3b2 : (l0.length == l1.length) = false := by first | simpa using c3 | (simp at c3 ⊢; omega)
  obtain rfl := Option.some.inj H
  go_enter Tryd.func12, Tryd.ntmps12
  go_wp2
  repeat (go_quiet (fail); try go_wp2)
  go_ret
  exact ⟨by first | rfl | (simp; done) | (simp [*]; done), by repeat (first | exact Drawn0.refl _ | apply Drawn0.step)⟩

/-! ### shacklelaw00_further: function 61 -/
def shacklelaw00_further.f (a0 : Option Int) : Option (Int) := if a0.isNone = true then (some (-1)) else (if (a0.getD 0) < 0 then (some (-1)) else (if (a0.getD 0) = 16 then (some 16) else (if (a0.getD 0) = 17 then (some 17) else (if (a0.getD 0) = 18 then (some 18) else (if (a0.getD 0) = 19 then (some 19) else (if (a0.getD 0) = 20 then (some 20) else (if (a0.getD 0) = 21 then (some 21) else (if (a0.getD 0) = 22 then (some 22) else (if (a0.getD 0) = 23 then (some 23) else (if (a0.getD 0) = 24 then (some 24) else (if (a0.getD 0) = 25 then (some 25) else (if (a0.getD 0) = 26 then (some 26) else (if (a0.getD 0) = 27 then (some 27) else (if (a0.getD 0) = 28 then (some 28) else (if (a0.getD 0) = 29 then (some 29) else (if (a0.getD 0) = 30 then (some 30) else (some (-1))))))))))))))))))
set_option maxHeartbeats 8000000 in
set_option maxRecDepth 100000 in
theorem shacklelaw00_further.calls (e0 : Value) (a0 : Option Int) (r : Int) (w : World) (he0 : ErrAt 32 103 105 w 0 a0 e0) (h : shacklelaw00_further.f a0 = some r) :
  Calls Tryd.prog 61 #[e0] w fun e w' => e = .returned (.int .i64 r) ∧ Drawn0 w w' := by
 have hu29 := Tryd.underlying29; have hu32 := Tryd.underlying32
 have hcm32 : (Tryd.prog.info? 32).map (fun i => i.comparable) = some true := by kernel_rfl
 have EA281 := aM he0; have H : (if a0.isNone = true then (some (-1)) else (if (a0.getD 0) < 0 then (some (-1)) else (if (a0.getD 0) = 16 then (some 16) else (if (a0.getD 0) = 17 then (some 17) else (if (a0.getD 0) = 18 then (some 18) else (if (a0.getD 0) = 19 then (some 19) else (if (a0.getD 0) = 20 then (some 20) else (if (a0.getD 0) = 21 then (some 21) else (if (a0.getD 0) = 22 then (some 22) else (if (a0.getD 0) = 23 then (some 23) else (if (a0.getD 0) = 24 then (some 24) else (if (a0.getD 0) = 25 then (some 25) else (if (a0.getD 0) = 26 then (some 26) else (if (a0.getD 0) = 27 then (some 27) else (if (a0.getD 0) = 28 then (some 28) else (if (a0.getD 0) = 29 then (some 29) else (if (a0.getD 0) = 30 then (some 30) else (some (-1))))))))))))))))))) = some r := h; clear h
 rcases a0 with _ | q283
 ·have H1 : (some (-1)) = some r := by rw [if_pos (show (none : Option Int).isNone = true by rfl)] at H; exact H
  clear H; have H := H1; clear H1; obtain rfl := ErrAt.none_eq he0; obtain rfl := Option.some.inj H
  go_enter Tryd.func61, Tryd.ntmps61
  go_wp2
  go_ret
  exact ⟨by first | rfl | (simp; done) | (simp [*]; done), by repeat (first | exact Drawn0.refl _ | apply Drawn0.step)⟩
 ·have H1 : (if q283 < 0 then (some (-1)) else (if q283 = 16 then (some 16) else (if q283 = 17 then (some 17) else (if q283 = 18 then (some 18) else (if q283 = 19 then (some 19) else (if q283 = 20 then (some 20) else (if q283 = 21 then (some 21) else (if q283 = 22 then (some 22) else (if q283 = 23 then (some 23) else (if q283 = 24 then (some 24) else (if q283 = 25 then (some 25) else (if q283 = 26 then (some 26) else (if q283 = 27 then (some 27) else (if q283 = 28 then (some 28) else (if q283 = 29 then (some 29) else (if q283 = 30 then (some 30) else (some (-1)))))))))))))))))) = some r := by rw [if_neg (show ¬ (some q283).isNone = true by simp)] at H; exact H
  clear H; have H := H1; clear H1
  skip
  by_cases c2 : q283 < 0
  ·rw [if_pos c2] at H; have SQq283 := aM c2; clear c2; obtain ⟨gb281, rfl, _, hbx_⟩ := ErrAt.spot_eq he0 SQq283.out; have BK281 := aM hbx_; clear hbx_; obtain rfl := Option.some.inj H
   go_enter Tryd.func61, Tryd.ntmps61
   go_wp2
   go_ret
   exact ⟨by first | rfl | (simp; done) | (simp [*]; done), by repeat (first | exact Drawn0.refl _ | apply Drawn0.step)⟩
  ·rw [if_neg c2] at H; have SQq283 := aM c2; have c2b1 : decide (0 ≤ q283) = true := decide_eq_true (Int.not_lt.1 c2); clear c2; obtain rfl := ErrAt.code_eq he0 SQq283.out
   by_cases c3 : q283 = 16
   ·rw [if_pos c3] at H; have c3b0 : (q283 == 16) = true := beq_iff_eq.mpr c3; have c3b1 : (q283 != 16) = false := bne_eq_false_iff_eq.mpr c3; clear c3; obtain rfl := Option.some.inj H
    go_enter Tryd.func61, Tryd.ntmps61
    go_wp2
    go_ret
    exact ⟨by first | rfl | (simp; done) | (simp [*]; done), by repeat (first | exact Drawn0.refl _ | apply Drawn0.step)⟩
   ·rw [if_neg c3] at H; have c3b0 : (q283 == 16) = false := beq_eq_false_iff_ne.mpr c3; have c3b1 : (q283 != 16) = true := bne_iff_ne.mpr c3
    by_cases c4 : q283 = 17
    ·rw [if_pos c4] at H; have c4b0 : (q283 == 17) = true := beq_iff_eq.mpr c4; have c4b1 : (q283 != 17) = false := bne_eq_false_iff_eq.mpr c4; clear c4; obtain rfl := Option.some.inj H
     go_enter Tryd.func61, Tryd.ntmps61
     go_wp2
     go_ret
     exact ⟨by first | rfl | (simp; done) | (simp [*]; done), by repeat (first | exact Drawn0.refl _ | apply Drawn0.step)⟩
    ·rw [if_neg c4] at H; have c4b0 : (q283 == 17) = false := beq_eq_false_iff_ne.mpr c4; have c4b1 : (q283 != 17) = true := bne_iff_ne.mpr c4
     by_cases c5 : q283 = 18
     ·rw [if_pos c5] at H; have c5b0 : (q283 == 18) = true := beq_iff_eq.mpr c5; have c5b1 : (q283 != 18) = false := bne_eq_false_iff_eq.mpr c5; clear c5; obtain rfl := Option.some.inj H
      go_enter Tryd.func61, Tryd.ntmps61
      go_wp2
      go_ret
      exact ⟨by first | rfl | (simp; done) | (simp [*]; done), by repeat (first | exact Drawn0.refl _ | apply Drawn0.step)⟩
     ·rw [if_neg c5] at H; have c5b0 : (q283 == 18) = false := beq_eq_false_iff_ne.mpr c5; have c5b1 : (q283 != 18) = true := bne_iff_ne.mpr c5
      by_cases c6 : q283 = 19
      ·rw [if_pos c6] at H; have c6b0 : (q283 == 19) = true := beq_iff_eq.mpr c6; have c6b1 : (q283 != 19) = false := bne_eq_false_iff_eq.mpr c6; clear c6; obtain rfl := Option.some.inj H
       go_enter Tryd.func61, Tryd.ntmps61
       go_wp2
       go_ret
       exact ⟨by first | rfl | (simp; done) | (simp [*]; done), by repeat (first | exact Drawn0.refl _ | apply Drawn0.step)⟩
      ·rw [if_neg c6] at H; have c6b0 : (q283 == 19) = false := beq_eq_false_iff_ne.mpr c6; have c6b1 : (q283 != 19) = true := bne_iff_ne.mpr c6
       by_cases c7 : q283 = 20
       ·rw [if_pos c7] at H; have c7b0 : (q283 == 20) = true := beq_iff_eq.mpr c7; have c7b1 : (q283 != 20) = false := bne_eq_false_iff_eq.mpr c7; clear c7; obtain rfl := Option.some.inj H
        go_enter Tryd.func61, Tryd.ntmps61
        go_wp2
        go_ret
        exact ⟨by first | rfl | (simp; done) | (simp [*]; done), by repeat (first | exact Drawn0.refl _ | apply Drawn0.step)⟩
       ·rw [if_neg c7] at H; have c7b0 : (q283 == 20) = false := beq_eq_false_iff_ne.mpr c7; have c7b1 : (q283 != 20) = true := bne_iff_ne.mpr c7
        by_cases c8 : q283 = 21
        ·rw [if_pos c8] at H; have c8b0 : (q283 == 21) = true := beq_iff_eq.mpr c8; have c8b1 : (q283 != 21) = false := bne_eq_false_iff_eq.mpr c8; clear c8; obtain rfl := Option.some.inj H
         go_enter Tryd.func61, Tryd.ntmps61
         go_wp2
         go_ret
         exact ⟨by first | rfl | (simp; done) | (simp [*]; done), by repeat (first | exact Drawn0.refl _ | apply Drawn0.step)⟩
        ·rw [if_neg c8] at H; have c8b0 : (q283 == 21) = false := beq_eq_false_iff_ne.mpr c8; have c8b1 : (q283 != 21) = true := bne_iff_ne.mpr c8
         by_cases c9 : q283 = 22
         ·rw [if_pos c9] at H; have c9b0 : (q283 == 22) = true := beq_iff_eq.mpr c9; have c9b1 : (q283 != 22) = false := bne_eq_false_iff_eq.mpr c9; clear c9; obtain rfl := Option.some.inj H
          go_enter Tryd.func61, Tryd.ntmps61
          go_wp2
          go_ret
          exact ⟨by first | rfl | (simp; done) | (simp [*]; done), by repeat (first | exact Drawn0.refl _ | apply Drawn0.step)⟩
         ·rw [if_neg c9] at H; have c9b0 : (q283 == 22) = false := beq_eq_false_iff_ne.mpr c9; have c9b1 : (q283 != 22) = true := bne_iff_ne.mpr c9
          by_cases c10 : q283 = 23
          ·rw [if_pos c10] at H; have c10b0 : (q283 == 23) = true := beq_iff_eq.mpr c10; have c10b1 : (q283 != 23) = false := bne_eq_false_iff_eq.mpr c10; clear c10; obtain rfl := Option.some.inj H
           go_enter Tryd.func61, Tryd.ntmps61
           go_wp2
           go_ret
           exact ⟨by first | rfl | (simp; done) | (simp [*]; done), by repeat (first | exact Drawn0.refl _ | apply Drawn0.step)⟩
          ·rw [if_neg c10] at H; have c10b0 : (q283 == 23) = false := beq_eq_false_iff_ne.mpr c10; have c10b1 : (q283 != 23) = true := bne_iff_ne.mpr c10
           by_cases c11 : q283 = 24
           ·rw [if_pos c11] at H; have c11b0 : (q283 == 24) = true := beq_iff_eq.mpr c11; have c11b1 : (q283 != 24) = false := bne_eq_false_iff_eq.mpr c11; clear c11; obtain rfl := Option.some.inj H
            go_enter Tryd.func61, Tryd.ntmps61
            go_wp2
            go_ret
            exact ⟨by first | rfl | (simp; done) | (simp [*]; done), by repeat (first | exact Drawn0.refl _ | apply Drawn0.step)⟩
           ·rw [if_neg c11] at H; have c11b0 : (q283 == 24) = false := beq_eq_false_iff_ne.mpr c11; have c11b1 : (q283 != 24) = true := bne_iff_ne.mpr c11
            by_cases c12 : q283 = 25
            ·rw [if_pos c12] at H; have c12b0 : (q283 == 25) = true := beq_iff_eq.mpr c12; have c12b1 : (q283 != 25) = false := bne_eq_false_iff_eq.mpr c12; clear c12; obtain rfl := Option.some.inj H
             go_enter Tryd.func61, Tryd.ntmps61
             go_wp2
             go_ret
             exact ⟨by first | rfl | (simp; done) | (simp [*]; done), by repeat (first | exact Drawn0.refl _ | apply Drawn0.step)⟩
            ·rw [if_neg c12] at H; have c12b0 : (q283 == 25) = false := beq_eq_false_iff_ne.mpr c12; have c12b1 : (q283 != 25) = true := bne_iff_ne.mpr c12
             by_cases c13 : q283 = 26
             ·rw [if_pos c13] at H; have c13b0 : (q283 == 26) = true := beq_iff_eq.mpr c13; have c13b1 : (q283 != 26) = false := bne_eq_false_iff_eq.mpr c13; clear c13; obtain rfl := Option.some.inj H
              go_enter Tryd.func61, Tryd.ntmps61
              go_wp2
              go_ret
              exact ⟨by first | rfl | (simp; done) | (simp [*]; done), by repeat (first | exact Drawn0.refl _ | apply Drawn0.step)⟩
             ·rw [if_neg c13] at H; have c13b0 : (q283 == 26) = false := beq_eq_false_iff_ne.mpr c13; have c13b1 : (q283 != 26) = true := bne_iff_ne.mpr c13
              by_cases c14 : q283 = 27
              ·rw [if_pos c14] at H; have c14b0 : (q283 == 27) = true := beq_iff_eq.mpr c14; have c14b1 : (q283 != 27) = false := bne_eq_false_iff_eq.mpr c14; clear c14; obtain rfl := Option.some.inj H
               go_enter Tryd.func61, Tryd.ntmps61
               go_wp2
               go_ret
               exact ⟨by first | rfl | (simp; done) | (simp [*]; done), by repeat (first | exact Drawn0.refl _ | apply Drawn0.step)⟩
              ·rw [if_neg c14] at H; have c14b0 : (q283 == 27) = false := beq_eq_false_iff_ne.mpr c14; have c14b1 : (q283 != 27) = true := bne_iff_ne.mpr c14
               by_cases c15 : q283 = 28
               ·rw [if_pos c15] at H; have c15b0 : (q283 == 28) = true := beq_iff_eq.mpr c15; have c15b1 : (q283 != 28) = false := bne_eq_false_iff_eq.mpr c15; clear c15; obtain rfl := Option.some.inj H
                go_enter Tryd.func61, Tryd.ntmps61
                go_wp2
                go_ret
                exact ⟨by first | rfl | (simp; done) | (simp [*]; done), by repeat (first | exact Drawn0.refl _ | apply Drawn0.step)⟩
               ·rw [if_neg c15] at H; have c15b0 : (q283 == 28) = false := beq_eq_false_iff_ne.mpr c15; have c15b1 : (q283 != 28) = true := bne_iff_ne.mpr c15
                by_cases c16 : q283 = 29
                ·rw [if_pos c16] at H; have c16b0 : (q283 == 29) = true := beq_iff_eq.mpr c16; have c16b1 : (q283 != 29) = false := bne_eq_false_iff_eq.mpr c16; clear c16; obtain rfl := Option.some.inj H
                 go_enter Tryd.func61, Tryd.ntmps61
                 go_wp2
                 go_ret
                 exact ⟨by first | rfl | (simp; done) | (simp [*]; done), by repeat (first | exact Drawn0.refl _ | apply Drawn0.step)⟩
                ·rw [if_neg c16] at H; have c16b0 : (q283 == 29) = false := beq_eq_false_iff_ne.mpr c16; have c16b1 : (q283 != 29) = true := bne_iff_ne.mpr c16
                 by_cases c17 : q283 = 30
                 ·rw [if_pos c17] at H; have c17b0 : (q283 == 30) = true := beq_iff_eq.mpr c17; have c17b1 : (q283 != 30) = false := bne_eq_false_iff_eq.mpr c17; clear c17; obtain rfl := Option.some.inj H
                  go_enter Tryd.func61, Tryd.ntmps61
                  go_wp2
                  go_ret
                  exact ⟨by first | rfl | (simp; done) | (simp [*]; done), by repeat (first | exact Drawn0.refl _ | apply Drawn0.step)⟩
                 ·rw [if_neg c17] at H; have c17b0 : (q283 == 30) = false := beq_eq_false_iff_ne.mpr c17; have c17b1 : (q283 != 30) = true := bne_iff_ne.mpr c17; obtain rfl := Option.some.inj H
                  go_enter Tryd.func61, Tryd.ntmps61
                  go_wp2
                  go_ret
                  exact ⟨by first | rfl | (simp; done) | (simp [*]; done), by repeat (first | exact Drawn0.refl _ | apply Drawn0.step)⟩

end Go.Proofs.YtjohdgejjnbddaaDoor.PHeadReads
