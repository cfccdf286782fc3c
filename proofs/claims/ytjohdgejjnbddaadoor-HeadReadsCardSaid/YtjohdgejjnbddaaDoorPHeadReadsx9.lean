/- Printed by this session's own program (wip/tools: a turn of the kit's print) out of the translation: each Go function that the law reaches as a Lean function, and that the machine's call comes to what that function tells; no condition but what each theorem names. -/
import Derived.Test.YtjohdgejjnbddaaDoorPHeadReadsx0
import Derived.Test.YtjohdgejjnbddaaDoorPHeadReadsx8
namespace Go.Proofs.YtjohdgejjnbddaaDoor.PHeadReads
open Go.RowKit Go.Proofs.YtjohdgejjnbddaaDoorW.PrintWords Go.Proofs.YtjohdgejjnbddaaDoorW.PrintLast Go.Proofs.YtjohdgejjnbddaaDoorW.PrintMore Go.Proofs.YtjohdgejjnbddaaDoorX
attribute [local go_sem] max2_int min2_int max_two min_two max_three min_three max_four min_four   -- for this text's walks alone
set_option linter.unusedVariables false
set_option linter.unusedSimpArgs false

/-! ### shackleref04_begins: function 28 -/
mutual
def shackleref04_begins.l0 : Nat → List Int → List (S128) → Int → Option (Int × Bool × Int)
 | 0, _, _, _ => none
 | k + 1, x0, x3, x4 => if x4 < (x3.length : Int) then (if 0 ≤ x4 then (if ((rd_T128 x3 x4).f0) = 18 then ((shackleref04_num.f k x0 7 1).bind fun t172 => ((shackleref04_num.f k x0 16 2).bind fun t173 => (if t172 = 0 then (shackleref04_begins.j1 k x0 x3 x4 t173 false) else (shackleref04_begins.j1 k x0 x3 x4 t173 (t172 != 3))))) else (shackleref04_begins.j2 k x0 x3 x4)) else (none)) else (some (0, false, 0))
def shackleref04_begins.j2 : Nat → List Int → List (S128) → Int → Option (Int × Bool × Int)
 | 0, _, _, _ => none
 | k + 1, x0, x3, x4 => if 0 ≤ x4 then (if x4 < (x3.length : Int) then ((shackleref04_num.f k x0 ((rd_T128 x3 x4).f0) ((rd_T128 x3 x4).f1)).bind fun t182 => (if t182 = ((rd_T128 x3 x4).f2) then (shackleref04_begins.l0 k x0 x3 (wrap64 (x4 + 1))) else ((shackleref04_at.f 3 ((rd_T128 x3 x4).f0)).bind fun bt185 => (some (bt185.1, bt185.2.1, bt185.2.2))))) else (none)) else (none)
def shackleref04_begins.j1 : Nat → List Int → List (S128) → Int → Int → Bool → Option (Int × Bool × Int)
 | 0, _, _, _, _, _ => none
 | k + 1, x0, x3, x4, x6, x36 => if x36 = true then ((shackleref04_at.f 3 7).bind fun bt174 => (some (bt174.1, bt174.2.1, bt174.2.2))) else (if x6 = 2 then (shackleref04_begins.j2 k x0 x3 x4) else (if x6 = 3 then (shackleref04_begins.j2 k x0 x3 x4) else ((shackleref04_at.f 3 16).bind fun bt177 => (some (bt177.1, bt177.2.1, bt177.2.2)))))
end
def shackleref04_begins.f (k : Nat) (l0 : List Int) : Option (Int × Bool × Int) := if (l0.length : Int) < 64 then ((shackleref04_at.f 4 (IntKind.u64.wrap ((l0.length : Int)))).bind fun bt165 => (some (bt165.1, bt165.2.1, bt165.2.2))) else ((shackleref04_fixed.f).bind fun t168 => (shackleref04_begins.l0 k l0 t168 0))
theorem shackleref04_begins.mono_l : ∀ k, (∀ y0 y1 y2, LeO (shackleref04_begins.l0 k y0 y1 y2) (shackleref04_begins.l0 (k + 1) y0 y1 y2)) ∧ (∀ y0 y1 y2, LeO (shackleref04_begins.j2 k y0 y1 y2) (shackleref04_begins.j2 (k + 1) y0 y1 y2)) ∧ (∀ y0 y1 y2 y3 y4, LeO (shackleref04_begins.j1 k y0 y1 y2 y3 y4) (shackleref04_begins.j1 (k + 1) y0 y1 y2 y3 y4))
 | 0 => ⟨fun _ _ _ r h => by simp [shackleref04_begins.l0] at h, fun _ _ _ r h => by simp [shackleref04_begins.j2] at h, fun _ _ _ _ _ r h => by simp [shackleref04_begins.j1] at h⟩
 | k + 1 => by
  obtain ⟨ih0, ih1, ih2⟩ := shackleref04_begins.mono_l k; refine ⟨?_, ?_, ?_⟩
  ·intro y0 y1 y2
   unfold shackleref04_begins.l0
   repeat' first
   | (with_reducible exact ih0 _ _ _)
   | (with_reducible exact ih1 _ _ _)
   | (with_reducible exact ih2 _ _ _ _ _)
   | (with_reducible exact shackleref04_num.mono _ _ _ _)
   | (with_reducible exact LeO.refl _)
   | (with_reducible exact LeO.none _)
   | (with_reducible refine LeO.ite ?_ ?_)
   | (with_reducible refine LeO.bind ?_ (fun _ => ?_))
   | exact ih0 _ _ _
   | exact ih1 _ _ _
   | exact ih2 _ _ _ _ _
   | exact shackleref04_num.mono _ _ _ _
   | exact LeO.none _
   | refine LeO.ite ?_ ?_
   | refine LeO.bind ?_ (fun _ => ?_)
  ·intro y0 y1 y2
   unfold shackleref04_begins.j2
   repeat' first
   | (with_reducible exact ih0 _ _ _)
   | (with_reducible exact ih1 _ _ _)
   | (with_reducible exact ih2 _ _ _ _ _)
   | (with_reducible exact shackleref04_num.mono _ _ _ _)
   | (with_reducible exact LeO.refl _)
   | (with_reducible exact LeO.none _)
   | (with_reducible refine LeO.ite ?_ ?_)
   | (with_reducible refine LeO.bind ?_ (fun _ => ?_))
   | exact ih0 _ _ _
   | exact ih1 _ _ _
   | exact ih2 _ _ _ _ _
   | exact shackleref04_num.mono _ _ _ _
   | exact LeO.none _
   | refine LeO.ite ?_ ?_
   | refine LeO.bind ?_ (fun _ => ?_)
  ·intro y0 y1 y2 y3 y4
   unfold shackleref04_begins.j1
   repeat' first
   | (with_reducible exact ih0 _ _ _)
   | (with_reducible exact ih1 _ _ _)
   | (with_reducible exact ih2 _ _ _ _ _)
   | (with_reducible exact shackleref04_num.mono _ _ _ _)
   | (with_reducible exact LeO.refl _)
   | (with_reducible exact LeO.none _)
   | (with_reducible refine LeO.ite ?_ ?_)
   | (with_reducible refine LeO.bind ?_ (fun _ => ?_))
   | exact ih0 _ _ _
   | exact ih1 _ _ _
   | exact ih2 _ _ _ _ _
   | exact shackleref04_num.mono _ _ _ _
   | exact LeO.none _
   | refine LeO.ite ?_ ?_
   | refine LeO.bind ?_ (fun _ => ?_)
theorem shackleref04_begins.mono : ∀ a0 k, LeO (shackleref04_begins.f k a0) (shackleref04_begins.f (k + 1) a0) := by
 intro a0 k; obtain ⟨ih0, ih1, ih2⟩ := shackleref04_begins.mono_l k
 unfold shackleref04_begins.f
 repeat' first
   | (with_reducible exact ih0 _ _ _)
   | (with_reducible exact ih1 _ _ _)
   | (with_reducible exact ih2 _ _ _ _ _)
   | (with_reducible exact shackleref04_num.mono _ _ _ _)
   | (with_reducible exact LeO.refl _)
   | (with_reducible exact LeO.none _)
   | (with_reducible refine LeO.ite ?_ ?_)
   | (with_reducible refine LeO.bind ?_ (fun _ => ?_))
   | exact ih0 _ _ _
   | exact ih1 _ _ _
   | exact ih2 _ _ _ _ _
   | exact shackleref04_num.mono _ _ _ _
   | exact LeO.none _
   | refine LeO.ite ?_ ?_
   | refine LeO.bind ?_ (fun _ => ?_)
def shackleref04_begins.T14 : Bool × List (List Nat × List Nat) := (true, [([], []), ([], []), ([], []), ([1, 2], [1, 2]), ([3], [3]), ([4], [4]), ([], []), ([], []), ([6, 7], [6, 7]), ([8], [8]), ([9], [9]), ([0, 5, 10], [0, 5, 10]), ([], []), ([], []), ([12, 13], [12, 13]), ([14], [14]), ([15], [15]), ([11, 16], [11, 16])])
def shackleref04_begins.B14 : List Nat := [0, 0, 0, 6, 14, 30, 0, 0, 192, 448, 960, 2047, 0, 0, 12288, 28672, 61440, 131071]
theorem shackleref04_begins.tab14 : rtab .any (opsOf Tryd.f28 14) = shackleref04_begins.T14 := by kernel_rfl
theorem shackleref04_begins.bits14 : waitsOk shackleref04_begins.T14.2 shackleref04_begins.B14 = true := by kernel_rfl
set_option maxHeartbeats 8000000 in
set_option maxRecDepth 100000 in
theorem shackleref04_begins.calls (k : Nat) (A0 : Option Addr) (c0 : Nat) (l0 : List Int) (r1 : Int) (r2 : Bool) (r3 : Int) (w : World) (hr0 : Kd.C (Kd.int .u8) w A0 l0.length l0) (hc0 : l0.length ≤ c0) (h : shackleref04_begins.f k l0 = some (r1, r2, r3)) :
  Calls Tryd.prog 28 #[.slice A0 l0.length c0] w fun e w' => e = .returned (.agg #[.int .i64 r1, .bool r2, .int .u64 r3]) ∧ Below w.heap.size w w' := by
 have hu34 := Tryd.underlying34; have HR0 := aM hr0; have HC0 := aM hc0; clear hr0 hc0; have HB := aM (Below.refl w.heap.size w); have H : (if (l0.length : Int) < 64 then ((shackleref04_at.f 4 (IntKind.u64.wrap ((l0.length : Int)))).bind fun bt165 => (some (bt165.1, bt165.2.1, bt165.2.2))) else ((shackleref04_fixed.f).bind fun t168 => (shackleref04_begins.l0 k l0 t168 0))) = some (r1, r2, r3) := h; clear h
 by_cases c2 : (l0.length : Int) < 64
 ·rw [if_pos c2] at H; have c2b0 : decide ((l0.length : Int) < 64) = true := decide_eq_true c2; have c2b1 : decide (l0.length < 64) = true := decide_eq_true (by omega); clear c2; replace H := Option.bind_eq_some_iff.mp H; obtain ⟨⟨t165, t166, t167⟩, A30, H⟩ := H; replace H : (some (t165, t166, t167)) = some (r1, r2, r3) := H; have A3 := aM A30; clear A30; simp only [Option.some.injEq, Prod.mk.injEq] at H; obtain ⟨rfl, rfl, rfl⟩ := H
  go_enter Tryd.func28, Tryd.ntmps28
  go_wp2_with (first | ((with_reducible refine gate_dst (N := 2) rfl ?_); refine box_event ?hg (N := 2) ?hd (cs := #[.int .i64 0, .bool false, .int .u64 0]) (t := 34) ?hr ?_; (case hd => rfl); (case hg => rfl); (case hr => first | (go_simp; done) | (go_simp; rfl)); intro gb164 hg w4 hbox hb; have BK164 := aM (hbox); have GW164 := aM ((by rw [hg]; exact (below_size (by repeat (first | (with_reducible first | exact HB.out | apply bA | apply bN | apply bD) | exact HB.out))) : w.heap.size ≤ gb164)); have GE164 := aM ((by rw [hg]; exact (below_size (by repeat (first | (with_reducible first | exact HB.out | apply bA | apply bN | apply bD) | exact HB.out))) : w.heap.size ≤ gb164)); replace HB := aM (below_step (by repeat (first | (with_reducible first | exact HB.out | apply bA | apply bN | apply bD) | exact HB.out)) hb); clear hb hbox hg) | ((with_reducible refine gate_callee (f := 30) rfl ?_); refine goesL_ (some 13) rfl rfl Tryd.func30 (by kernel_rfl) rfl #[.int .i64 4, .int .u64 (IntKind.u64.wrap ((l0.length : Int)))] rfl (by (try simp only [List.map_toArray, List.map_cons, List.map_nil]); first | done | rfl | (simp only [List.length_drop, List.length_take]; rfl)) ?_; (with_reducible refine (shackleref04_at.calls 4 (IntKind.u64.wrap ((l0.length : Int))) t165 t166 t167 _ A3.out).mono ?_); rintro e w5 ⟨rfl, hb⟩; refine ⟨_, rfl, ?_⟩; replace BK164 := aM (blk_below (by (with_reducible repeat (first | refine kN ?_ _ | refine kD ?_ | refine kA ?_ _)); exact BK164.out) hb); replace HB := aM (below_step (by repeat (first | (with_reducible first | exact HB.out | apply bA | apply bN | apply bD | refine below_set ?_ GE164.out) | exact HB.out)) hb); (try clear hb); (try clear hb2); (try clear hk); (try clear hi); obtain ⟨hcz6_0, hcz6_1, hcz6_2, hfz6_0, hfz6_1, hfz6_2⟩ := bx3 BK164.out))
  refine bodyPost_ret (results_cell_row rfl _ _ gb164 34 #[.int .i64 t165, .bool t166, .int .u64 t167] (0, 0) _ rfl (by (with_reducible repeat (first | refine kN ?_ _ | refine kD ?_ | refine kA ?_ _)); refine blk_put (cs := #[.int .i64 t165, .bool t166, .int .u64 0]) ?_ 2 _ rfl; (with_reducible repeat (first | refine kN ?_ _ | refine kD ?_ | refine kA ?_ _)); refine blk_put (cs := #[.int .i64 t165, .bool false, .int .u64 0]) ?_ 1 _ rfl; (with_reducible repeat (first | refine kN ?_ _ | refine kD ?_ | refine kA ?_ _)); refine blk_put (cs := #[.int .i64 0, .bool false, .int .u64 0]) ?_ 0 _ rfl; (with_reducible repeat (first | refine kN ?_ _ | refine kD ?_ | refine kA ?_ _)); exact BK164.out) Tryd.underlying34 rfl (by kernel_rfl)) rfl ?_; exact ⟨by first | rfl | (simp [errW_none, errW_some] <;> rfl) | (simp [*, errW_none, errW_some] <;> rfl), by repeat (first | (with_reducible first | exact HB.out | apply bA | apply bN | apply bD | refine below_set ?_ GE164.out) | exact HB.out)⟩
 ·rw [if_neg c2] at H; have c2b0 : decide ((l0.length : Int) < 64) = false := decide_eq_false c2; have c2b1 : decide (l0.length < 64) = false := decide_eq_false (by omega); clear c2; replace H := Option.bind_eq_some_iff.mp H; obtain ⟨t168, A70, H⟩ := H; replace H : (shackleref04_begins.l0 k l0 t168 0) = some (r1, r2, r3) := H; have A7 := aM A70; clear A70; have H' := aM H; clear H
  go_enter Tryd.func28, Tryd.ntmps28
  go_wp2_with (first | ((with_reducible refine gate_dst (N := 2) rfl ?_); refine box_event ?hg (N := 2) ?hd (cs := #[.int .i64 0, .bool false, .int .u64 0]) (t := 34) ?hr ?_; (case hd => rfl); (case hg => rfl); (case hr => first | (go_simp; done) | (go_simp; rfl)); intro gb164 hg w8 hbox hb; have BK164 := aM (hbox); have GW164 := aM ((by rw [hg]; exact (below_size (by repeat (first | (with_reducible first | exact HB.out | apply bA | apply bN | apply bD) | exact HB.out))) : w.heap.size ≤ gb164)); have GE164 := aM ((by rw [hg]; exact (below_size (by repeat (first | (with_reducible first | exact HB.out | apply bA | apply bN | apply bD) | exact HB.out))) : w.heap.size ≤ gb164)); replace HB := aM (below_step (by repeat (first | (with_reducible first | exact HB.out | apply bA | apply bN | apply bD) | exact HB.out)) hb); clear hb hbox hg) | ((with_reducible refine gate_callee (f := 57) rfl ?_); refine goesL_ (some 14) rfl rfl Tryd.func57 (by kernel_rfl) rfl #[] rfl (by (try simp only [List.map_toArray, List.map_cons, List.map_nil]); first | done | rfl | (simp only [List.length_drop, List.length_take]; rfl)) ?_; (with_reducible refine (shackleref04_fixed.calls  t168 _ A7.out).mono ?_); rintro e w9 ⟨v169, rfl, ho0, hb⟩; refine ⟨_, rfl, ?_⟩; have HO170 := aM (Kd.R_lower ho0 (below_size (by repeat (first | (with_reducible first | exact HB.out | apply bA | apply bN | apply bD | refine below_set ?_ GE164.out) | exact HB.out)))); replace BK164 := aM (blk_below (by (with_reducible repeat (first | refine kN ?_ _ | refine kD ?_ | refine kA ?_ _)); exact BK164.out) hb); replace HB := aM (below_step (by repeat (first | (with_reducible first | exact HB.out | apply bA | apply bN | apply bD | refine below_set ?_ GE164.out) | exact HB.out)) hb); (try clear hb); (try clear hb2); (try clear hk); (try clear hi); (try clear ho0)))
  go_loopg [4] k (fun kq v4 w' => ∃ (x4_1 : Int) (x165000_1 : Int) (x165001_1 : Bool) (x165002_1 : Int), v4 = .int .i64 x4_1 ∧ Aside0 (shackleref04_begins.l0 kq l0 t168 x4_1 = some (r1, r2, r3)) ∧ Aside0 (kq ≤ k) ∧ Aside0 (Kd.R k128 128 w' w.heap.size (fun _ => True) v169 t168) ∧ Aside0 (w'.heap[gb164]? = some (.cells #[.int .i64 x165000_1, .bool x165001_1, .int .u64 x165002_1] 34 (0, 0))) ∧ Aside0 (Below w.heap.size w w'))
  case atStart => exact ⟨(0), (0), (false), (0), (by first | rfl | (simp; done) | (simp [*]; done)), H', ⟨Nat.le_refl _⟩, ⟨by (with_reducible repeat (first | apply rA | apply rN | apply rD)); exact HO170.out⟩, ⟨by (with_reducible repeat (first | refine kN ?_ _ | refine kD ?_ | refine kA ?_ _)); exact BK164.out⟩, ⟨by repeat (first | (with_reducible first | exact HB.out | apply bA | apply bN | apply bD | refine below_set ?_ GE164.out) | exact HB.out)⟩⟩
  case round =>
   clear H'
   try clear c2
   try clear c2b0
   try clear c2b1
   try clear p2
   try clear c3
   try clear c5
   try clear hcz6_0
   try clear hcz6_1
   try clear hcz6_2
   try clear hfz6_0
   try clear hfz6_1
   try clear hfz6_2
   obtain ⟨x4_1, x165000_1, x165001_1, x165002_1, rfl, HA, HK1, HO_3, BK164, HB⟩ := hrel
   cases gk with
   | zero => exact absurd HA.out (by simp [shackleref04_begins.l0])
   | succ k1 =>
    have H := HA.out; clear HA; simp only [shackleref04_begins.l0] at H
    by_cases c10 : x4_1 < (t168.length : Int)
    ·rw [if_pos c10] at H; have c10b0 : decide (x4_1 < (t168.length : Int)) = true := decide_eq_true c10; clear c10
     by_cases c11 : 0 ≤ x4_1
     ·rw [if_pos c11] at H; have c11b0 : decide (0 ≤ x4_1) = true := decide_eq_true c11; clear c11; have HC12 := aM H; clear H; obtain ⟨Ao13, co13, eo13⟩ := Kd.R_slice HO_3.out; subst eo13; have p171 : 0 ≤ (x4_1 : Int) := of_decide_eq_true (by first | (with_reducible assumption) | assumption); have q171 : x4_1 < (t168.length : Int) := of_decide_eq_true (by first | (with_reducible assumption) | assumption); obtain ⟨ad171, e171, hx171_0, hx171_1, hx171_2⟩ := at_T128 (Kd.R_reads' HO_3.out).2.2 x4_1 p171 q171
      cases e171
      replace p171 := eq_true p171; replace q171 := eq_true q171
      go_upto_if 26 with (fail)
      go_cut [] (fun wc => ∃ (kq : Nat) (x165000_11 : Int) (x165001_11 : Bool) (x165002_11 : Int), Aside0 (shackleref04_begins.j2 kq l0 t168 x4_1 = some (r1, r2, r3)) ∧ Aside0 (kq ≤ k1) ∧ Aside0 (Kd.R k128 128 wc w.heap.size (fun _ => True) (.slice (some ad171) t168.length co13) t168) ∧ Aside0 (wc.heap[gb164]? = some (.cells #[.int .i64 x165000_11, .bool x165001_11, .int .u64 x165002_11] 34 (0, 0))) ∧ Aside0 (Below w.heap.size w wc))
      case first =>
       have H := HC12.out; clear HC12
       by_cases c14 : ((rd_T128 t168 x4_1).f0) = 18
       ·rw [if_pos c14] at H; have c14b0 : (((rd_T128 t168 x4_1).f0) == 18) = true := beq_iff_eq.mpr c14; have c14b1 : (((rd_T128 t168 x4_1).f0) != 18) = false := bne_eq_false_iff_eq.mpr c14; clear c14
        (first | rw [c14b0] | (simp only [i64_w, i32_w]; rw [c14b0]) | skip)
        replace H := Option.bind_eq_some_iff.mp H; obtain ⟨t172, A150, H⟩ := H; replace H : ((shackleref04_num.f k1 l0 16 2).bind fun t173 => (if t172 = 0 then (shackleref04_begins.j1 k1 l0 t168 x4_1 t173 false) else (shackleref04_begins.j1 k1 l0 t168 x4_1 t173 (t172 != 3)))) = some (r1, r2, r3) := H; have A15 := aM A150; clear A150; replace H := Option.bind_eq_some_iff.mp H; obtain ⟨t173, A160, H⟩ := H; replace H : (if t172 = 0 then (shackleref04_begins.j1 k1 l0 t168 x4_1 t173 false) else (shackleref04_begins.j1 k1 l0 t168 x4_1 t173 (t172 != 3))) = some (r1, r2, r3) := H; have A16 := aM A160; clear A160; have HC17 := aM H; clear H
        go_upto_region 10 with (first | ((with_reducible refine gate_callee (f := 29) rfl ?_); refine goesL_ (some 28) rfl rfl Tryd.func29 (by kernel_rfl) rfl #[.slice A0 l0.length c0, .int .u64 7, .int .i64 1] rfl (by (try simp only [List.map_toArray, List.map_cons, List.map_nil]); first | done | rfl | (simp only [List.length_drop, List.length_take]; rfl)) ?_; (with_reducible refine (shackleref04_num.calls k1 _ _ l0 7 1 t172 _ ?side1 ?side2 A15.out).mono ?_); (case side1 => repeat (first | exact (Kd.C_below HR0.out HB.out) | (with_reducible refine cA ?_ _) | (with_reducible refine cN ?_ _) | (with_reducible refine cD ?_))); (case side2 => exact HC0.out); rintro e w18 ⟨rfl, hb⟩; refine ⟨_, rfl, ?_⟩; replace HO_3 := aM (Kd.R_below (by (with_reducible repeat (first | apply rA | apply rN | apply rD)); exact HO_3.out) hb); replace BK164 := aM (blk_below (by (with_reducible repeat (first | refine kN ?_ _ | refine kD ?_ | refine kA ?_ _)); exact BK164.out) hb); replace HB := aM (below_step (by repeat (first | (with_reducible first | exact HB.out | apply bA | apply bN | apply bD | refine below_set ?_ GE164.out) | exact HB.out)) hb); (try clear hb); (try clear hb2); (try clear hk); (try clear hi)) | ((with_reducible refine gate_callee (f := 29) rfl ?_); refine goesL_ (some 30) rfl rfl Tryd.func29 (by kernel_rfl) rfl #[.slice A0 l0.length c0, .int .u64 16, .int .i64 2] rfl (by (try simp only [List.map_toArray, List.map_cons, List.map_nil]); first | done | rfl | (simp only [List.length_drop, List.length_take]; rfl)) ?_; (with_reducible refine (shackleref04_num.calls k1 _ _ l0 16 2 t173 _ ?side1 ?side2 A16.out).mono ?_); (case side1 => repeat (first | exact (Kd.C_below HR0.out HB.out) | (with_reducible refine cA ?_ _) | (with_reducible refine cN ?_ _) | (with_reducible refine cD ?_))); (case side2 => exact HC0.out); rintro e w19 ⟨rfl, hb⟩; refine ⟨_, rfl, ?_⟩; replace HO_3 := aM (Kd.R_below (by (with_reducible repeat (first | apply rA | apply rN | apply rD)); exact HO_3.out) hb); replace BK164 := aM (blk_below (by (with_reducible repeat (first | refine kN ?_ _ | refine kD ?_ | refine kA ?_ _)); exact BK164.out) hb); replace HB := aM (below_step (by repeat (first | (with_reducible first | exact HB.out | apply bA | apply bN | apply bD | refine below_set ?_ GE164.out) | exact HB.out)) hb); (try clear hb); (try clear hb2); (try clear hk); (try clear hi)))
        (try simp only [Act.put, sA, sZ, sS])
        go_cut [36] (fun v36 wc => ∃ (kq : Nat) (x36_16 : Bool), v36 = .bool x36_16 ∧ Aside0 (shackleref04_begins.j1 kq l0 t168 x4_1 t173 x36_16 = some (r1, r2, r3)) ∧ Aside0 (kq ≤ k1) ∧ Aside0 (Kd.R k128 128 wc w.heap.size (fun _ => True) (.slice (some ad171) t168.length co13) t168) ∧ Aside0 (wc.heap[gb164]? = some (.cells #[.int .i64 x165000_1, .bool x165001_1, .int .u64 x165002_1] 34 (0, 0))) ∧ Aside0 (Below w.heap.size w wc))
        case first =>
         have H := HC17.out; clear HC17
         by_cases c20 : t172 = 0
         ·rw [if_pos c20] at H; have c20b0 : (t172 == 0) = true := beq_iff_eq.mpr c20; have c20b1 : (t172 != 0) = false := bne_eq_false_iff_eq.mpr c20; clear c20
          (first | rw [c20b0] | (simp only [i64_w, i32_w]; rw [c20b0]) | skip)
          have H' := aM H; clear H
          go_wp2
          go_meet
          case rel => exact ⟨_, (false), (by first | rfl | (simp; done) | (simp [*]; done)), H', ⟨by have := HK1.out; first | omega | exact Nat.le_refl _⟩, ⟨by (with_reducible repeat (first | apply rA | apply rN | apply rD)); exact HO_3.out⟩, ⟨by (with_reducible repeat (first | refine kN ?_ _ | refine kD ?_ | refine kA ?_ _)); exact BK164.out⟩, ⟨by repeat (first | (with_reducible first | exact HB.out | apply bA | apply bN | apply bD | refine below_set ?_ GE164.out) | exact HB.out)⟩⟩
         ·rw [if_neg c20] at H; have c20b0 : (t172 == 0) = false := beq_eq_false_iff_ne.mpr c20; have c20b1 : (t172 != 0) = true := bne_iff_ne.mpr c20
          (first | rw [c20b0] | (simp only [i64_w, i32_w]; rw [c20b0]) | skip)
          have H' := aM H; clear H
          go_wp2
          go_meet
          case rel => exact ⟨_, ((t172 != 3)), (by first | rfl | (simp; done) | (simp [*]; done)), H', ⟨by have := HK1.out; first | omega | exact Nat.le_refl _⟩, ⟨by (with_reducible repeat (first | apply rA | apply rN | apply rD)); exact HO_3.out⟩, ⟨by (with_reducible repeat (first | refine kN ?_ _ | refine kD ?_ | refine kA ?_ _)); exact BK164.out⟩, ⟨by repeat (first | (with_reducible first | exact HB.out | apply bA | apply bN | apply bD | refine below_set ?_ GE164.out) | exact HB.out)⟩⟩
        case rest =>
         clear HC17
         try clear c1
         try clear p1
         try clear q1
         try clear hx1
         try clear c2
         try clear c2b0
         try clear c2b1
         try clear p2
         try clear c3
         try clear c5
         try clear c10
         try clear c10b0
         try clear c11
         try clear c11b0
         try clear c14
         try clear c14b0
         try clear c14b1
         try clear p17
         try clear q17
         try clear hx17
         try clear c20
         try clear c20b0
         try clear c20b1
         try clear hcz6_0
         try clear hcz6_1
         try clear hcz6_2
         try clear hfz6_0
         try clear hfz6_1
         try clear hfz6_2
         try clear hx171_0
         try clear hx171_1
         try clear hx171_2
         try clear p171
         try clear p2
         try clear q171
         obtain ⟨kq, x36_16, rfl, HA, HJ16, HO_3, BK164, HB⟩ := hcut
         cases kq with
         | zero => exact absurd HA.out (by simp [shackleref04_begins.j1])
         | succ kj16 =>
          have H := HA.out; clear HA; simp only [shackleref04_begins.j1] at H
          by_cases c21 : x36_16 = true
          ·subst c21
           have H1 : ((shackleref04_at.f 3 7).bind fun bt174 => (some (bt174.1, bt174.2.1, bt174.2.2))) = some (r1, r2, r3) := by rw [if_pos rfl] at H; exact H
           clear H; have H := H1; clear H1; replace H := Option.bind_eq_some_iff.mp H; obtain ⟨⟨t174, t175, t176⟩, A220, H⟩ := H; replace H : (some (t174, t175, t176)) = some (r1, r2, r3) := H; have A22 := aM A220; clear A220; simp only [Option.some.injEq, Prod.mk.injEq] at H; obtain ⟨rfl, rfl, rfl⟩ := H
           go_wp2_with (first | ((with_reducible refine gate_callee (f := 30) rfl ?_); refine goesL_ (some 37) rfl rfl Tryd.func30 (by kernel_rfl) rfl #[.int .i64 3, .int .u64 7] rfl (by (try simp only [List.map_toArray, List.map_cons, List.map_nil]); first | done | rfl | (simp only [List.length_drop, List.length_take]; rfl)) ?_; (with_reducible refine (shackleref04_at.calls 3 7 t174 t175 t176 _ A22.out).mono ?_); rintro e w23 ⟨rfl, hb⟩; refine ⟨_, rfl, ?_⟩; replace HO_3 := aM (Kd.R_below (by (with_reducible repeat (first | apply rA | apply rN | apply rD)); exact HO_3.out) hb); replace BK164 := aM (blk_below (by (with_reducible repeat (first | refine kN ?_ _ | refine kD ?_ | refine kA ?_ _)); exact BK164.out) hb); replace HB := aM (below_step (by repeat (first | (with_reducible first | exact HB.out | apply bA | apply bN | apply bD | refine below_set ?_ GE164.out) | exact HB.out)) hb); (try clear hb); (try clear hb2); (try clear hk); (try clear hi); obtain ⟨hcz24_0, hcz24_1, hcz24_2, hfz24_0, hfz24_1, hfz24_2⟩ := bx3 BK164.out))
           refine bodyPost_ret (results_cell_row rfl _ _ gb164 34 #[.int .i64 t174, .bool t175, .int .u64 t176] (0, 0) _ rfl (by (with_reducible repeat (first | refine kN ?_ _ | refine kD ?_ | refine kA ?_ _)); refine blk_put (cs := #[.int .i64 t174, .bool t175, .int .u64 x165002_1]) ?_ 2 _ rfl; (with_reducible repeat (first | refine kN ?_ _ | refine kD ?_ | refine kA ?_ _)); refine blk_put (cs := #[.int .i64 t174, .bool x165001_1, .int .u64 x165002_1]) ?_ 1 _ rfl; (with_reducible repeat (first | refine kN ?_ _ | refine kD ?_ | refine kA ?_ _)); refine blk_put (cs := #[.int .i64 x165000_1, .bool x165001_1, .int .u64 x165002_1]) ?_ 0 _ rfl; (with_reducible repeat (first | refine kN ?_ _ | refine kD ?_ | refine kA ?_ _)); exact BK164.out) Tryd.underlying34 rfl (by kernel_rfl)) rfl ?_; exact ⟨by first | rfl | (simp [errW_none, errW_some] <;> rfl) | (simp [*, errW_none, errW_some] <;> rfl), by repeat (first | (with_reducible first | exact HB.out | apply bA | apply bN | apply bD | refine below_set ?_ GE164.out) | exact HB.out)⟩
          ·replace c21 := Bool.eq_false_iff.mpr c21; subst c21
           have H1 : (if t173 = 2 then (shackleref04_begins.j2 kj16 l0 t168 x4_1) else (if t173 = 3 then (shackleref04_begins.j2 kj16 l0 t168 x4_1) else ((shackleref04_at.f 3 16).bind fun bt177 => (some (bt177.1, bt177.2.1, bt177.2.2))))) = some (r1, r2, r3) := by rw [if_neg (show ¬ (false = true) by decide)] at H; exact H
           clear H; have H := H1; clear H1
           by_cases c25 : t173 = 2
           ·rw [if_pos c25] at H; have c25b0 : (t173 == 2) = true := beq_iff_eq.mpr c25; have c25b1 : (t173 != 2) = false := bne_eq_false_iff_eq.mpr c25; clear c25; have H' := aM H; clear H
            go_wp2
            go_meet
            case rel => exact ⟨_, (x165000_1), (x165001_1), (x165002_1), H', ⟨by have := HK1.out; have := HJ16.out; first | omega | exact Nat.le_refl _⟩, ⟨by (with_reducible repeat (first | apply rA | apply rN | apply rD)); exact HO_3.out⟩, ⟨by (with_reducible repeat (first | refine kN ?_ _ | refine kD ?_ | refine kA ?_ _)); exact BK164.out⟩, ⟨by repeat (first | (with_reducible first | exact HB.out | apply bA | apply bN | apply bD | refine below_set ?_ GE164.out) | exact HB.out)⟩⟩
           ·rw [if_neg c25] at H; have c25b0 : (t173 == 2) = false := beq_eq_false_iff_ne.mpr c25; have c25b1 : (t173 != 2) = true := bne_iff_ne.mpr c25
            by_cases c26 : t173 = 3
            ·rw [if_pos c26] at H; have c26b0 : (t173 == 3) = true := beq_iff_eq.mpr c26; have c26b1 : (t173 != 3) = false := bne_eq_false_iff_eq.mpr c26; clear c26; have H' := aM H; clear H
             go_wp2
             go_meet
             case rel => exact ⟨_, (x165000_1), (x165001_1), (x165002_1), H', ⟨by have := HK1.out; have := HJ16.out; first | omega | exact Nat.le_refl _⟩, ⟨by (with_reducible repeat (first | apply rA | apply rN | apply rD)); exact HO_3.out⟩, ⟨by (with_reducible repeat (first | refine kN ?_ _ | refine kD ?_ | refine kA ?_ _)); exact BK164.out⟩, ⟨by repeat (first | (with_reducible first | exact HB.out | apply bA | apply bN | apply bD | refine below_set ?_ GE164.out) | exact HB.out)⟩⟩
            ·rw [if_neg c26] at H; have c26b0 : (t173 == 3) = false := beq_eq_false_iff_ne.mpr c26; have c26b1 : (t173 != 3) = true := bne_iff_ne.mpr c26; replace H := Option.bind_eq_some_iff.mp H; obtain ⟨⟨t177, t178, t179⟩, A270, H⟩ := H; replace H : (some (t177, t178, t179)) = some (r1, r2, r3) := H; have A27 := aM A270; clear A270; simp only [Option.some.injEq, Prod.mk.injEq] at H; obtain ⟨rfl, rfl, rfl⟩ := H
             go_wp2_with (first | ((with_reducible refine gate_callee (f := 30) rfl ?_); refine goesL_ (some 44) rfl rfl Tryd.func30 (by kernel_rfl) rfl #[.int .i64 3, .int .u64 16] rfl (by (try simp only [List.map_toArray, List.map_cons, List.map_nil]); first | done | rfl | (simp only [List.length_drop, List.length_take]; rfl)) ?_; (with_reducible refine (shackleref04_at.calls 3 16 t177 t178 t179 _ A27.out).mono ?_); rintro e w28 ⟨rfl, hb⟩; refine ⟨_, rfl, ?_⟩; replace HO_3 := aM (Kd.R_below (by (with_reducible repeat (first | apply rA | apply rN | apply rD)); exact HO_3.out) hb); replace BK164 := aM (blk_below (by (with_reducible repeat (first | refine kN ?_ _ | refine kD ?_ | refine kA ?_ _)); exact BK164.out) hb); replace HB := aM (below_step (by repeat (first | (with_reducible first | exact HB.out | apply bA | apply bN | apply bD | refine below_set ?_ GE164.out) | exact HB.out)) hb); (try clear hb); (try clear hb2); (try clear hk); (try clear hi); obtain ⟨hcz29_0, hcz29_1, hcz29_2, hfz29_0, hfz29_1, hfz29_2⟩ := bx3 BK164.out))
             refine bodyPost_ret (results_cell_row rfl _ _ gb164 34 #[.int .i64 t177, .bool t178, .int .u64 t179] (0, 0) _ rfl (by (with_reducible repeat (first | refine kN ?_ _ | refine kD ?_ | refine kA ?_ _)); refine blk_put (cs := #[.int .i64 t177, .bool t178, .int .u64 x165002_1]) ?_ 2 _ rfl; (with_reducible repeat (first | refine kN ?_ _ | refine kD ?_ | refine kA ?_ _)); refine blk_put (cs := #[.int .i64 t177, .bool x165001_1, .int .u64 x165002_1]) ?_ 1 _ rfl; (with_reducible repeat (first | refine kN ?_ _ | refine kD ?_ | refine kA ?_ _)); refine blk_put (cs := #[.int .i64 x165000_1, .bool x165001_1, .int .u64 x165002_1]) ?_ 0 _ rfl; (with_reducible repeat (first | refine kN ?_ _ | refine kD ?_ | refine kA ?_ _)); exact BK164.out) Tryd.underlying34 rfl (by kernel_rfl)) rfl ?_; exact ⟨by first | rfl | (simp [errW_none, errW_some] <;> rfl) | (simp [*, errW_none, errW_some] <;> rfl), by repeat (first | (with_reducible first | exact HB.out | apply bA | apply bN | apply bD | refine below_set ?_ GE164.out) | exact HB.out)⟩
       ·rw [if_neg c14] at H; have c14b0 : (((rd_T128 t168 x4_1).f0) == 18) = false := beq_eq_false_iff_ne.mpr c14; have c14b1 : (((rd_T128 t168 x4_1).f0) != 18) = true := bne_iff_ne.mpr c14
        (first | rw [c14b0] | (simp only [i64_w, i32_w]; rw [c14b0]) | skip)
        have H' := aM H; clear H
        go_wp2
        go_meet
        case rel => exact ⟨_, (x165000_1), (x165001_1), (x165002_1), H', ⟨by have := HK1.out; first | omega | exact Nat.le_refl _⟩, ⟨by (with_reducible repeat (first | apply rA | apply rN | apply rD)); exact HO_3.out⟩, ⟨by (with_reducible repeat (first | refine kN ?_ _ | refine kD ?_ | refine kA ?_ _)); exact BK164.out⟩, ⟨by repeat (first | (with_reducible first | exact HB.out | apply bA | apply bN | apply bD | refine below_set ?_ GE164.out) | exact HB.out)⟩⟩
      case rest =>
       clear HC12
       try clear c1
       try clear p1
       try clear q1
       try clear hx1
       try clear c2
       try clear c2b0
       try clear c2b1
       try clear p2
       try clear c3
       try clear c5
       try clear c10
       try clear c10b0
       try clear c11
       try clear c11b0
       try clear c14
       try clear c14b0
       try clear c14b1
       try clear p17
       try clear q17
       try clear hx17
       try clear c20
       try clear c20b0
       try clear c20b1
       try clear c21
       try clear c25
       try clear c25b0
       try clear c25b1
       try clear c26
       try clear c26b0
       try clear c26b1
       try clear c28
       try clear c29
       try clear hcz24_0
       try clear hcz24_1
       try clear hcz24_2
       try clear hcz29_0
       try clear hcz29_1
       try clear hcz29_2
       try clear hcz6_0
       try clear hcz6_1
       try clear hcz6_2
       try clear hfz24_0
       try clear hfz24_1
       try clear hfz24_2
       try clear hfz29_0
       try clear hfz29_1
       try clear hfz29_2
       try clear hfz6_0
       try clear hfz6_1
       try clear hfz6_2
       try clear hx171_0
       try clear hx171_1
       try clear hx171_2
       try clear p1
       try clear p17
       try clear p171
       try clear p2
       try clear q1
       try clear q17
       try clear q171
       obtain ⟨kq, x165000_11, x165001_11, x165002_11, HA, HJ11, HO_3, BK164, HB⟩ := hcut
       cases kq with
       | zero => exact absurd HA.out (by simp [shackleref04_begins.j2])
       | succ kj11 =>
        have H := HA.out; clear HA; simp only [shackleref04_begins.j2] at H
        by_cases c30 : 0 ≤ x4_1
        ·rw [if_pos c30] at H; have c30b0 : decide (0 ≤ x4_1) = true := decide_eq_true c30; clear c30
         by_cases c31 : x4_1 < (t168.length : Int)
         ·rw [if_pos c31] at H; have c31b0 : decide (x4_1 < (t168.length : Int)) = true := decide_eq_true c31; clear c31; replace H := Option.bind_eq_some_iff.mp H; obtain ⟨t182, A320, H⟩ := H; replace H : (if t182 = ((rd_T128 t168 x4_1).f2) then (shackleref04_begins.l0 kj11 l0 t168 (wrap64 (x4_1 + 1))) else ((shackleref04_at.f 3 ((rd_T128 t168 x4_1).f0)).bind fun bt185 => (some (bt185.1, bt185.2.1, bt185.2.2)))) = some (r1, r2, r3) := H; have A32 := aM A320; clear A320
          by_cases c33 : t182 = ((rd_T128 t168 x4_1).f2)
          ·rw [if_pos c33] at H; have c33b0 : (t182 == ((rd_T128 t168 x4_1).f2)) = true := beq_iff_eq.mpr c33; have c33b1 : (t182 != ((rd_T128 t168 x4_1).f2)) = false := bne_eq_false_iff_eq.mpr c33; clear c33; have H' := aM H; clear H
           try go_wp2
           replace HO_3 := aM (Kd.R_drew HO_3.out); replace BK164 := aM (blk_drew BK164.out); replace HB := aM (below_drew1 HB.out); have p180 : 0 ≤ (x4_1 : Int) := of_decide_eq_true (by first | (with_reducible assumption) | assumption); have q180 : x4_1 < (t168.length : Int) := of_decide_eq_true (by first | (with_reducible assumption) | assumption); obtain ⟨ad180, e180, hx180_0, hx180_1, hx180_2⟩ := at_T128 (Kd.R_reads' HO_3.out).2.2 x4_1 p180 q180; obtain rfl : ad171 = ad180 := (by injection e180); replace p180 := eq_true p180; replace q180 := eq_true q180; have p181 : 0 ≤ (x4_1 : Int) := of_decide_eq_true (by first | (with_reducible assumption) | assumption); have q181 : x4_1 < (t168.length : Int) := of_decide_eq_true (by first | (with_reducible assumption) | assumption); obtain ⟨ad181, e181, hx181_0, hx181_1, hx181_2⟩ := at_T128 (Kd.R_reads' HO_3.out).2.2 x4_1 p181 q181; obtain rfl : ad171 = ad181 := (by injection e181); replace p181 := eq_true p181; replace q181 := eq_true q181; have p183 : 0 ≤ (x4_1 : Int) := of_decide_eq_true (by first | (with_reducible assumption) | assumption); have q183 : x4_1 < (t168.length : Int) := of_decide_eq_true (by first | (with_reducible assumption) | assumption); obtain ⟨ad183, e183, hx183_0, hx183_1, hx183_2⟩ := at_T128 (Kd.R_reads' HO_3.out).2.2 x4_1 p183 q183; obtain rfl : ad171 = ad183 := (by injection e183); replace p183 := eq_true p183; replace q183 := eq_true q183; refine start_ (n := 18) (S := fun w' => w'.cell? (ad171.add ((x4_1).toNat * 3)) = some (.int .u64 ((rd_T128 t168 x4_1).f0)) ∧ w'.cell? ⟨(ad171.add ((x4_1).toNat * 3)).block, (ad171.add ((x4_1).toNat * 3)).off + 1, none⟩ = some (.int .i64 ((rd_T128 t168 x4_1).f1)) ∧ w'.cell? ⟨(ad171.add ((x4_1).toNat * 3)).block, (ad171.add ((x4_1).toNat * 3)).off + 2, none⟩ = some (.int .u64 ((rd_T128 t168 x4_1).f2)) ∧ w'.cell? (ad171.add ((x4_1).toNat * 3)) = some (.int .u64 ((rd_T128 t168 x4_1).f0)) ∧ w'.cell? ⟨(ad171.add ((x4_1).toNat * 3)).block, (ad171.add ((x4_1).toNat * 3)).off + 1, none⟩ = some (.int .i64 ((rd_T128 t168 x4_1).f1)) ∧ w'.cell? ⟨(ad171.add ((x4_1).toNat * 3)).block, (ad171.add ((x4_1).toNat * 3)).off + 2, none⟩ = some (.int .u64 ((rd_T128 t168 x4_1).f2)) ∧ w'.cell? (ad171.add ((x4_1).toNat * 3)) = some (.int .u64 ((rd_T128 t168 x4_1).f0)) ∧ w'.cell? ⟨(ad171.add ((x4_1).toNat * 3)).block, (ad171.add ((x4_1).toNat * 3)).off + 1, none⟩ = some (.int .i64 ((rd_T128 t168 x4_1).f1)) ∧ w'.cell? ⟨(ad171.add ((x4_1).toNat * 3)).block, (ad171.add ((x4_1).toNat * 3)).off + 2, none⟩ = some (.int .u64 ((rd_T128 t168 x4_1).f2))) (ds := []) #[false, false, false, false, false, false, false, false, false, false, false, false, false, false, false, false, false, false] (by kernel_rfl) rfl rfl ⟨hx180_0, hx180_1, hx180_2, hx181_0, hx181_1, hx181_2, hx183_0, hx183_1, hx183_2⟩ (fun hHeld => ?_); refine with_tabW shackleref04_begins.tab14 shackleref04_begins.bits14 (fun HT_ HW_ => ?_); generalize wc.drew = w34 at HO_3 BK164 HB hx180_0 hx180_1 hx180_2 hx181_0 hx181_1 hx181_2 hx183_0 hx183_1 hx183_2 hHeld ⊢; refine pure_ (i := 0) (N := some 45) (v := ?_) (a' := ?_) #[true, false, false, false, false, false, false, false, false, false, false, false, false, false, false, false, false, false] rfl rfl (any_of HT_.out (by kernel_rfl)) (fun _ _ _ h => h) (Or.inl ⟨by rfl, ?_⟩) ?_ ?_; rotate_left
           ·intro w'
            go_simp
            with_reducible rfl
           rotate_left
           ·simp only [Act.put, sA, sZ, sS, i64_w, i32_w]
            rfl
           refine pure_ (i := 1) (N := some 46) (v := ?_) (a' := ?_) #[true, true, false, false, false, false, false, false, false, false, false, false, false, false, false, false, false, false] rfl rfl (any_of HT_.out (by kernel_rfl)) (fun _ _ _ h => h) (Or.inl ⟨by rfl, ?_⟩) ?_ ?_; rotate_left
           ·intro w'
            go_simp
            with_reducible rfl
           rotate_left
           ·simp only [Act.put, sA, sZ, sS, i64_w, i32_w]
            rfl
           refine pure_ (i := 2) (N := some 47) (v := ?_) (a' := ?_) #[true, true, true, false, false, false, false, false, false, false, false, false, false, false, false, false, false, false] rfl rfl (any_of HT_.out (by kernel_rfl)) (fun _ _ _ h => h) (Or.inl ⟨by rfl, ?_⟩) ?_ ?_; rotate_left
           ·intro w'
            go_simp
            with_reducible rfl
           rotate_left
           ·simp only [Act.put, sA, sZ, sS, i64_w, i32_w]
            rfl
           refine pure_ (i := 3) (N := some 48) (v := ?_) (a' := ?_) #[true, true, true, true, false, false, false, false, false, false, false, false, false, false, false, false, false, false] rfl rfl (any_of HT_.out (by kernel_rfl)) (fun _ _ _ h => h) (Or.inl ⟨by rfl, ?_⟩) ?_ ?_; rotate_left
           ·intro w'
            go_simp
            with_reducible rfl
           rotate_left
           ·simp only [Act.put, sA, sZ, sS, i64_w, i32_w]
            rfl
           refine pure_ (i := 4) (N := some 49) (v := ?_) (a' := ?_) #[true, true, true, true, true, false, false, false, false, false, false, false, false, false, false, false, false, false] rfl rfl (any_of HT_.out (by kernel_rfl)) (fun _ _ _ h => h) (Or.inl ⟨by rfl, ?_⟩) ?_ ?_; rotate_left
           ·intro w'
            go_simp
            with_reducible rfl
           rotate_left
           ·simp only [Act.put, sA, sZ, sS, i64_w, i32_w]
            rfl
           refine pure_ (i := 6) (N := some 51) (v := ?_) (a' := ?_) #[true, true, true, true, true, false, true, false, false, false, false, false, false, false, false, false, false, false] rfl rfl (any_of HT_.out (by kernel_rfl)) (fun _ _ _ h => h) (Or.inl ⟨by rfl, ?_⟩) ?_ ?_; rotate_left
           ·intro w'
            go_simp
            with_reducible rfl
           rotate_left
           ·simp only [Act.put, sA, sZ, sS, i64_w, i32_w]
            rfl
           refine pure_ (i := 7) (N := some 52) (v := ?_) (a' := ?_) #[true, true, true, true, true, false, true, true, false, false, false, false, false, false, false, false, false, false] rfl rfl (any_of HT_.out (by kernel_rfl)) (fun _ _ _ h => h) (Or.inl ⟨by rfl, ?_⟩) ?_ ?_; rotate_left
           ·intro w'
            go_simp
            with_reducible rfl
           rotate_left
           ·simp only [Act.put, sA, sZ, sS, i64_w, i32_w]
            rfl
           refine pure_ (i := 8) (N := some 53) (v := ?_) (a' := ?_) #[true, true, true, true, true, false, true, true, true, false, false, false, false, false, false, false, false, false] rfl rfl (any_of HT_.out (by kernel_rfl)) (fun _ _ _ h => h) (Or.inl ⟨by rfl, ?_⟩) ?_ ?_; rotate_left
           ·intro w'
            go_simp
            with_reducible rfl
           rotate_left
           ·simp only [Act.put, sA, sZ, sS, i64_w, i32_w]
            rfl
           refine pure_ (i := 9) (N := some 54) (v := ?_) (a' := ?_) #[true, true, true, true, true, false, true, true, true, true, false, false, false, false, false, false, false, false] rfl rfl (any_of HT_.out (by kernel_rfl)) (fun _ _ _ h => h) (Or.inl ⟨by rfl, ?_⟩) ?_ ?_; rotate_left
           ·intro w'
            go_simp
            with_reducible rfl
           rotate_left
           ·simp only [Act.put, sA, sZ, sS, i64_w, i32_w]
            rfl
           refine pure_ (i := 12) (N := some 57) (v := ?_) (a' := ?_) #[true, true, true, true, true, false, true, true, true, true, false, false, true, false, false, false, false, false] rfl rfl (any_of HT_.out (by kernel_rfl)) (fun _ _ _ h => h) (Or.inl ⟨by rfl, ?_⟩) ?_ ?_; rotate_left
           ·intro w'
            go_simp
            with_reducible rfl
           rotate_left
           ·simp only [Act.put, sA, sZ, sS, i64_w, i32_w]
            rfl
           refine pure_ (i := 13) (N := some 58) (v := ?_) (a' := ?_) #[true, true, true, true, true, false, true, true, true, true, false, false, true, true, false, false, false, false] rfl rfl (any_of HT_.out (by kernel_rfl)) (fun _ _ _ h => h) (Or.inl ⟨by rfl, ?_⟩) ?_ ?_; rotate_left
           ·intro w'
            go_simp
            with_reducible rfl
           rotate_left
           ·simp only [Act.put, sA, sZ, sS, i64_w, i32_w]
            rfl
           refine pure_ (i := 14) (N := some 59) (v := ?_) (a' := ?_) #[true, true, true, true, true, false, true, true, true, true, false, false, true, true, true, false, false, false] rfl rfl (any_of HT_.out (by kernel_rfl)) (fun _ _ _ h => h) (Or.inl ⟨by rfl, ?_⟩) ?_ ?_; rotate_left
           ·intro w'
            go_simp
            with_reducible rfl
           rotate_left
           ·simp only [Act.put, sA, sZ, sS, i64_w, i32_w]
            rfl
           refine pure_ (i := 15) (N := some 60) (v := ?_) (a' := ?_) #[true, true, true, true, true, false, true, true, true, true, false, false, true, true, true, true, false, false] rfl rfl (any_of HT_.out (by kernel_rfl)) (fun _ _ _ h => h) (Or.inl ⟨by rfl, ?_⟩) ?_ ?_; rotate_left
           ·intro w'
            go_simp
            with_reducible rfl
           rotate_left
           ·simp only [Act.put, sA, sZ, sS, i64_w, i32_w]
            rfl
           refine take_ (i := 5) (N := some 50) (v := ?_) (a' := ?_) #[true, true, true, true, true, true, true, true, true, true, false, false, true, true, true, true, false, false] rfl rfl (take_ofW HT_.out HW_.out (by kernel_rfl)) (fun _ _ _ h => h) (Or.inl ⟨by rfl, ?_⟩) hHeld ?_ ?_; rotate_left
           ·rintro w' ⟨s0, s1, s2, s3, s4, s5, s6, s7, s8⟩
            go_simp
            with_reducible rfl
           rotate_left
           ·simp only [Act.put, sA, sZ, sS, i64_w, i32_w]
            rfl
           refine take_ (i := 10) (N := some 55) (v := ?_) (a' := ?_) #[true, true, true, true, true, true, true, true, true, true, true, false, true, true, true, true, false, false] rfl rfl (take_ofW HT_.out HW_.out (by kernel_rfl)) (fun _ _ _ h => h) (Or.inl ⟨by rfl, ?_⟩) hHeld ?_ ?_; rotate_left
           ·rintro w' ⟨s0, s1, s2, s3, s4, s5, s6, s7, s8⟩
            go_simp
            with_reducible rfl
           rotate_left
           ·simp only [Act.put, sA, sZ, sS, i64_w, i32_w]
            rfl
           refine take_ (i := 16) (N := some 61) (v := ?_) (a' := ?_) #[true, true, true, true, true, true, true, true, true, true, true, false, true, true, true, true, true, false] rfl rfl (take_ofW HT_.out HW_.out (by kernel_rfl)) (fun _ _ _ h => h) (Or.inl ⟨by rfl, ?_⟩) hHeld ?_ ?_; rotate_left
           ·rintro w' ⟨s0, s1, s2, s3, s4, s5, s6, s7, s8⟩
            go_simp
            with_reducible rfl
           rotate_left
           ·simp only [Act.put, sA, sZ, sS, i64_w, i32_w]
            rfl
           refine one_ (i := 11) (N := some 56) #[true, true, true, true, true, true, true, true, true, true, true, true, true, true, true, true, true, false] rfl rfl (one_of HT_.out (by kernel_rfl)) (by decide) (fun K hK => ?_); refine goes_ Tryd.func29 (by kernel_rfl) rfl #[.slice A0 l0.length c0, .int .u64 ((rd_T128 t168 x4_1).f0), .int .i64 ((rd_T128 t168 x4_1).f1)] (by rfl) rfl rfl (by (try simp only [List.map_toArray, List.map_cons, List.map_nil]); first | done | rfl | (simp only [List.length_drop, List.length_take]; rfl)) ?_
           with_reducible refine (shackleref04_num.calls kj11 _ _ l0 ((rd_T128 t168 x4_1).f0) ((rd_T128 t168 x4_1).f1) t182 _ ?side1 ?side2 A32.out).mono ?_
           (case side1 => repeat (first | exact (Kd.C_below HR0.out HB.out) | (with_reducible refine cA ?_ _) | (with_reducible refine cN ?_ _) | (with_reducible refine cD ?_)))
           (case side2 => exact HC0.out)
           rintro e w35 ⟨rfl, hb⟩; have HS0_ := (hb.cell (World.block_lt_of_cell? _ _ (hHeld.1))).trans (hHeld.1); have HS1_ := (hb.cell (World.block_lt_of_cell? _ _ (hHeld.2.1))).trans (hHeld.2.1); have HS2_ := (hb.cell (World.block_lt_of_cell? _ _ (hHeld.2.2.1))).trans (hHeld.2.2.1); have HS3_ := (hb.cell (World.block_lt_of_cell? _ _ (hHeld.2.2.2.1))).trans (hHeld.2.2.2.1); have HS4_ := (hb.cell (World.block_lt_of_cell? _ _ (hHeld.2.2.2.2.1))).trans (hHeld.2.2.2.2.1); have HS5_ := (hb.cell (World.block_lt_of_cell? _ _ (hHeld.2.2.2.2.2.1))).trans (hHeld.2.2.2.2.2.1); have HS6_ := (hb.cell (World.block_lt_of_cell? _ _ (hHeld.2.2.2.2.2.2.1))).trans (hHeld.2.2.2.2.2.2.1); have HS7_ := (hb.cell (World.block_lt_of_cell? _ _ (hHeld.2.2.2.2.2.2.2.1))).trans (hHeld.2.2.2.2.2.2.2.1); have HS8_ := (hb.cell (World.block_lt_of_cell? _ _ (hHeld.2.2.2.2.2.2.2.2))).trans (hHeld.2.2.2.2.2.2.2.2); refine ⟨_, rfl, ?_⟩; have n0_ := aM (Kd.R_below (by (with_reducible repeat (first | apply rA | apply rN | apply rD)); exact HO_3.out) hb); have n1_ := aM (blk_below (by (with_reducible repeat (first | refine kN ?_ _ | refine kD ?_ | refine kA ?_ _)); exact BK164.out) hb); have n2_ := aM (below_step (by repeat (first | (with_reducible first | exact HB.out | apply bA | apply bN | apply bD | refine below_set ?_ GE164.out) | exact HB.out)) hb); clear HO_3; clear BK164; clear HB; have HO_3 := n0_; have BK164 := n1_; have HB := n2_; clear n0_ n1_ n2_
           (try clear hb)
           (try clear hb2)
           (try clear hk)
           (try clear hi)
           refine hK.out _ _ ⟨HS0_, HS1_, HS2_, HS3_, HS4_, HS5_, HS6_, HS7_, HS8_⟩ (fun hHeld => ?_); clear hK K; refine norm_ (a' := ?_) ?_ ?_; rotate_left
           ·show Act.put _ (some 56) _ = _
            simp only [Act.put, sA, sZ, sS, i64_w, i32_w]
            rfl
           refine pure_ (i := 17) (N := some 62) (v := ?_) (a' := ?_) #[true, true, true, true, true, true, true, true, true, true, true, true, true, true, true, true, true, true] rfl rfl (any_of HT_.out (by kernel_rfl)) (fun _ _ _ h => h) (Or.inl ⟨by rfl, ?_⟩) ?_ ?_; rotate_left
           ·intro w'
            go_simp
            with_reducible rfl
           rotate_left
           ·simp only [Act.put, sA, sZ, sS, i64_w, i32_w]
            rfl
           refine done_ (done_of HT_.out (by kernel_rfl)) ?_
           try go_wp2
           go_roundg kj11
           case measure => have := HK1.out; have := HJ11.out; omega
           case rel => exact ⟨(wrap64 (x4_1 + 1)), (x165000_11), (x165001_11), (x165002_11), (by first | rfl | (simp; done) | (simp [*]; done)), H', ⟨by have := HK1.out; have := HJ11.out; omega⟩, ⟨by (with_reducible repeat (first | apply rA | apply rN | apply rD)); exact HO_3.out⟩, ⟨by (with_reducible repeat (first | refine kN ?_ _ | refine kD ?_ | refine kA ?_ _)); exact BK164.out⟩, ⟨by repeat (first | (with_reducible first | exact HB.out | apply bA | apply bN | apply bD | refine below_set ?_ GE164.out) | exact HB.out)⟩⟩
          ·rw [if_neg c33] at H; have c33b0 : (t182 == ((rd_T128 t168 x4_1).f2)) = false := beq_eq_false_iff_ne.mpr c33; have c33b1 : (t182 != ((rd_T128 t168 x4_1).f2)) = true := bne_iff_ne.mpr c33; replace H := Option.bind_eq_some_iff.mp H; obtain ⟨⟨t185, t186, t187⟩, A360, H⟩ := H; replace H : (some (t185, t186, t187)) = some (r1, r2, r3) := H; have A36 := aM A360; clear A360; simp only [Option.some.injEq, Prod.mk.injEq] at H; obtain ⟨rfl, rfl, rfl⟩ := H
           try go_wp2
           replace HO_3 := aM (Kd.R_drew HO_3.out); replace BK164 := aM (blk_drew BK164.out); replace HB := aM (below_drew1 HB.out); have p180 : 0 ≤ (x4_1 : Int) := of_decide_eq_true (by first | (with_reducible assumption) | assumption); have q180 : x4_1 < (t168.length : Int) := of_decide_eq_true (by first | (with_reducible assumption) | assumption); obtain ⟨ad180, e180, hx180_0, hx180_1, hx180_2⟩ := at_T128 (Kd.R_reads' HO_3.out).2.2 x4_1 p180 q180; obtain rfl : ad171 = ad180 := (by injection e180); replace p180 := eq_true p180; replace q180 := eq_true q180; have p181 : 0 ≤ (x4_1 : Int) := of_decide_eq_true (by first | (with_reducible assumption) | assumption); have q181 : x4_1 < (t168.length : Int) := of_decide_eq_true (by first | (with_reducible assumption) | assumption); obtain ⟨ad181, e181, hx181_0, hx181_1, hx181_2⟩ := at_T128 (Kd.R_reads' HO_3.out).2.2 x4_1 p181 q181; obtain rfl : ad171 = ad181 := (by injection e181); replace p181 := eq_true p181; replace q181 := eq_true q181; have p183 : 0 ≤ (x4_1 : Int) := of_decide_eq_true (by first | (with_reducible assumption) | assumption); have q183 : x4_1 < (t168.length : Int) := of_decide_eq_true (by first | (with_reducible assumption) | assumption); obtain ⟨ad183, e183, hx183_0, hx183_1, hx183_2⟩ := at_T128 (Kd.R_reads' HO_3.out).2.2 x4_1 p183 q183; obtain rfl : ad171 = ad183 := (by injection e183); replace p183 := eq_true p183; replace q183 := eq_true q183; refine start_ (n := 18) (S := fun w' => w'.cell? (ad171.add ((x4_1).toNat * 3)) = some (.int .u64 ((rd_T128 t168 x4_1).f0)) ∧ w'.cell? ⟨(ad171.add ((x4_1).toNat * 3)).block, (ad171.add ((x4_1).toNat * 3)).off + 1, none⟩ = some (.int .i64 ((rd_T128 t168 x4_1).f1)) ∧ w'.cell? ⟨(ad171.add ((x4_1).toNat * 3)).block, (ad171.add ((x4_1).toNat * 3)).off + 2, none⟩ = some (.int .u64 ((rd_T128 t168 x4_1).f2)) ∧ w'.cell? (ad171.add ((x4_1).toNat * 3)) = some (.int .u64 ((rd_T128 t168 x4_1).f0)) ∧ w'.cell? ⟨(ad171.add ((x4_1).toNat * 3)).block, (ad171.add ((x4_1).toNat * 3)).off + 1, none⟩ = some (.int .i64 ((rd_T128 t168 x4_1).f1)) ∧ w'.cell? ⟨(ad171.add ((x4_1).toNat * 3)).block, (ad171.add ((x4_1).toNat * 3)).off + 2, none⟩ = some (.int .u64 ((rd_T128 t168 x4_1).f2)) ∧ w'.cell? (ad171.add ((x4_1).toNat * 3)) = some (.int .u64 ((rd_T128 t168 x4_1).f0)) ∧ w'.cell? ⟨(ad171.add ((x4_1).toNat * 3)).block, (ad171.add ((x4_1).toNat * 3)).off + 1, none⟩ = some (.int .i64 ((rd_T128 t168 x4_1).f1)) ∧ w'.cell? ⟨(ad171.add ((x4_1).toNat * 3)).block, (ad171.add ((x4_1).toNat * 3)).off + 2, none⟩ = some (.int .u64 ((rd_T128 t168 x4_1).f2))) (ds := []) #[false, false, false, false, false, false, false, false, false, false, false, false, false, false, false, false, false, false] (by kernel_rfl) rfl rfl ⟨hx180_0, hx180_1, hx180_2, hx181_0, hx181_1, hx181_2, hx183_0, hx183_1, hx183_2⟩ (fun hHeld => ?_); refine with_tabW shackleref04_begins.tab14 shackleref04_begins.bits14 (fun HT_ HW_ => ?_); generalize wc.drew = w37 at HO_3 BK164 HB hx180_0 hx180_1 hx180_2 hx181_0 hx181_1 hx181_2 hx183_0 hx183_1 hx183_2 hHeld ⊢; refine pure_ (i := 0) (N := some 45) (v := ?_) (a' := ?_) #[true, false, false, false, false, false, false, false, false, false, false, false, false, false, false, false, false, false] rfl rfl (any_of HT_.out (by kernel_rfl)) (fun _ _ _ h => h) (Or.inl ⟨by rfl, ?_⟩) ?_ ?_; rotate_left
           ·intro w'
            go_simp
            with_reducible rfl
           rotate_left
           ·simp only [Act.put, sA, sZ, sS, i64_w, i32_w]
            rfl
           refine pure_ (i := 1) (N := some 46) (v := ?_) (a' := ?_) #[true, true, false, false, false, false, false, false, false, false, false, false, false, false, false, false, false, false] rfl rfl (any_of HT_.out (by kernel_rfl)) (fun _ _ _ h => h) (Or.inl ⟨by rfl, ?_⟩) ?_ ?_; rotate_left
           ·intro w'
            go_simp
            with_reducible rfl
           rotate_left
           ·simp only [Act.put, sA, sZ, sS, i64_w, i32_w]
            rfl
           refine pure_ (i := 2) (N := some 47) (v := ?_) (a' := ?_) #[true, true, true, false, false, false, false, false, false, false, false, false, false, false, false, false, false, false] rfl rfl (any_of HT_.out (by kernel_rfl)) (fun _ _ _ h => h) (Or.inl ⟨by rfl, ?_⟩) ?_ ?_; rotate_left
           ·intro w'
            go_simp
            with_reducible rfl
           rotate_left
           ·simp only [Act.put, sA, sZ, sS, i64_w, i32_w]
            rfl
           refine pure_ (i := 3) (N := some 48) (v := ?_) (a' := ?_) #[true, true, true, true, false, false, false, false, false, false, false, false, false, false, false, false, false, false] rfl rfl (any_of HT_.out (by kernel_rfl)) (fun _ _ _ h => h) (Or.inl ⟨by rfl, ?_⟩) ?_ ?_; rotate_left
           ·intro w'
            go_simp
            with_reducible rfl
           rotate_left
           ·simp only [Act.put, sA, sZ, sS, i64_w, i32_w]
            rfl
           refine pure_ (i := 4) (N := some 49) (v := ?_) (a' := ?_) #[true, true, true, true, true, false, false, false, false, false, false, false, false, false, false, false, false, false] rfl rfl (any_of HT_.out (by kernel_rfl)) (fun _ _ _ h => h) (Or.inl ⟨by rfl, ?_⟩) ?_ ?_; rotate_left
           ·intro w'
            go_simp
            with_reducible rfl
           rotate_left
           ·simp only [Act.put, sA, sZ, sS, i64_w, i32_w]
            rfl
           refine pure_ (i := 6) (N := some 51) (v := ?_) (a' := ?_) #[true, true, true, true, true, false, true, false, false, false, false, false, false, false, false, false, false, false] rfl rfl (any_of HT_.out (by kernel_rfl)) (fun _ _ _ h => h) (Or.inl ⟨by rfl, ?_⟩) ?_ ?_; rotate_left
           ·intro w'
            go_simp
            with_reducible rfl
           rotate_left
           ·simp only [Act.put, sA, sZ, sS, i64_w, i32_w]
            rfl
           refine pure_ (i := 7) (N := some 52) (v := ?_) (a' := ?_) #[true, true, true, true, true, false, true, true, false, false, false, false, false, false, false, false, false, false] rfl rfl (any_of HT_.out (by kernel_rfl)) (fun _ _ _ h => h) (Or.inl ⟨by rfl, ?_⟩) ?_ ?_; rotate_left
           ·intro w'
            go_simp
            with_reducible rfl
           rotate_left
           ·simp only [Act.put, sA, sZ, sS, i64_w, i32_w]
            rfl
           refine pure_ (i := 8) (N := some 53) (v := ?_) (a' := ?_) #[true, true, true, true, true, false, true, true, true, false, false, false, false, false, false, false, false, false] rfl rfl (any_of HT_.out (by kernel_rfl)) (fun _ _ _ h => h) (Or.inl ⟨by rfl, ?_⟩) ?_ ?_; rotate_left
           ·intro w'
            go_simp
            with_reducible rfl
           rotate_left
           ·simp only [Act.put, sA, sZ, sS, i64_w, i32_w]
            rfl
           refine pure_ (i := 9) (N := some 54) (v := ?_) (a' := ?_) #[true, true, true, true, true, false, true, true, true, true, false, false, false, false, false, false, false, false] rfl rfl (any_of HT_.out (by kernel_rfl)) (fun _ _ _ h => h) (Or.inl ⟨by rfl, ?_⟩) ?_ ?_; rotate_left
           ·intro w'
            go_simp
            with_reducible rfl
           rotate_left
           ·simp only [Act.put, sA, sZ, sS, i64_w, i32_w]
            rfl
           refine pure_ (i := 12) (N := some 57) (v := ?_) (a' := ?_) #[true, true, true, true, true, false, true, true, true, true, false, false, true, false, false, false, false, false] rfl rfl (any_of HT_.out (by kernel_rfl)) (fun _ _ _ h => h) (Or.inl ⟨by rfl, ?_⟩) ?_ ?_; rotate_left
           ·intro w'
            go_simp
            with_reducible rfl
           rotate_left
           ·simp only [Act.put, sA, sZ, sS, i64_w, i32_w]
            rfl
           refine pure_ (i := 13) (N := some 58) (v := ?_) (a' := ?_) #[true, true, true, true, true, false, true, true, true, true, false, false, true, true, false, false, false, false] rfl rfl (any_of HT_.out (by kernel_rfl)) (fun _ _ _ h => h) (Or.inl ⟨by rfl, ?_⟩) ?_ ?_; rotate_left
           ·intro w'
            go_simp
            with_reducible rfl
           rotate_left
           ·simp only [Act.put, sA, sZ, sS, i64_w, i32_w]
            rfl
           refine pure_ (i := 14) (N := some 59) (v := ?_) (a' := ?_) #[true, true, true, true, true, false, true, true, true, true, false, false, true, true, true, false, false, false] rfl rfl (any_of HT_.out (by kernel_rfl)) (fun _ _ _ h => h) (Or.inl ⟨by rfl, ?_⟩) ?_ ?_; rotate_left
           ·intro w'
            go_simp
            with_reducible rfl
           rotate_left
           ·simp only [Act.put, sA, sZ, sS, i64_w, i32_w]
            rfl
           refine pure_ (i := 15) (N := some 60) (v := ?_) (a' := ?_) #[true, true, true, true, true, false, true, true, true, true, false, false, true, true, true, true, false, false] rfl rfl (any_of HT_.out (by kernel_rfl)) (fun _ _ _ h => h) (Or.inl ⟨by rfl, ?_⟩) ?_ ?_; rotate_left
           ·intro w'
            go_simp
            with_reducible rfl
           rotate_left
           ·simp only [Act.put, sA, sZ, sS, i64_w, i32_w]
            rfl
           refine take_ (i := 5) (N := some 50) (v := ?_) (a' := ?_) #[true, true, true, true, true, true, true, true, true, true, false, false, true, true, true, true, false, false] rfl rfl (take_ofW HT_.out HW_.out (by kernel_rfl)) (fun _ _ _ h => h) (Or.inl ⟨by rfl, ?_⟩) hHeld ?_ ?_; rotate_left
           ·rintro w' ⟨s0, s1, s2, s3, s4, s5, s6, s7, s8⟩
            go_simp
            with_reducible rfl
           rotate_left
           ·simp only [Act.put, sA, sZ, sS, i64_w, i32_w]
            rfl
           refine take_ (i := 10) (N := some 55) (v := ?_) (a' := ?_) #[true, true, true, true, true, true, true, true, true, true, true, false, true, true, true, true, false, false] rfl rfl (take_ofW HT_.out HW_.out (by kernel_rfl)) (fun _ _ _ h => h) (Or.inl ⟨by rfl, ?_⟩) hHeld ?_ ?_; rotate_left
           ·rintro w' ⟨s0, s1, s2, s3, s4, s5, s6, s7, s8⟩
            go_simp
            with_reducible rfl
           rotate_left
           ·simp only [Act.put, sA, sZ, sS, i64_w, i32_w]
            rfl
           refine take_ (i := 16) (N := some 61) (v := ?_) (a' := ?_) #[true, true, true, true, true, true, true, true, true, true, true, false, true, true, true, true, true, false] rfl rfl (take_ofW HT_.out HW_.out (by kernel_rfl)) (fun _ _ _ h => h) (Or.inl ⟨by rfl, ?_⟩) hHeld ?_ ?_; rotate_left
           ·rintro w' ⟨s0, s1, s2, s3, s4, s5, s6, s7, s8⟩
            go_simp
            with_reducible rfl
           rotate_left
           ·simp only [Act.put, sA, sZ, sS, i64_w, i32_w]
            rfl
           refine one_ (i := 11) (N := some 56) #[true, true, true, true, true, true, true, true, true, true, true, true, true, true, true, true, true, false] rfl rfl (one_of HT_.out (by kernel_rfl)) (by decide) (fun K hK => ?_); refine goes_ Tryd.func29 (by kernel_rfl) rfl #[.slice A0 l0.length c0, .int .u64 ((rd_T128 t168 x4_1).f0), .int .i64 ((rd_T128 t168 x4_1).f1)] (by rfl) rfl rfl (by (try simp only [List.map_toArray, List.map_cons, List.map_nil]); first | done | rfl | (simp only [List.length_drop, List.length_take]; rfl)) ?_
           with_reducible refine (shackleref04_num.calls kj11 _ _ l0 ((rd_T128 t168 x4_1).f0) ((rd_T128 t168 x4_1).f1) t182 _ ?side1 ?side2 A32.out).mono ?_
           (case side1 => repeat (first | exact (Kd.C_below HR0.out HB.out) | (with_reducible refine cA ?_ _) | (with_reducible refine cN ?_ _) | (with_reducible refine cD ?_)))
           (case side2 => exact HC0.out)
           rintro e w38 ⟨rfl, hb⟩; have HS0_ := (hb.cell (World.block_lt_of_cell? _ _ (hHeld.1))).trans (hHeld.1); have HS1_ := (hb.cell (World.block_lt_of_cell? _ _ (hHeld.2.1))).trans (hHeld.2.1); have HS2_ := (hb.cell (World.block_lt_of_cell? _ _ (hHeld.2.2.1))).trans (hHeld.2.2.1); have HS3_ := (hb.cell (World.block_lt_of_cell? _ _ (hHeld.2.2.2.1))).trans (hHeld.2.2.2.1); have HS4_ := (hb.cell (World.block_lt_of_cell? _ _ (hHeld.2.2.2.2.1))).trans (hHeld.2.2.2.2.1); have HS5_ := (hb.cell (World.block_lt_of_cell? _ _ (hHeld.2.2.2.2.2.1))).trans (hHeld.2.2.2.2.2.1); have HS6_ := (hb.cell (World.block_lt_of_cell? _ _ (hHeld.2.2.2.2.2.2.1))).trans (hHeld.2.2.2.2.2.2.1); have HS7_ := (hb.cell (World.block_lt_of_cell? _ _ (hHeld.2.2.2.2.2.2.2.1))).trans (hHeld.2.2.2.2.2.2.2.1); have HS8_ := (hb.cell (World.block_lt_of_cell? _ _ (hHeld.2.2.2.2.2.2.2.2))).trans (hHeld.2.2.2.2.2.2.2.2); refine ⟨_, rfl, ?_⟩; have n0_ := aM (Kd.R_below (by (with_reducible repeat (first | apply rA | apply rN | apply rD)); exact HO_3.out) hb); have n1_ := aM (blk_below (by (with_reducible repeat (first | refine kN ?_ _ | refine kD ?_ | refine kA ?_ _)); exact BK164.out) hb); have n2_ := aM (below_step (by repeat (first | (with_reducible first | exact HB.out | apply bA | apply bN | apply bD | refine below_set ?_ GE164.out) | exact HB.out)) hb); clear HO_3; clear BK164; clear HB; have HO_3 := n0_; have BK164 := n1_; have HB := n2_; clear n0_ n1_ n2_
           (try clear hb)
           (try clear hb2)
           (try clear hk)
           (try clear hi)
           refine hK.out _ _ ⟨HS0_, HS1_, HS2_, HS3_, HS4_, HS5_, HS6_, HS7_, HS8_⟩ (fun hHeld => ?_); clear hK K; refine norm_ (a' := ?_) ?_ ?_; rotate_left
           ·show Act.put _ (some 56) _ = _
            simp only [Act.put, sA, sZ, sS, i64_w, i32_w]
            rfl
           refine pure_ (i := 17) (N := some 62) (v := ?_) (a' := ?_) #[true, true, true, true, true, true, true, true, true, true, true, true, true, true, true, true, true, true] rfl rfl (any_of HT_.out (by kernel_rfl)) (fun _ _ _ h => h) (Or.inl ⟨by rfl, ?_⟩) ?_ ?_; rotate_left
           ·intro w'
            go_simp
            with_reducible rfl
           rotate_left
           ·simp only [Act.put, sA, sZ, sS, i64_w, i32_w]
            rfl
           refine done_ (done_of HT_.out (by kernel_rfl)) ?_; have p184 : 0 ≤ (x4_1 : Int) := of_decide_eq_true (by first | (with_reducible assumption) | assumption); have q184 : x4_1 < (t168.length : Int) := of_decide_eq_true (by first | (with_reducible assumption) | assumption); obtain ⟨ad184, e184, hx184_0, hx184_1, hx184_2⟩ := at_T128 (Kd.R_reads' HO_3.out).2.2 x4_1 p184 q184; obtain rfl : ad171 = ad184 := (by injection e184); replace p184 := eq_true p184; replace q184 := eq_true q184
           try go_wp2_with (first | ((with_reducible refine gate_callee (f := 30) rfl ?_); refine goesL_ (some 68) rfl rfl Tryd.func30 (by kernel_rfl) rfl #[.int .i64 3, .int .u64 ((rd_T128 t168 x4_1).f0)] rfl (by (try simp only [List.map_toArray, List.map_cons, List.map_nil]); first | done | rfl | (simp only [List.length_drop, List.length_take]; rfl)) ?_; (with_reducible refine (shackleref04_at.calls 3 ((rd_T128 t168 x4_1).f0) t185 t186 t187 _ A36.out).mono ?_); rintro e w39 ⟨rfl, hb⟩; refine ⟨_, rfl, ?_⟩; replace HO_3 := aM (Kd.R_below (by (with_reducible repeat (first | apply rA | apply rN | apply rD)); exact HO_3.out) hb); replace BK164 := aM (blk_below (by (with_reducible repeat (first | refine kN ?_ _ | refine kD ?_ | refine kA ?_ _)); exact BK164.out) hb); replace HB := aM (below_step (by repeat (first | (with_reducible first | exact HB.out | apply bA | apply bN | apply bD | refine below_set ?_ GE164.out) | exact HB.out)) hb); (try clear hb); (try clear hb2); (try clear hk); (try clear hi); obtain ⟨hcz40_0, hcz40_1, hcz40_2, hfz40_0, hfz40_1, hfz40_2⟩ := bx3 BK164.out))
           refine bodyPost_ret (results_cell_row rfl _ _ gb164 34 #[.int .i64 t185, .bool t186, .int .u64 t187] (0, 0) _ rfl (by (with_reducible repeat (first | refine kN ?_ _ | refine kD ?_ | refine kA ?_ _)); refine blk_put (cs := #[.int .i64 t185, .bool t186, .int .u64 x165002_11]) ?_ 2 _ rfl; (with_reducible repeat (first | refine kN ?_ _ | refine kD ?_ | refine kA ?_ _)); refine blk_put (cs := #[.int .i64 t185, .bool x165001_11, .int .u64 x165002_11]) ?_ 1 _ rfl; (with_reducible repeat (first | refine kN ?_ _ | refine kD ?_ | refine kA ?_ _)); refine blk_put (cs := #[.int .i64 x165000_11, .bool x165001_11, .int .u64 x165002_11]) ?_ 0 _ rfl; (with_reducible repeat (first | refine kN ?_ _ | refine kD ?_ | refine kA ?_ _)); exact BK164.out) Tryd.underlying34 rfl (by kernel_rfl)) rfl ?_; exact ⟨by first | rfl | (simp [errW_none, errW_some] <;> rfl) | (simp [*, errW_none, errW_some] <;> rfl), by repeat (first | (with_reducible first | exact HB.out | apply bA | apply bN | apply bD | refine below_set ?_ GE164.out) | exact HB.out)⟩
         ·rw [if_neg c31] at H; exact absurd H (by simp)
        ·rw [if_neg c30] at H; exact absurd H (by simp)
     ·rw [if_neg c11] at H; exact absurd H (by simp)
    ·rw [if_neg c10] at H; have c10b0 : decide (x4_1 < (t168.length : Int)) = false := decide_eq_false c10; clear c10; simp only [Option.some.injEq, Prod.mk.injEq] at H; obtain ⟨rfl, rfl, rfl⟩ := H; obtain ⟨Ao41, co41, eo41⟩ := Kd.R_slice HO_3.out; subst eo41; obtain ⟨hcz42_0, hcz42_1, hcz42_2, hfz42_0, hfz42_1, hfz42_2⟩ := bx3 BK164.out
     go_wp2
     refine bodyPost_ret (results_cell_row rfl _ _ gb164 34 #[.int .i64 0, .bool false, .int .u64 0] (0, 0) _ rfl (by (with_reducible repeat (first | refine kN ?_ _ | refine kD ?_ | refine kA ?_ _)); refine blk_put (cs := #[.int .i64 0, .bool false, .int .u64 x165002_1]) ?_ 2 _ rfl; (with_reducible repeat (first | refine kN ?_ _ | refine kD ?_ | refine kA ?_ _)); refine blk_put (cs := #[.int .i64 0, .bool x165001_1, .int .u64 x165002_1]) ?_ 1 _ rfl; (with_reducible repeat (first | refine kN ?_ _ | refine kD ?_ | refine kA ?_ _)); refine blk_put (cs := #[.int .i64 x165000_1, .bool x165001_1, .int .u64 x165002_1]) ?_ 0 _ rfl; (with_reducible repeat (first | refine kN ?_ _ | refine kD ?_ | refine kA ?_ _)); exact BK164.out) Tryd.underlying34 rfl (by kernel_rfl)) rfl ?_; exact ⟨by first | rfl | (simp [errW_none, errW_some] <;> rfl) | (simp [*, errW_none, errW_some] <;> rfl), by repeat (first | (with_reducible first | exact HB.out | apply bA | apply bN | apply bD | refine below_set ?_ GE164.out) | exact HB.out)⟩

end Go.Proofs.YtjohdgejjnbddaaDoor.PHeadReads
