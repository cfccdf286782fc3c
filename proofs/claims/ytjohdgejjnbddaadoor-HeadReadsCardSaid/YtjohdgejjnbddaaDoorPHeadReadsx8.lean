/- Printed by this session's own program (wip/tools: a turn of the kit's print) out of the translation: each Go function that the law reaches as a Lean function, and that the machine's call comes to what that function tells; no condition but what each theorem names. -/
import Derived.Test.YtjohdgejjnbddaaDoorPHeadReadsx0
import Derived.Test.YtjohdgejjnbddaaDoorPHeadReadsx7
namespace Go.Proofs.YtjohdgejjnbddaaDoor.PHeadReads
open Go.RowKit Go.Proofs.YtjohdgejjnbddaaDoorW.PrintWords Go.Proofs.YtjohdgejjnbddaaDoorW.PrintLast Go.Proofs.YtjohdgejjnbddaaDoorW.PrintMore Go.Proofs.YtjohdgejjnbddaaDoorX
attribute [local go_sem] max2_int min2_int max_two min_two max_three min_three max_four min_four   -- for this text's walks alone
set_option linter.unusedVariables false
set_option linter.unusedSimpArgs false

/-! ### shackleref01_Get: function 58 -/
def shackleref01_Get.l0 : Nat → List Int → Int → Int → Option (Int × Int)
 | 0, _, _, _ => none
 | k + 1, x9, x11, x12 => if x12 ≥ 0 then (if 0 ≤ x12 then (if x12 < (x9.length : Int) then (shackleref01_Get.l0 k x9 (IntKind.u64.wrap ((IntKind.u64.wrap (256 * x11)) + (IntKind.u64.wrap (rd x9 x12)))) (wrap64 (x12 - 1))) else (none)) else (none)) else (some (x11, 0))
def shackleref01_Get.f (k : Nat) (l0 : List Int) (a1 : Int) (a2 : Int) : Option (Int × Int) := (shackleref01_widths.f a2).bind fun t152 => (if t152 = true then ((shackleref01_Cut.f k l0 a1 (IntKind.u64.wrap (a2))).bind fun bt153 => (if bt153.2 = true then (shackleref01_Get.l0 k bt153.1 0 (wrap64 (a2 - 1))) else (some (0, 4)))) else (some (0, 1)))
theorem shackleref01_Get.mono_l : ∀ k, (∀ y0 y1 y2, LeO (shackleref01_Get.l0 k y0 y1 y2) (shackleref01_Get.l0 (k + 1) y0 y1 y2))
 | 0 => fun _ _ _ r h => by simp [shackleref01_Get.l0] at h
 | k + 1 => by
  have ih0 := shackleref01_Get.mono_l k
  ·intro y0 y1 y2
   unfold shackleref01_Get.l0
   repeat' first
   | (with_reducible exact ih0 _ _ _)
   | (with_reducible exact shackleref01_Cut.mono _ _ _ _)
   | (with_reducible exact LeO.refl _)
   | (with_reducible exact LeO.none _)
   | (with_reducible refine LeO.ite ?_ ?_)
   | (with_reducible refine LeO.bind ?_ (fun _ => ?_))
   | exact ih0 _ _ _
   | exact shackleref01_Cut.mono _ _ _ _
   | exact LeO.none _
   | refine LeO.ite ?_ ?_
   | refine LeO.bind ?_ (fun _ => ?_)
theorem shackleref01_Get.mono : ∀ a0 a1 a2 k, LeO (shackleref01_Get.f k a0 a1 a2) (shackleref01_Get.f (k + 1) a0 a1 a2) := by
 intro a0 a1 a2 k; have ih0 := shackleref01_Get.mono_l k
 unfold shackleref01_Get.f
 repeat' first
   | (with_reducible exact ih0 _ _ _)
   | (with_reducible exact shackleref01_Cut.mono _ _ _ _)
   | (with_reducible exact LeO.refl _)
   | (with_reducible exact LeO.none _)
   | (with_reducible refine LeO.ite ?_ ?_)
   | (with_reducible refine LeO.bind ?_ (fun _ => ?_))
   | exact ih0 _ _ _
   | exact shackleref01_Cut.mono _ _ _ _
   | exact LeO.none _
   | refine LeO.ite ?_ ?_
   | refine LeO.bind ?_ (fun _ => ?_)
set_option maxHeartbeats 8000000 in
set_option maxRecDepth 100000 in
theorem shackleref01_Get.calls (k : Nat) (A0 : Option Addr) (c0 : Nat) (l0 : List Int) (a1 : Int) (a2 : Int) (r1 : Int) (r2 : Int) (w : World) (hr0 : Kd.C (Kd.int .u8) w A0 l0.length l0) (hc0 : l0.length ≤ c0) (h : shackleref01_Get.f k l0 a1 a2 = some (r1, r2)) :
  Calls Tryd.prog 58 #[.slice A0 l0.length c0, .int .u64 a1, .int .i64 a2] w fun e w' => e = .returned (.tuple #[.int .u64 r1, .int .i64 r2]) ∧ Below w.heap.size w w' := by
 have HR0 := aM hr0; have HC0 := aM hc0; clear hr0 hc0; have HB := aM (Below.refl w.heap.size w); have H : ((shackleref01_widths.f a2).bind fun t152 => (if t152 = true then ((shackleref01_Cut.f k l0 a1 (IntKind.u64.wrap (a2))).bind fun bt153 => (if bt153.2 = true then (shackleref01_Get.l0 k bt153.1 0 (wrap64 (a2 - 1))) else (some (0, 4)))) else (some (0, 1)))) = some (r1, r2) := h; clear h; replace H := Option.bind_eq_some_iff.mp H; obtain ⟨t152, A40, H⟩ := H; replace H : (if t152 = true then ((shackleref01_Cut.f k l0 a1 (IntKind.u64.wrap (a2))).bind fun bt153 => (if bt153.2 = true then (shackleref01_Get.l0 k bt153.1 0 (wrap64 (a2 - 1))) else (some (0, 4)))) else (some (0, 1))) = some (r1, r2) := H; have A4 := aM A40; clear A40
 by_cases c5 : t152 = true
 ·subst c5
  have H1 : ((shackleref01_Cut.f k l0 a1 (IntKind.u64.wrap (a2))).bind fun bt153 => (if bt153.2 = true then (shackleref01_Get.l0 k bt153.1 0 (wrap64 (a2 - 1))) else (some (0, 4)))) = some (r1, r2) := by rw [if_pos rfl] at H; exact H
  clear H; have H := H1; clear H1; replace H := Option.bind_eq_some_iff.mp H; obtain ⟨⟨t153, t154⟩, A60, H⟩ := H; replace H : (if t154 = true then (shackleref01_Get.l0 k t153 0 (wrap64 (a2 - 1))) else (some (0, 4))) = some (r1, r2) := H; have A6 := aM A60; clear A60
  by_cases c7 : t154 = true
  ·subst c7
   have H1 : (shackleref01_Get.l0 k t153 0 (wrap64 (a2 - 1))) = some (r1, r2) := by rw [if_pos rfl] at H; exact H
   clear H; have H := H1; clear H1; have H' := aM H; clear H
   go_enter Tryd.func58, Tryd.ntmps58
   go_wp2_with (first | ((with_reducible refine gate_callee (f := 92) rfl ?_); refine goesL_ (some 14) rfl rfl Tryd.func92 (by kernel_rfl) rfl #[.int .i64 a2] rfl (by (try simp only [List.map_toArray, List.map_cons, List.map_nil]); first | done | rfl | (simp only [List.length_drop, List.length_take]; rfl)) ?_; (with_reducible refine (shackleref01_widths.calls a2 true _ A4.out).mono ?_); rintro e w' ⟨rfl, ⟨nd, rfl⟩⟩; refine ⟨_, rfl, ?_⟩) | ((with_reducible refine gate_callee (f := 39) rfl ?_); refine goesL_ (some 22) rfl rfl Tryd.func39 (by kernel_rfl) rfl #[.slice A0 l0.length c0, .int .u64 a1, .int .u64 (IntKind.u64.wrap (a2))] rfl (by (try simp only [List.map_toArray, List.map_cons, List.map_nil]); first | done | rfl | (simp only [List.length_drop, List.length_take]; rfl)) ?_; (with_reducible refine (shackleref01_Cut.calls k _ _ l0 a1 (IntKind.u64.wrap (a2)) t153 true _ ?side1 ?side2 A6.out).mono ?_); (case side1 => repeat (first | exact HR0.out | (with_reducible refine cA ?_ _) | (with_reducible refine cN ?_ _) | (with_reducible refine cD ?_))); (case side2 => exact HC0.out); rintro e w8 ⟨v155, rfl, ho0, hb⟩; refine ⟨_, rfl, ?_⟩; have HO156 := aM (Kd.R_lower ho0 (below_size (by repeat (first | (with_reducible first | exact HB.out | apply bA | apply bN | apply bD) | exact HB.out)))); replace HB := aM (below_step (by repeat (first | (with_reducible first | exact HB.out | apply bA | apply bN | apply bD) | exact HB.out)) hb); (try clear hb); (try clear hb2); (try clear hk); (try clear hi); (try clear ho0)))
   go_loopg [11, 12] k (fun kq v11 v12 w' => ∃ (x11_1 : Int) (x12_1 : Int), v11 = .int .u64 x11_1 ∧ v12 = .int .i64 x12_1 ∧ Aside0 (shackleref01_Get.l0 kq t153 x11_1 x12_1 = some (r1, r2)) ∧ Aside0 (kq ≤ k) ∧ Aside0 (Kd.R (Kd.int .u8) 5 w' w.heap.size (fun _ => True) v155 t153) ∧ Aside0 (Below w.heap.size w w'))
   case atStart => exact ⟨(0), (wrap64 (a2 - 1)), (by first | rfl | (simp; done) | (simp [*]; done)), (by first | rfl | (simp; done) | (simp [*]; done)), H', ⟨Nat.le_refl _⟩, ⟨by (with_reducible repeat (first | apply rA | apply rN | apply rD)); exact HO156.out⟩, ⟨by repeat (first | (with_reducible first | exact HB.out | apply bA | apply bN | apply bD) | exact HB.out)⟩⟩
   case round =>
    clear H'
    try clear p2
    try clear c3
    try clear c5
    try clear p6
    try clear c7
    obtain ⟨x11_1, x12_1, rfl, rfl, HA, HK1, HO_9, HB⟩ := hrel
    cases gk with
    | zero => exact absurd HA.out (by simp [shackleref01_Get.l0])
    | succ k1 =>
     have H := HA.out; clear HA; simp only [shackleref01_Get.l0] at H
     by_cases c9 : x12_1 ≥ 0
     ·rw [if_pos c9] at H; have c9b0 : decide (0 ≤ x12_1) = true := decide_eq_true c9; clear c9
      by_cases c10 : 0 ≤ x12_1
      ·rw [if_pos c10] at H; have c10b0 : decide (0 ≤ x12_1) = true := decide_eq_true c10; clear c10
       by_cases c11 : x12_1 < (t153.length : Int)
       ·rw [if_pos c11] at H; have c11b0 : decide (x12_1 < (t153.length : Int)) = true := decide_eq_true c11; clear c11; have H' := aM H; clear H; obtain ⟨Ao12, co12, eo12⟩ := Kd.R_slice HO_9.out; subst eo12; have p157 : 0 ≤ (x12_1 : Int) := of_decide_eq_true (by first | (with_reducible assumption) | assumption); have q157 : x12_1 < (t153.length : Int) := of_decide_eq_true (by first | (with_reducible assumption) | assumption); obtain ⟨ad157, e157, hx157_0⟩ := Kd.at_int (Kd.R_reads' HO_9.out).2.2 x12_1 p157 q157
        cases e157
        replace p157 := eq_true p157; replace q157 := eq_true q157
        go_wp2
        go_roundg k1
        case measure => have := HK1.out; omega
        case rel => exact ⟨(IntKind.u64.wrap ((IntKind.u64.wrap (256 * x11_1)) + (IntKind.u64.wrap (rd t153 x12_1)))), (wrap64 (x12_1 - 1)), (by first | rfl | (simp; done) | (simp [*]; done)), (by first | rfl | (simp; done) | (simp [*]; done)), H', ⟨by have := HK1.out; omega⟩, ⟨by (with_reducible repeat (first | apply rA | apply rN | apply rD)); exact HO_9.out⟩, ⟨by repeat (first | (with_reducible first | exact HB.out | apply bA | apply bN | apply bD) | exact HB.out)⟩⟩
       ·rw [if_neg c11] at H; exact absurd H (by simp)
      ·rw [if_neg c10] at H; exact absurd H (by simp)
     ·rw [if_neg c9] at H; have c9b0 : decide (0 ≤ x12_1) = false := decide_eq_false c9; clear c9; simp only [Option.some.injEq, Prod.mk.injEq] at H; obtain ⟨rfl, rfl⟩ := H
      go_wp2
      go_ret2
      exact ⟨by first | rfl | (simp [errW_none, errW_some] <;> rfl) | (simp [*, errW_none, errW_some] <;> rfl), by repeat (first | (with_reducible first | exact HB.out | apply bA | apply bN | apply bD) | exact HB.out)⟩
  ·replace c7 := Bool.eq_false_iff.mpr c7; subst c7
   have H1 : (some (0, 4)) = some (r1, r2) := by rw [if_neg (show ¬ (false = true) by decide)] at H; exact H
   clear H; have H := H1; clear H1; simp only [Option.some.injEq, Prod.mk.injEq] at H; obtain ⟨rfl, rfl⟩ := H
   go_enter Tryd.func58, Tryd.ntmps58
   go_wp2_with (first | ((with_reducible refine gate_callee (f := 92) rfl ?_); refine goesL_ (some 14) rfl rfl Tryd.func92 (by kernel_rfl) rfl #[.int .i64 a2] rfl (by (try simp only [List.map_toArray, List.map_cons, List.map_nil]); first | done | rfl | (simp only [List.length_drop, List.length_take]; rfl)) ?_; (with_reducible refine (shackleref01_widths.calls a2 true _ A4.out).mono ?_); rintro e w' ⟨rfl, ⟨nd, rfl⟩⟩; refine ⟨_, rfl, ?_⟩) | ((with_reducible refine gate_callee (f := 39) rfl ?_); refine goesL_ (some 22) rfl rfl Tryd.func39 (by kernel_rfl) rfl #[.slice A0 l0.length c0, .int .u64 a1, .int .u64 (IntKind.u64.wrap (a2))] rfl (by (try simp only [List.map_toArray, List.map_cons, List.map_nil]); first | done | rfl | (simp only [List.length_drop, List.length_take]; rfl)) ?_; (with_reducible refine (shackleref01_Cut.calls k _ _ l0 a1 (IntKind.u64.wrap (a2)) t153 false _ ?side1 ?side2 A6.out).mono ?_); (case side1 => repeat (first | exact HR0.out | (with_reducible refine cA ?_ _) | (with_reducible refine cN ?_ _) | (with_reducible refine cD ?_))); (case side2 => exact HC0.out); rintro e w13 ⟨v155, rfl, ho0, hb⟩; refine ⟨_, rfl, ?_⟩; have HO156 := aM (Kd.R_lower ho0 (below_size (by repeat (first | (with_reducible first | exact HB.out | apply bA | apply bN | apply bD) | exact HB.out)))); replace HB := aM (below_step (by repeat (first | (with_reducible first | exact HB.out | apply bA | apply bN | apply bD) | exact HB.out)) hb); (try clear hb); (try clear hb2); (try clear hk); (try clear hi); (try clear ho0)))
   go_ret2
   exact ⟨by first | rfl | (simp [errW_none, errW_some] <;> rfl) | (simp [*, errW_none, errW_some] <;> rfl), by repeat (first | (with_reducible first | exact HB.out | apply bA | apply bN | apply bD) | exact HB.out)⟩
 ·replace c5 := Bool.eq_false_iff.mpr c5; subst c5
  have H1 : (some (0, 1)) = some (r1, r2) := by rw [if_neg (show ¬ (false = true) by decide)] at H; exact H
  clear H; have H := H1; clear H1; simp only [Option.some.injEq, Prod.mk.injEq] at H; obtain ⟨rfl, rfl⟩ := H
  go_enter Tryd.func58, Tryd.ntmps58
  go_wp2_with (first | ((with_reducible refine gate_callee (f := 92) rfl ?_); refine goesL_ (some 14) rfl rfl Tryd.func92 (by kernel_rfl) rfl #[.int .i64 a2] rfl (by (try simp only [List.map_toArray, List.map_cons, List.map_nil]); first | done | rfl | (simp only [List.length_drop, List.length_take]; rfl)) ?_; (with_reducible refine (shackleref01_widths.calls a2 false _ A4.out).mono ?_); rintro e w' ⟨rfl, ⟨nd, rfl⟩⟩; refine ⟨_, rfl, ?_⟩))
  go_ret2
  exact ⟨by first | rfl | (simp [errW_none, errW_some] <;> rfl) | (simp [*, errW_none, errW_some] <;> rfl), by repeat (first | (with_reducible first | exact HB.out | apply bA | apply bN | apply bD) | exact HB.out)⟩

/-! ### shackleref04_num: function 29 -/
def shackleref04_num.f (k : Nat) (l0 : List Int) (a1 : Int) (a2 : Int) : Option (Int) := (shackleref01_Get.f k l0 a1 a2).bind fun bt158 => (some bt158.1)
theorem shackleref04_num.mono : ∀ a0 a1 a2 k, LeO (shackleref04_num.f k a0 a1 a2) (shackleref04_num.f (k + 1) a0 a1 a2) := by
 intro a0 a1 a2 k
 unfold shackleref04_num.f
 repeat' first
   | (with_reducible exact shackleref01_Get.mono _ _ _ _)
   | (with_reducible exact LeO.refl _)
   | (with_reducible exact LeO.none _)
   | (with_reducible refine LeO.ite ?_ ?_)
   | (with_reducible refine LeO.bind ?_ (fun _ => ?_))
   | exact shackleref01_Get.mono _ _ _ _
   | exact LeO.none _
   | refine LeO.ite ?_ ?_
   | refine LeO.bind ?_ (fun _ => ?_)
set_option maxHeartbeats 8000000 in
set_option maxRecDepth 100000 in
theorem shackleref04_num.calls (k : Nat) (A0 : Option Addr) (c0 : Nat) (l0 : List Int) (a1 : Int) (a2 : Int) (r : Int) (w : World) (hr0 : Kd.C (Kd.int .u8) w A0 l0.length l0) (hc0 : l0.length ≤ c0) (h : shackleref04_num.f k l0 a1 a2 = some r) :
  Calls Tryd.prog 29 #[.slice A0 l0.length c0, .int .u64 a1, .int .i64 a2] w fun e w' => e = .returned (.int .u64 r) ∧ Below w.heap.size w w' := by
 have HR0 := aM hr0; have HC0 := aM hc0; clear hr0 hc0; have HB := aM (Below.refl w.heap.size w); have H : ((shackleref01_Get.f k l0 a1 a2).bind fun bt158 => (some bt158.1)) = some r := h; clear h; replace H := Option.bind_eq_some_iff.mp H; obtain ⟨⟨t158, t159⟩, A40, H⟩ := H; replace H : (some t158) = some r := H; have A4 := aM A40; clear A40; obtain rfl := Option.some.inj H
 go_enter Tryd.func29, Tryd.ntmps29
 go_wp2_with (first | ((with_reducible refine gate_callee (f := 58) rfl ?_); refine goesL_ (some 13) rfl rfl Tryd.func58 (by kernel_rfl) rfl #[.slice A0 l0.length c0, .int .u64 a1, .int .i64 a2] rfl (by (try simp only [List.map_toArray, List.map_cons, List.map_nil]); first | done | rfl | (simp only [List.length_drop, List.length_take]; rfl)) ?_; (with_reducible refine (shackleref01_Get.calls k _ _ l0 a1 a2 t158 t159 _ ?side1 ?side2 A4.out).mono ?_); (case side1 => repeat (first | exact HR0.out | (with_reducible refine cA ?_ _) | (with_reducible refine cN ?_ _) | (with_reducible refine cD ?_))); (case side2 => exact HC0.out); rintro e w5 ⟨rfl, hb⟩; refine ⟨_, rfl, ?_⟩; replace HB := aM (below_step (by repeat (first | (with_reducible first | exact HB.out | apply bA | apply bN | apply bD) | exact HB.out)) hb); (try clear hb); (try clear hb2); (try clear hk); (try clear hi)))
 go_ret
 exact ⟨by first | rfl | (simp [errW_none, errW_some] <;> rfl) | (simp [*, errW_none, errW_some] <;> rfl), by repeat (first | (with_reducible first | exact HB.out | apply bA | apply bN | apply bD) | exact HB.out)⟩

/-! ### shackleref04_at: function 30 -/
def shackleref04_at.f (a0 : Int) (a1 : Int) : Option (Int × Bool × Int) := some (a0, true, a1)
set_option maxHeartbeats 8000000 in
set_option maxRecDepth 100000 in
theorem shackleref04_at.calls (a0 : Int) (a1 : Int) (r1 : Int) (r2 : Bool) (r3 : Int) (w : World) (h : shackleref04_at.f a0 a1 = some (r1, r2, r3)) :
  Calls Tryd.prog 30 #[.int .i64 a0, .int .u64 a1] w fun e w' => e = .returned (.agg #[.int .i64 r1, .bool r2, .int .u64 r3]) ∧ Below w.heap.size w w' := by
 have hu34 := Tryd.underlying34; have HB := aM (Below.refl w.heap.size w); have H : (some (a0, true, a1)) = some (r1, r2, r3) := h; clear h; simp only [Option.some.injEq, Prod.mk.injEq] at H; obtain ⟨rfl, rfl, rfl⟩ := H
 go_enter Tryd.func30, Tryd.ntmps30
 go_wp2_with (first | ((with_reducible refine gate_dst (N := 4) rfl ?_); refine box_event ?hg (N := 4) ?hd (cs := #[.int .i64 0, .bool false, .int .u64 0]) (t := 34) ?hr ?_; (case hd => rfl); (case hg => rfl); (case hr => first | (go_simp; done) | (go_simp; rfl)); intro gb160 hg w3 hbox hb; have BK160 := aM (hbox); have GW160 := aM ((by rw [hg]; exact (below_size (by repeat (first | (with_reducible first | exact HB.out | apply bA | apply bN | apply bD) | exact HB.out))) : w.heap.size ≤ gb160)); have GE160 := aM ((by rw [hg]; exact (below_size (by repeat (first | (with_reducible first | exact HB.out | apply bA | apply bN | apply bD) | exact HB.out))) : w.heap.size ≤ gb160)); replace HB := aM (below_step (by repeat (first | (with_reducible first | exact HB.out | apply bA | apply bN | apply bD) | exact HB.out)) hb); clear hb hbox hg; obtain ⟨hcz4_0, hcz4_1, hcz4_2, hfz4_0, hfz4_1, hfz4_2⟩ := bx3 BK160.out))
 refine bodyPost_ret (results_cell_row rfl _ _ gb160 34 #[.int .i64 a0, .bool true, .int .u64 a1] (0, 0) _ rfl (by (with_reducible repeat (first | refine kN ?_ _ | refine kD ?_ | refine kA ?_ _)); refine blk_put (cs := #[.int .i64 a0, .bool true, .int .u64 0]) ?_ 2 _ rfl; (with_reducible repeat (first | refine kN ?_ _ | refine kD ?_ | refine kA ?_ _)); refine blk_put (cs := #[.int .i64 a0, .bool false, .int .u64 0]) ?_ 1 _ rfl; (with_reducible repeat (first | refine kN ?_ _ | refine kD ?_ | refine kA ?_ _)); refine blk_put (cs := #[.int .i64 0, .bool false, .int .u64 0]) ?_ 0 _ rfl; (with_reducible repeat (first | refine kN ?_ _ | refine kD ?_ | refine kA ?_ _)); exact BK160.out) Tryd.underlying34 rfl (by kernel_rfl)) rfl ?_; exact ⟨by first | rfl | (simp [errW_none, errW_some] <;> rfl) | (simp [*, errW_none, errW_some] <;> rfl), by repeat (first | (with_reducible first | exact HB.out | apply bA | apply bN | apply bD | refine below_set ?_ GE160.out) | exact HB.out)⟩

/-! ### shackleref04_fixed: function 57 -/
def shackleref04_fixed.f  : Option ((List (S128))) := some (([(⟨0, 1, 127⟩ : S128), (⟨1, 1, 69⟩ : S128), (⟨2, 1, 76⟩ : S128), (⟨3, 1, 70⟩ : S128), (⟨4, 1, 2⟩ : S128), (⟨5, 1, 1⟩ : S128), (⟨6, 1, 1⟩ : S128), (⟨18, 2, 62⟩ : S128), (⟨20, 4, 1⟩ : S128), (⟨52, 2, 64⟩ : S128), (⟨54, 2, 56⟩ : S128)] : List (S128)))
set_option maxHeartbeats 8000000 in
set_option maxRecDepth 100000 in
theorem shackleref04_fixed.calls  (r : List (S128)) (w : World) (h : shackleref04_fixed.f  = some r) :
  Calls Tryd.prog 57 #[] w fun e w' => ∃ v0_ : Value, e = .returned (v0_) ∧ Kd.R k128 128 w' w.heap.size (fun _ => True) v0_ r ∧ Below w.heap.size w w' := by
 have hu128 := Tryd.underlying128; have HB := aM (Below.refl w.heap.size w); have H : (some (([(⟨0, 1, 127⟩ : S128), (⟨1, 1, 69⟩ : S128), (⟨2, 1, 76⟩ : S128), (⟨3, 1, 70⟩ : S128), (⟨4, 1, 2⟩ : S128), (⟨5, 1, 1⟩ : S128), (⟨6, 1, 1⟩ : S128), (⟨18, 2, 62⟩ : S128), (⟨20, 4, 1⟩ : S128), (⟨52, 2, 64⟩ : S128), (⟨54, 2, 56⟩ : S128)] : List (S128)))) = some r := h; clear h; obtain ⟨y161, hy161⟩ : ∃ y_ : List (S128), y_ = (([(⟨0, 1, 127⟩ : S128), (⟨1, 1, 69⟩ : S128), (⟨2, 1, 76⟩ : S128), (⟨3, 1, 70⟩ : S128), (⟨4, 1, 2⟩ : S128), (⟨5, 1, 1⟩ : S128), (⟨6, 1, 1⟩ : S128), (⟨18, 2, 62⟩ : S128), (⟨20, 4, 1⟩ : S128), (⟨52, 2, 64⟩ : S128), (⟨54, 2, 56⟩ : S128)] : List (S128))) := ⟨_, rfl⟩
 replace H : (some y161) = some r := by first | (rw [hy161]; with_reducible exact H) | (have H2_ := (Option.bind_some _ _).symm.trans H; rw [hy161]; with_reducible exact H2_) | (have H2_ := (Option.bind_some _ _).symm.trans H; with_reducible exact H2_) | with_reducible exact H | (rw [hy161]; exact H) | exact H
 have Ny161 := aM hy161; clear hy161; obtain rfl := Option.some.inj H
 go_enter Tryd.func57, Tryd.ntmps57
 go_wp2_with (first | ((with_reducible refine gate_dst (N := 12) rfl ?_); refine Kd.R_lit k128 _ 128 ?hg (N := 12) ?hd (xs := ([(⟨0, 1, 127⟩ : S128), (⟨1, 1, 69⟩ : S128), (⟨2, 1, 76⟩ : S128), (⟨3, 1, 70⟩ : S128), (⟨4, 1, 2⟩ : S128), (⟨5, 1, 1⟩ : S128), (⟨6, 1, 1⟩ : S128), (⟨18, 2, 62⟩ : S128), (⟨20, 4, 1⟩ : S128), (⟨52, 2, 64⟩ : S128), (⟨54, 2, 56⟩ : S128)] : List (S128))) (inner := [.int .u64 0, .int .i64 1, .int .u64 127, .int .u64 1, .int .i64 1, .int .u64 69, .int .u64 2, .int .i64 1, .int .u64 76, .int .u64 3, .int .i64 1, .int .u64 70, .int .u64 4, .int .i64 1, .int .u64 2, .int .u64 5, .int .i64 1, .int .u64 1, .int .u64 6, .int .i64 1, .int .u64 1, .int .u64 18, .int .i64 2, .int .u64 62, .int .u64 20, .int .i64 4, .int .u64 1, .int .u64 52, .int .i64 2, .int .u64 64, .int .u64 54, .int .i64 2, .int .u64 56]) (ok := fun _ => True) (okp := fun _ => True) ?hr ?hp (fun _ hk => hk) trivial (Below.refl _ _) (Nat.le_refl _) (by simp) ?_; (case hd => rfl); (case hg => rfl); (case hr => first | (go_simp; done) | (go_simp; rfl)); (case hp => exact (Reps.c3 (show Kd.M k128 _ _ _ (⟨0, 1, 127⟩ : S128) [.int .u64 0, .int .i64 1, .int .u64 127] from (k128_mkM _ _ _ (⟨0, 1, 127⟩ : S128) )) (Reps.c3 (show Kd.M k128 _ _ _ (⟨1, 1, 69⟩ : S128) [.int .u64 1, .int .i64 1, .int .u64 69] from (k128_mkM _ _ _ (⟨1, 1, 69⟩ : S128) )) (Reps.c3 (show Kd.M k128 _ _ _ (⟨2, 1, 76⟩ : S128) [.int .u64 2, .int .i64 1, .int .u64 76] from (k128_mkM _ _ _ (⟨2, 1, 76⟩ : S128) )) (Reps.c3 (show Kd.M k128 _ _ _ (⟨3, 1, 70⟩ : S128) [.int .u64 3, .int .i64 1, .int .u64 70] from (k128_mkM _ _ _ (⟨3, 1, 70⟩ : S128) )) (Reps.c3 (show Kd.M k128 _ _ _ (⟨4, 1, 2⟩ : S128) [.int .u64 4, .int .i64 1, .int .u64 2] from (k128_mkM _ _ _ (⟨4, 1, 2⟩ : S128) )) (Reps.c3 (show Kd.M k128 _ _ _ (⟨5, 1, 1⟩ : S128) [.int .u64 5, .int .i64 1, .int .u64 1] from (k128_mkM _ _ _ (⟨5, 1, 1⟩ : S128) )) (Reps.c3 (show Kd.M k128 _ _ _ (⟨6, 1, 1⟩ : S128) [.int .u64 6, .int .i64 1, .int .u64 1] from (k128_mkM _ _ _ (⟨6, 1, 1⟩ : S128) )) (Reps.c3 (show Kd.M k128 _ _ _ (⟨18, 2, 62⟩ : S128) [.int .u64 18, .int .i64 2, .int .u64 62] from (k128_mkM _ _ _ (⟨18, 2, 62⟩ : S128) )) (Reps.c3 (show Kd.M k128 _ _ _ (⟨20, 4, 1⟩ : S128) [.int .u64 20, .int .i64 4, .int .u64 1] from (k128_mkM _ _ _ (⟨20, 4, 1⟩ : S128) )) (Reps.c3 (show Kd.M k128 _ _ _ (⟨52, 2, 64⟩ : S128) [.int .u64 52, .int .i64 2, .int .u64 64] from (k128_mkM _ _ _ (⟨52, 2, 64⟩ : S128) )) (Reps.c3 (show Kd.M k128 _ _ _ (⟨54, 2, 56⟩ : S128) [.int .u64 54, .int .i64 2, .int .u64 56] from (k128_mkM _ _ _ (⟨54, 2, 56⟩ : S128) )) (Reps.none _ _))))))))))))); intro v162 w1 ho2 hb hg_ hnew_; clear hg_ hnew_; (first | rw [← Ny161.out] at ho2 | (simp only [Int.reduceToNat] at ho2; rw [← Ny161.out] at ho2)); have HO163 := aM (Kd.R_lower ho2 (below_size (by repeat (first | (with_reducible first | exact HB.out | apply bA | apply bN | apply bD) | exact HB.out)))); replace HB := aM (below_step (by repeat (first | (with_reducible first | exact HB.out | apply bA | apply bN | apply bD) | exact HB.out)) hb); clear hb ho2))
 go_ret
 exact ⟨_, by first | rfl | (simp [errW_none, errW_some] <;> rfl) | (simp [*, errW_none, errW_some] <;> rfl), by (with_reducible repeat (first | apply rA | apply rN | apply rD)); exact HO163.out, by repeat (first | (with_reducible first | exact HB.out | apply bA | apply bN | apply bD) | exact HB.out)⟩

end Go.Proofs.YtjohdgejjnbddaaDoor.PHeadReads
