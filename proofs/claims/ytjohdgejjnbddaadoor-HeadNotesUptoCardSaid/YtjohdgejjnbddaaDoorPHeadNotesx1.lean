/- Printed by this session's own program (wip/tools: a turn of the kit's print) out of the translation: each Go function that the law reaches as a Lean function, and that the machine's call comes to what that function tells; no condition but what each theorem names. -/
import Derived.Test.YtjohdgejjnbddaaDoorPHeadNotesx0
namespace Go.Proofs.YtjohdgejjnbddaaDoor.PHeadNotes
open Go.RowKit Go.Proofs.YtjohdgejjnbddaaDoorW.PrintWords Go.Proofs.YtjohdgejjnbddaaDoorW.PrintLast Go.Proofs.YtjohdgejjnbddaaDoorW.PrintMore Go.Proofs.YtjohdgejjnbddaaDoorX
attribute [local go_sem] max2_int min2_int max_two min_two max_three min_three max_four min_four   -- for this text's walks alone
set_option linter.unusedVariables false
set_option linter.unusedSimpArgs false

/-! ### span_In: function 56 -/
def span_In.f (a0 : Int) (a1 : Int) (a2 : Int) : Option (Bool) := if a1 ≤ a0 then (some (decide (a2 ≤ (IntKind.u64.wrap (a0 - a1))))) else (some false)
set_option maxHeartbeats 8000000 in
set_option maxRecDepth 100000 in
theorem span_In.calls (a0 : Int) (a1 : Int) (a2 : Int) (r : Bool) (w : World) (h : span_In.f a0 a1 a2 = some r) :
  Calls Tryd.prog 56 #[.int .u64 a0, .int .u64 a1, .int .u64 a2] w fun e w' => e = .returned (.bool r) ∧ Drawn0 w w' := by
 have H : (if a1 ≤ a0 then (some (decide (a2 ≤ (IntKind.u64.wrap (a0 - a1))))) else (some false)) = some r := h; clear h
 by_cases c4 : a1 ≤ a0
 ·rw [if_pos c4] at H; have c4b0 : decide (a1 ≤ a0) = true := decide_eq_true c4; clear c4; obtain rfl := Option.some.inj H
  go_enter Tryd.func56, Tryd.ntmps56
  go_wp2
  go_ret
  exact ⟨by first | rfl | (simp; done) | (simp [*]; done), by repeat (first | exact Drawn0.refl _ | apply Drawn0.step)⟩
 ·rw [if_neg c4] at H; have c4b0 : decide (a1 ≤ a0) = false := decide_eq_false c4; clear c4; obtain rfl := Option.some.inj H
  go_enter Tryd.func56, Tryd.ntmps56
  go_wp2
  go_ret
  exact ⟨by first | rfl | (simp; done) | (simp [*]; done), by repeat (first | exact Drawn0.refl _ | apply Drawn0.step)⟩

/-! ### span_wide: function 88 -/
def span_wide.f (a0 : Int) : Option (Bool) := if a0 = 1 then (some true) else (if a0 = 2 then (some true) else (if a0 = 4 then (some true) else (if a0 = 8 then (some true) else (some false))))
set_option maxHeartbeats 8000000 in
set_option maxRecDepth 100000 in
theorem span_wide.calls (a0 : Int) (r : Bool) (w : World) (h : span_wide.f a0 = some r) :
  Calls Tryd.prog 88 #[.int .i64 a0] w fun e w' => e = .returned (.bool r) ∧ Drawn0 w w' := by
 have H : (if a0 = 1 then (some true) else (if a0 = 2 then (some true) else (if a0 = 4 then (some true) else (if a0 = 8 then (some true) else (some false))))) = some r := h; clear h
 by_cases c2 : a0 = 1
 ·rw [if_pos c2] at H; have c2b0 : (a0 == 1) = true := beq_iff_eq.mpr c2; have c2b1 : (a0 != 1) = false := bne_eq_false_iff_eq.mpr c2; clear c2; obtain rfl := Option.some.inj H
  go_enter Tryd.func88, Tryd.ntmps88
  go_wp2
  go_ret
  exact ⟨by first | rfl | (simp; done) | (simp [*]; done), by repeat (first | exact Drawn0.refl _ | apply Drawn0.step)⟩
 ·rw [if_neg c2] at H; have c2b0 : (a0 == 1) = false := beq_eq_false_iff_ne.mpr c2; have c2b1 : (a0 != 1) = true := bne_iff_ne.mpr c2
  by_cases c3 : a0 = 2
  ·rw [if_pos c3] at H; have c3b0 : (a0 == 2) = true := beq_iff_eq.mpr c3; have c3b1 : (a0 != 2) = false := bne_eq_false_iff_eq.mpr c3; clear c3; obtain rfl := Option.some.inj H
   go_enter Tryd.func88, Tryd.ntmps88
   go_wp2
   go_ret
   exact ⟨by first | rfl | (simp; done) | (simp [*]; done), by repeat (first | exact Drawn0.refl _ | apply Drawn0.step)⟩
  ·rw [if_neg c3] at H; have c3b0 : (a0 == 2) = false := beq_eq_false_iff_ne.mpr c3; have c3b1 : (a0 != 2) = true := bne_iff_ne.mpr c3
   by_cases c4 : a0 = 4
   ·rw [if_pos c4] at H; have c4b0 : (a0 == 4) = true := beq_iff_eq.mpr c4; have c4b1 : (a0 != 4) = false := bne_eq_false_iff_eq.mpr c4; clear c4; obtain rfl := Option.some.inj H
    go_enter Tryd.func88, Tryd.ntmps88
    go_wp2
    go_ret
    exact ⟨by first | rfl | (simp; done) | (simp [*]; done), by repeat (first | exact Drawn0.refl _ | apply Drawn0.step)⟩
   ·rw [if_neg c4] at H; have c4b0 : (a0 == 4) = false := beq_eq_false_iff_ne.mpr c4; have c4b1 : (a0 != 4) = true := bne_iff_ne.mpr c4
    by_cases c5 : a0 = 8
    ·rw [if_pos c5] at H; have c5b0 : (a0 == 8) = true := beq_iff_eq.mpr c5; have c5b1 : (a0 != 8) = false := bne_eq_false_iff_eq.mpr c5; clear c5; obtain rfl := Option.some.inj H
     go_enter Tryd.func88, Tryd.ntmps88
     go_wp2
     go_ret
     exact ⟨by first | rfl | (simp; done) | (simp [*]; done), by repeat (first | exact Drawn0.refl _ | apply Drawn0.step)⟩
    ·rw [if_neg c5] at H; have c5b0 : (a0 == 8) = false := beq_eq_false_iff_ne.mpr c5; have c5b1 : (a0 != 8) = true := bne_iff_ne.mpr c5; obtain rfl := Option.some.inj H
     go_enter Tryd.func88, Tryd.ntmps88
     go_wp2
     go_ret
     exact ⟨by first | rfl | (simp; done) | (simp [*]; done), by repeat (first | exact Drawn0.refl _ | apply Drawn0.step)⟩

/-! ### span_Get: function 51 -/
def span_Get.l0 : Nat → List Int → Int → Int → Int → Option (Int × Option Int)
 | 0, _, _, _, _ => none
 | k + 1, x0, x1, x8, x9 => if x9 ≥ 0 then (if 0 ≤ (IntKind.u64.wrap (x1 + (IntKind.u64.wrap (x9)))) then (if (IntKind.u64.wrap (x1 + (IntKind.u64.wrap (x9)))) < (x0.length : Int) then (span_Get.l0 k x0 x1 (Go.bits .or .u64 (IntKind.u64.wrap (x8 * 256)) (IntKind.u64.wrap (rd x0 (IntKind.u64.wrap (x1 + (IntKind.u64.wrap (x9))))))) (wrap64 (x9 - 1))) else (none)) else (none)) else (some (x8, none))
def span_Get.f (k : Nat) (l0 : List Int) (a1 : Int) (a2 : Int) : Option (Int × Option Int) := (span_wide.f a2).bind fun t101 => (if t101 = true then ((span_In.f (IntKind.u64.wrap ((l0.length : Int))) a1 (IntKind.u64.wrap (a2))).bind fun t102 => (if t102 = true then (span_Get.l0 k l0 a1 0 (wrap64 (a2 - 1))) else (if 0 ≤ a1 then (if a1 < 18446744073709551616 then (some (0, some (spZ a1 4))) else (none)) else (none)))) else (some (0, some 1)))
theorem span_Get.mono_l : ∀ k, (∀ y0 y1 y2 y3, LeO (span_Get.l0 k y0 y1 y2 y3) (span_Get.l0 (k + 1) y0 y1 y2 y3))
 | 0 => fun _ _ _ _ r h => by simp [span_Get.l0] at h
 | k + 1 => by
  have ih0 := span_Get.mono_l k
  ·intro y0 y1 y2 y3
   unfold span_Get.l0
   repeat' first
   | (with_reducible exact ih0 _ _ _ _)
   | (with_reducible exact LeO.refl _)
   | (with_reducible exact LeO.none _)
   | (with_reducible refine LeO.ite ?_ ?_)
   | (with_reducible refine LeO.bind ?_ (fun _ => ?_))
   | exact ih0 _ _ _ _
   | exact LeO.none _
   | refine LeO.ite ?_ ?_
   | refine LeO.bind ?_ (fun _ => ?_)
theorem span_Get.mono : ∀ a0 a1 a2 k, LeO (span_Get.f k a0 a1 a2) (span_Get.f (k + 1) a0 a1 a2) := by
 intro a0 a1 a2 k; have ih0 := span_Get.mono_l k
 unfold span_Get.f
 repeat' first
   | (with_reducible exact ih0 _ _ _ _)
   | (with_reducible exact LeO.refl _)
   | (with_reducible exact LeO.none _)
   | (with_reducible refine LeO.ite ?_ ?_)
   | (with_reducible refine LeO.bind ?_ (fun _ => ?_))
   | exact ih0 _ _ _ _
   | exact LeO.none _
   | refine LeO.ite ?_ ?_
   | refine LeO.bind ?_ (fun _ => ?_)
set_option maxHeartbeats 8000000 in
set_option maxRecDepth 100000 in
theorem span_Get.calls (k : Nat) (A0 : Option Addr) (c0 : Nat) (l0 : List Int) (a1 : Int) (a2 : Int) (r1 : Int) (r2 : Option Int) (w : World) (hr0 : Kd.C (Kd.int .u8) w A0 l0.length l0) (hc0 : l0.length ≤ c0) (h : span_Get.f k l0 a1 a2 = some (r1, r2)) :
  Calls Tryd.prog 51 #[.slice A0 l0.length c0, .int .u64 a1, .int .i64 a2] w fun e w' => ∃ ve1_ : Value, e = .returned (.tuple #[.int .u64 r1, ve1_]) ∧ ErrAt 32 103 105 w' w.heap.size r2 ve1_ ∧ Below w.heap.size w w' := by
 have hu105 := Tryd.underlying105; have hu29 := Tryd.underlying29; have hu32 := Tryd.underlying32; have HR0 := aM hr0; have HC0 := aM hc0; clear hr0 hc0; have HB := aM (Below.refl w.heap.size w); have H : ((span_wide.f a2).bind fun t101 => (if t101 = true then ((span_In.f (IntKind.u64.wrap ((l0.length : Int))) a1 (IntKind.u64.wrap (a2))).bind fun t102 => (if t102 = true then (span_Get.l0 k l0 a1 0 (wrap64 (a2 - 1))) else (if 0 ≤ a1 then (if a1 < 18446744073709551616 then (some (0, some (spZ a1 4))) else (none)) else (none)))) else (some (0, some 1)))) = some (r1, r2) := h; clear h; replace H := Option.bind_eq_some_iff.mp H; obtain ⟨t101, A40, H⟩ := H; replace H : (if t101 = true then ((span_In.f (IntKind.u64.wrap ((l0.length : Int))) a1 (IntKind.u64.wrap (a2))).bind fun t102 => (if t102 = true then (span_Get.l0 k l0 a1 0 (wrap64 (a2 - 1))) else (if 0 ≤ a1 then (if a1 < 18446744073709551616 then (some (0, some (spZ a1 4))) else (none)) else (none)))) else (some (0, some 1))) = some (r1, r2) := H; have A4 := aM A40; clear A40
 by_cases c5 : t101 = true
 ·subst c5
  have H1 : ((span_In.f (IntKind.u64.wrap ((l0.length : Int))) a1 (IntKind.u64.wrap (a2))).bind fun t102 => (if t102 = true then (span_Get.l0 k l0 a1 0 (wrap64 (a2 - 1))) else (if 0 ≤ a1 then (if a1 < 18446744073709551616 then (some (0, some (spZ a1 4))) else (none)) else (none)))) = some (r1, r2) := by rw [if_pos rfl] at H; exact H
  clear H; have H := H1; clear H1; replace H := Option.bind_eq_some_iff.mp H; obtain ⟨t102, A60, H⟩ := H; replace H : (if t102 = true then (span_Get.l0 k l0 a1 0 (wrap64 (a2 - 1))) else (if 0 ≤ a1 then (if a1 < 18446744073709551616 then (some (0, some (spZ a1 4))) else (none)) else (none))) = some (r1, r2) := H; have A6 := aM A60; clear A60
  by_cases c7 : t102 = true
  ·subst c7
   have H1 : (span_Get.l0 k l0 a1 0 (wrap64 (a2 - 1))) = some (r1, r2) := by rw [if_pos rfl] at H; exact H
   clear H; have H := H1; clear H1; have H' := aM H; clear H
   go_enter Tryd.func51, Tryd.ntmps51
   go_wp2_with (first | ((with_reducible refine gate_callee (f := 88) rfl ?_); refine goesL_ (some 11) rfl rfl Tryd.func88 (by kernel_rfl) rfl #[.int .i64 a2] rfl (by (try simp only [List.map_toArray, List.map_cons, List.map_nil]); first | done | rfl | (simp only [List.length_drop, List.length_take]; rfl)) ?_; (with_reducible refine (span_wide.calls a2 true _ A4.out).mono ?_); rintro e w' ⟨rfl, ⟨nd, rfl⟩⟩; refine ⟨_, rfl, ?_⟩) | ((with_reducible refine gate_callee (f := 56) rfl ?_); refine goesL_ (some 20) rfl rfl Tryd.func56 (by kernel_rfl) rfl #[.int .u64 (IntKind.u64.wrap ((l0.length : Int))), .int .u64 a1, .int .u64 (IntKind.u64.wrap (a2))] rfl (by (try simp only [List.map_toArray, List.map_cons, List.map_nil]); first | done | rfl | (simp only [List.length_drop, List.length_take]; rfl)) ?_; (with_reducible refine (span_In.calls (IntKind.u64.wrap ((l0.length : Int))) a1 (IntKind.u64.wrap (a2)) true _ A6.out).mono ?_); rintro e w' ⟨rfl, ⟨nd, rfl⟩⟩; refine ⟨_, rfl, ?_⟩))
   go_loopg [8, 9] k (fun kq v8 v9 w' => ∃ (x8_1 : Int) (x9_1 : Int), v8 = .int .u64 x8_1 ∧ v9 = .int .i64 x9_1 ∧ Aside0 (span_Get.l0 kq l0 a1 x8_1 x9_1 = some (r1, r2)) ∧ Aside0 (kq ≤ k) ∧ Aside0 (Below w.heap.size w w'))
   case atStart => exact ⟨(0), (wrap64 (a2 - 1)), (by first | rfl | (simp; done) | (simp [*]; done)), (by first | rfl | (simp; done) | (simp [*]; done)), H', ⟨Nat.le_refl _⟩, ⟨by repeat (first | (with_reducible first | exact HB.out | apply bA | apply bN | apply bD) | exact HB.out)⟩⟩
   case round =>
    clear H'
    try clear p2
    try clear c5
    try clear p6
    try clear c7
    obtain ⟨x8_1, x9_1, rfl, rfl, HA, HK1, HB⟩ := hrel
    cases gk with
    | zero => exact absurd HA.out (by simp [span_Get.l0])
    | succ k1 =>
     have H := HA.out; clear HA; simp only [span_Get.l0] at H
     by_cases c8 : x9_1 ≥ 0
     ·rw [if_pos c8] at H; have c8b0 : decide (0 ≤ x9_1) = true := decide_eq_true c8; clear c8; obtain ⟨ji9, hji9⟩ : ∃ j_ : Int, (IntKind.u64.wrap (a1 + (IntKind.u64.wrap (x9_1)))) = j_ := ⟨_, rfl⟩
      replace H : (if 0 ≤ (ji9) then (if (ji9) < (l0.length : Int) then (span_Get.l0 k1 l0 a1 (Go.bits .or .u64 (IntKind.u64.wrap (x8_1 * 256)) (IntKind.u64.wrap (rd l0 (ji9)))) (wrap64 (x9_1 - 1))) else (none)) else (none)) = some (r1, r2) := by first | (rw [hji9] at H; exact H) | (simp only [hji9] at H ⊢; exact H)
      by_cases c10 : 0 ≤ (ji9)
      ·rw [if_pos c10] at H; have c10b0 : decide (0 ≤ (ji9)) = true := decide_eq_true c10; clear c10
       by_cases c11 : (ji9) < (l0.length : Int)
       ·rw [if_pos c11] at H; have c11b0 : decide ((ji9) < (l0.length : Int)) = true := decide_eq_true c11; clear c11; have H' := aM H; clear H; have p104 : 0 ≤ ((ji9) : Int) := of_decide_eq_true (by first | (with_reducible assumption) | assumption); have q104 : (ji9) < (l0.length : Int) := of_decide_eq_true (by first | (with_reducible assumption) | assumption); obtain ⟨ad104, e104, hx104_0⟩ := Kd.at_int HR0.out (ji9) p104 q104
        cases e104
        replace hx104_0 := (HB.out.cell (World.block_lt_of_cell? w _ hx104_0)).trans hx104_0; replace p104 := eq_true p104; replace q104 := eq_true q104
        go_wp2
        go_roundg k1
        case measure => have := HK1.out; omega
        case rel => exact ⟨(Go.bits .or .u64 (IntKind.u64.wrap (x8_1 * 256)) (IntKind.u64.wrap (rd l0 (ji9)))), (wrap64 (x9_1 - 1)), (by first | rfl | (simp; done) | (simp only [← hji9] <;> (first | rfl | simp)) | (simp [*]; done)), (by first | rfl | (simp; done) | (simp [*]; done)), H', ⟨by have := HK1.out; omega⟩, ⟨by repeat (first | (with_reducible first | exact HB.out | apply bA | apply bN | apply bD) | exact HB.out)⟩⟩
       ·rw [if_neg c11] at H; exact absurd H (by simp)
      ·rw [if_neg c10] at H; exact absurd H (by simp)
     ·rw [if_neg c8] at H; have c8b0 : decide (0 ≤ x9_1) = false := decide_eq_false c8; clear c8; simp only [Option.some.injEq, Prod.mk.injEq] at H; obtain ⟨rfl, rfl⟩ := H
      go_wp2
      go_ret2
      exact ⟨.nilIface, by first | rfl | (simp [errW_none, errW_some] <;> rfl) | (simp [*, errW_none, errW_some] <;> rfl), ErrAt.of_none, by repeat (first | (with_reducible first | exact HB.out | apply bA | apply bN | apply bD) | exact HB.out)⟩
  ·replace c7 := Bool.eq_false_iff.mpr c7; subst c7
   have H1 : (if 0 ≤ a1 then (if a1 < 18446744073709551616 then (some (0, some (spZ a1 4))) else (none)) else (none)) = some (r1, r2) := by rw [if_neg (show ¬ (false = true) by decide)] at H; exact H
   clear H; have H := H1; clear H1
   by_cases c12 : 0 ≤ a1
   ·rw [if_pos c12] at H; have c12b0 := eq_true c12; have c12b1 : decide (0 ≤ a1) = true := decide_eq_true c12; clear c12
    by_cases c13 : a1 < 18446744073709551616
    ·rw [if_pos c13] at H; have c13b0 := eq_true c13; have c13b1 : decide (a1 < 18446744073709551616) = true := decide_eq_true c13; clear c13; simp only [Option.some.injEq, Prod.mk.injEq] at H; obtain ⟨rfl, rfl⟩ := H
     go_enter Tryd.func51, Tryd.ntmps51
     go_wp2_with (first | ((with_reducible refine gate_callee (f := 88) rfl ?_); refine goesL_ (some 11) rfl rfl Tryd.func88 (by kernel_rfl) rfl #[.int .i64 a2] rfl (by (try simp only [List.map_toArray, List.map_cons, List.map_nil]); first | done | rfl | (simp only [List.length_drop, List.length_take]; rfl)) ?_; (with_reducible refine (span_wide.calls a2 true _ A4.out).mono ?_); rintro e w' ⟨rfl, ⟨nd, rfl⟩⟩; refine ⟨_, rfl, ?_⟩) | ((with_reducible refine gate_callee (f := 56) rfl ?_); refine goesL_ (some 20) rfl rfl Tryd.func56 (by kernel_rfl) rfl #[.int .u64 (IntKind.u64.wrap ((l0.length : Int))), .int .u64 a1, .int .u64 (IntKind.u64.wrap (a2))] rfl (by (try simp only [List.map_toArray, List.map_cons, List.map_nil]); first | done | rfl | (simp only [List.length_drop, List.length_take]; rfl)) ?_; (with_reducible refine (span_In.calls (IntKind.u64.wrap ((l0.length : Int))) a1 (IntKind.u64.wrap (a2)) false _ A6.out).mono ?_); rintro e w' ⟨rfl, ⟨nd, rfl⟩⟩; refine ⟨_, rfl, ?_⟩) | ((with_reducible refine gate_dst (N := 25) rfl ?_); refine box_event ?hg (N := 25) ?hd (cs := #[.int .u64 a1, .iface 32 (.int .i64 4)]) (t := 105) ?hr ?_; (case hd => rfl); (case hg => rfl); (case hr => first | (go_simp; done) | (go_simp; rfl)); intro gb103 hg w14 hbox hb; have BK103 := aM (hbox); have GW103 := aM ((by rw [hg]; exact (below_size (by repeat (first | (with_reducible first | exact HB.out | apply bA | apply bN | apply bD) | exact HB.out))) : w.heap.size ≤ gb103)); have GE103 := aM ((by rw [hg]; exact (below_size (by repeat (first | (with_reducible first | exact HB.out | apply bA | apply bN | apply bD) | exact HB.out))) : w.heap.size ≤ gb103)); replace HB := aM (below_step (by repeat (first | (with_reducible first | exact HB.out | apply bA | apply bN | apply bD) | exact HB.out)) hb); clear hb hbox hg))
     go_ret2
     exact ⟨.iface 103 (.pointer (some ⟨gb103, 0, none⟩)), by first | rfl | (simp [errW_none, errW_some] <;> rfl) | (simp [*, errW_none, errW_some] <;> rfl), (ErrAt.of_made (by first | (with_reducible exact of_decide_eq_true (by assumption)) | exact of_decide_eq_true (by assumption) | decide | omega) (by first | (with_reducible exact of_decide_eq_true (by assumption)) | exact of_decide_eq_true (by assumption) | decide | omega) (by first | (with_reducible exact of_decide_eq_true (by assumption)) | exact of_decide_eq_true (by assumption) | decide | omega) GW103.out (by (with_reducible repeat (first | refine kN ?_ _ | refine kD ?_ | refine kA ?_ _)); exact BK103.out)), by repeat (first | (with_reducible first | exact HB.out | apply bA | apply bN | apply bD | refine below_set ?_ GE103.out) | exact HB.out)⟩
    ·rw [if_neg c13] at H; exact absurd H (by simp)
   ·rw [if_neg c12] at H; exact absurd H (by simp)
 ·replace c5 := Bool.eq_false_iff.mpr c5; subst c5
  have H1 : (some (0, some 1)) = some (r1, r2) := by rw [if_neg (show ¬ (false = true) by decide)] at H; exact H
  clear H; have H := H1; clear H1; simp only [Option.some.injEq, Prod.mk.injEq] at H; obtain ⟨rfl, rfl⟩ := H
  go_enter Tryd.func51, Tryd.ntmps51
  go_wp2_with (first | ((with_reducible refine gate_callee (f := 88) rfl ?_); refine goesL_ (some 11) rfl rfl Tryd.func88 (by kernel_rfl) rfl #[.int .i64 a2] rfl (by (try simp only [List.map_toArray, List.map_cons, List.map_nil]); first | done | rfl | (simp only [List.length_drop, List.length_take]; rfl)) ?_; (with_reducible refine (span_wide.calls a2 false _ A4.out).mono ?_); rintro e w' ⟨rfl, ⟨nd, rfl⟩⟩; refine ⟨_, rfl, ?_⟩))
  go_ret2
  exact ⟨.iface 32 (.int .i64 1), by first | rfl | (simp [errW_none, errW_some] <;> rfl) | (simp [*, errW_none, errW_some] <;> rfl), (ErrAt.of_code (by first | (with_reducible exact of_decide_eq_true (by assumption)) | exact of_decide_eq_true (by assumption) | decide | omega)), by repeat (first | (with_reducible first | exact HB.out | apply bA | apply bN | apply bD) | exact HB.out)⟩

/-! ### head_file_get: function 24 -/
def head_file_get.f (k : Nat) (l0_0 : List Int) (a1 : Int) (a2 : Int) : Option (Int) := (span_Get.f k l0_0 a1 a2).bind fun bt106 => (if bt106.2.isNone = true then (some bt106.1) else (some 0))
theorem head_file_get.mono : ∀ a0 a1 a2 k, LeO (head_file_get.f k a0 a1 a2) (head_file_get.f (k + 1) a0 a1 a2) := by
 intro a0 a1 a2 k
 unfold head_file_get.f
 repeat' first
   | (with_reducible exact span_Get.mono _ _ _ _)
   | (with_reducible exact LeO.refl _)
   | (with_reducible exact LeO.none _)
   | (with_reducible refine LeO.ite ?_ ?_)
   | (with_reducible refine LeO.bind ?_ (fun _ => ?_))
   | exact span_Get.mono _ _ _ _
   | exact LeO.none _
   | refine LeO.ite ?_ ?_
   | refine LeO.bind ?_ (fun _ => ?_)
set_option maxHeartbeats 8000000 in
set_option maxRecDepth 100000 in
theorem head_file_get.calls (k : Nat) (A0_0 : Option Addr) (c0_0 : Nat) (l0_0 : List Int) (a1 : Int) (a2 : Int) (r : Int) (w : World) (hr0_0 : Kd.C (Kd.int .u8) w A0_0 l0_0.length l0_0) (hc0_0 : l0_0.length ≤ c0_0) (h : head_file_get.f k l0_0 a1 a2 = some r) :
  Calls Tryd.prog 24 #[.agg #[.slice A0_0 l0_0.length c0_0], .int .u64 a1, .int .i64 a2] w fun e w' => e = .returned (.int .u64 r) ∧ Below w.heap.size w w' := by
 have hu70 := Tryd.underlying70; have hu29 := Tryd.underlying29; have hu32 := Tryd.underlying32; have HR0_0 := aM hr0_0; have HC0_0 := aM hc0_0; clear hr0_0 hc0_0; have HB := aM (Below.refl w.heap.size w); have H : ((span_Get.f k l0_0 a1 a2).bind fun bt106 => (if bt106.2.isNone = true then (some bt106.1) else (some 0))) = some r := h; clear h; replace H := Option.bind_eq_some_iff.mp H; obtain ⟨⟨t106, t107⟩, A40, H⟩ := H; replace H : (if t107.isNone = true then (some t106) else (some 0)) = some r := H; have A4 := aM A40; clear A40
 rcases t107 with _ | q110
 ·have H1 : (some t106) = some r := by rw [if_pos (show (none : Option Int).isNone = true by rfl)] at H; exact H
  clear H; have H := H1; clear H1
  try simp only [errW_none, errW_some]
  obtain rfl := Option.some.inj H
  go_enter Tryd.func24, Tryd.ntmps24
  go_wp2_with (first | ((with_reducible refine gate_dst (N := 3) rfl ?_); refine box_event ?hg (N := 3) ?hd (cs := #[.slice A0_0 l0_0.length c0_0]) (t := 70) ?hr ?_; (case hd => rfl); (case hg => rfl); (case hr => first | (go_simp; done) | (go_simp; rfl)); intro gb105 hg w5 hbox hb; have BK105 := aM (hbox); have GW105 := aM ((by rw [hg]; exact (below_size (by repeat (first | (with_reducible first | exact HB.out | apply bA | apply bN | apply bD) | exact HB.out))) : w.heap.size ≤ gb105)); have GE105 := aM ((by rw [hg]; exact (below_size (by repeat (first | (with_reducible first | exact HB.out | apply bA | apply bN | apply bD) | exact HB.out))) : w.heap.size ≤ gb105)); replace HB := aM (below_step (by repeat (first | (with_reducible first | exact HB.out | apply bA | apply bN | apply bD) | exact HB.out)) hb); clear hb hbox hg; obtain ⟨hcz6_0, hfz6_0⟩ := bx1 BK105.out) | ((with_reducible refine gate_callee (f := 51) rfl ?_); refine goesL_ (some 14) rfl rfl Tryd.func51 (by kernel_rfl) rfl #[.slice A0_0 l0_0.length c0_0, .int .u64 a1, .int .i64 a2] rfl (by (try simp only [List.map_toArray, List.map_cons, List.map_nil]); first | done | rfl | (simp only [List.length_drop, List.length_take]; rfl)) ?_; (with_reducible refine (span_Get.calls k _ _ l0_0 a1 a2 t106 none _ ?side1 ?side2 A4.out).mono ?_); (case side1 => repeat (first | exact (Kd.C_below HR0_0.out HB.out) | (with_reducible refine cA ?_ _) | (with_reducible refine cN ?_ _) | (with_reducible refine cD ?_))); (case side2 => exact HC0_0.out); rintro e w7 ⟨ve1_, rfl, hE1_, hb⟩; refine ⟨_, rfl, ?_⟩; obtain rfl := ErrAt.none_eq hE1_; replace BK105 := aM (blk_below (g := gb105) (o := .cells #[.slice A0_0 l0_0.length c0_0] 70 (0, 0)) (by (with_reducible repeat (first | refine kN ?_ _ | refine kD ?_ | refine kA ?_ _)); exact BK105.out) hb); replace HB := aM (below_step (by repeat (first | (with_reducible first | exact HB.out | apply bA | apply bN | apply bD | refine below_set ?_ GE105.out) | exact HB.out)) hb); (try clear hb); (try clear hb2); (try clear hk); (try clear hi); (try simp only [errW_none, errW_some])))
  go_ret
  exact ⟨by first | rfl | (simp [errW_none, errW_some] <;> rfl) | (simp [*, errW_none, errW_some] <;> rfl), by repeat (first | (with_reducible first | exact HB.out | apply bA | apply bN | apply bD | refine below_set ?_ GE105.out) | exact HB.out)⟩
 ·have H1 : (some 0) = some r := by rw [if_neg (show ¬ (some q110).isNone = true by simp)] at H; exact H
  clear H; have H := H1; clear H1
  try simp only [errW_none, errW_some]
  obtain rfl := Option.some.inj H
  go_enter Tryd.func24, Tryd.ntmps24
  go_wp2_with (first | ((with_reducible refine gate_dst (N := 3) rfl ?_); refine box_event ?hg (N := 3) ?hd (cs := #[.slice A0_0 l0_0.length c0_0]) (t := 70) ?hr ?_; (case hd => rfl); (case hg => rfl); (case hr => first | (go_simp; done) | (go_simp; rfl)); intro gb105 hg w8 hbox hb; have BK105 := aM (hbox); have GW105 := aM ((by rw [hg]; exact (below_size (by repeat (first | (with_reducible first | exact HB.out | apply bA | apply bN | apply bD) | exact HB.out))) : w.heap.size ≤ gb105)); have GE105 := aM ((by rw [hg]; exact (below_size (by repeat (first | (with_reducible first | exact HB.out | apply bA | apply bN | apply bD) | exact HB.out))) : w.heap.size ≤ gb105)); replace HB := aM (below_step (by repeat (first | (with_reducible first | exact HB.out | apply bA | apply bN | apply bD) | exact HB.out)) hb); clear hb hbox hg; obtain ⟨hcz9_0, hfz9_0⟩ := bx1 BK105.out) | ((with_reducible refine gate_callee (f := 51) rfl ?_); refine goesL_ (some 14) rfl rfl Tryd.func51 (by kernel_rfl) rfl #[.slice A0_0 l0_0.length c0_0, .int .u64 a1, .int .i64 a2] rfl (by (try simp only [List.map_toArray, List.map_cons, List.map_nil]); first | done | rfl | (simp only [List.length_drop, List.length_take]; rfl)) ?_; (with_reducible refine (span_Get.calls k _ _ l0_0 a1 a2 t106 (some q110) _ ?side1 ?side2 A4.out).mono ?_); (case side1 => repeat (first | exact (Kd.C_below HR0_0.out HB.out) | (with_reducible refine cA ?_ _) | (with_reducible refine cN ?_ _) | (with_reducible refine cD ?_))); (case side2 => exact HC0_0.out); rintro e w10 ⟨ve109, rfl, hE1_, hb⟩; refine ⟨_, rfl, ?_⟩; obtain ⟨tE109, xE109, rfl⟩ := ErrAt.some_form hE1_; replace BK105 := aM (blk_below (g := gb105) (o := .cells #[.slice A0_0 l0_0.length c0_0] 70 (0, 0)) (by (with_reducible repeat (first | refine kN ?_ _ | refine kD ?_ | refine kA ?_ _)); exact BK105.out) hb); have EA109 := aM ((ErrAt.lower (base' := w.heap.size) hE1_ (below_size (by repeat (first | (with_reducible first | exact HB.out | apply bA | apply bN | apply bD | refine below_set ?_ GE105.out) | exact HB.out))))); replace HB := aM (below_step (by repeat (first | (with_reducible first | exact HB.out | apply bA | apply bN | apply bD | refine below_set ?_ GE105.out) | exact HB.out)) hb); (try clear hb); (try clear hb2); (try clear hk); (try clear hi); (try clear hE1_); (try simp only [errW_none, errW_some])))
  go_ret
  exact ⟨by first | rfl | (simp [errW_none, errW_some] <;> rfl) | (simp [*, errW_none, errW_some] <;> rfl), by repeat (first | (with_reducible first | exact HB.out | apply bA | apply bN | apply bD | refine below_set ?_ GE105.out) | exact HB.out)⟩

/-! ### head_spot: function 38 -/
def head_spot.f (a0 : Int) (a1 : Int) : Option (Option Int) := if 0 ≤ a1 then (if a1 < 18446744073709551616 then (if 0 ≤ a0 then (some (some (spZ a1 a0))) else (none)) else (none)) else (none)
set_option maxHeartbeats 8000000 in
set_option maxRecDepth 100000 in
theorem head_spot.calls (a0 : Int) (a1 : Int) (r : Option Int) (w : World) (h : head_spot.f a0 a1 = some r) :
  Calls Tryd.prog 38 #[.int .i64 a0, .int .u64 a1] w fun e w' => ∃ ve0_ : Value, e = .returned (ve0_) ∧ ErrAt 32 103 105 w' w.heap.size r ve0_ ∧ Below w.heap.size w w' := by
 have hu105 := Tryd.underlying105; have hu29 := Tryd.underlying29; have hu32 := Tryd.underlying32; have HB := aM (Below.refl w.heap.size w); have H : (if 0 ≤ a1 then (if a1 < 18446744073709551616 then (if 0 ≤ a0 then (some (some (spZ a1 a0))) else (none)) else (none)) else (none)) = some r := h; clear h
 by_cases c3 : 0 ≤ a1
 ·rw [if_pos c3] at H; have c3b0 := eq_true c3; have c3b1 : decide (0 ≤ a1) = true := decide_eq_true c3; clear c3
  by_cases c4 : a1 < 18446744073709551616
  ·rw [if_pos c4] at H; have c4b0 := eq_true c4; have c4b1 : decide (a1 < 18446744073709551616) = true := decide_eq_true c4; clear c4
   by_cases c5 : 0 ≤ a0
   ·rw [if_pos c5] at H; have c5b0 := eq_true c5; have c5b1 : decide (0 ≤ a0) = true := decide_eq_true c5; clear c5; obtain rfl := Option.some.inj H
    go_enter Tryd.func38, Tryd.ntmps38
    go_wp2_with (first | ((with_reducible refine gate_dst (N := 9) rfl ?_); refine box_event ?hg (N := 9) ?hd (cs := #[.int .u64 a1, .iface 32 (.int .i64 a0)]) (t := 105) ?hr ?_; (case hd => rfl); (case hg => rfl); (case hr => first | (go_simp; done) | (go_simp; rfl)); intro gb111 hg w6 hbox hb; have BK111 := aM (hbox); have GW111 := aM ((by rw [hg]; exact (below_size (by repeat (first | (with_reducible first | exact HB.out | apply bA | apply bN | apply bD) | exact HB.out))) : w.heap.size ≤ gb111)); have GE111 := aM ((by rw [hg]; exact (below_size (by repeat (first | (with_reducible first | exact HB.out | apply bA | apply bN | apply bD) | exact HB.out))) : w.heap.size ≤ gb111)); replace HB := aM (below_step (by repeat (first | (with_reducible first | exact HB.out | apply bA | apply bN | apply bD) | exact HB.out)) hb); clear hb hbox hg))
    go_ret
    exact ⟨.iface 103 (.pointer (some ⟨gb111, 0, none⟩)), by first | rfl | (simp [errW_none, errW_some] <;> rfl) | (simp [*, errW_none, errW_some] <;> rfl), (ErrAt.of_made (by first | (with_reducible exact of_decide_eq_true (by assumption)) | exact of_decide_eq_true (by assumption) | decide | omega) (by first | (with_reducible exact of_decide_eq_true (by assumption)) | exact of_decide_eq_true (by assumption) | decide | omega) (by first | (with_reducible exact of_decide_eq_true (by assumption)) | exact of_decide_eq_true (by assumption) | decide | omega) GW111.out (by (with_reducible repeat (first | refine kN ?_ _ | refine kD ?_ | refine kA ?_ _)); exact BK111.out)), by repeat (first | (with_reducible first | exact HB.out | apply bA | apply bN | apply bD | refine below_set ?_ GE111.out) | exact HB.out)⟩
   ·rw [if_neg c5] at H; exact absurd H (by simp)
  ·rw [if_neg c4] at H; exact absurd H (by simp)
 ·rw [if_neg c3] at H; exact absurd H (by simp)

/-! ### head_file_in: function 42 -/
def head_file_in.f (l0_0 : List Int) (a1 : Int) (a2 : Int) : Option (Bool) := (span_In.f (IntKind.u64.wrap ((l0_0.length : Int))) a1 a2).bind fun t113 => (some t113)
set_option maxHeartbeats 8000000 in
set_option maxRecDepth 100000 in
theorem head_file_in.calls (A0_0 : Option Addr) (c0_0 : Nat) (l0_0 : List Int) (a1 : Int) (a2 : Int) (r : Bool) (w : World) (hr0_0 : Kd.C (Kd.int .u8) w A0_0 l0_0.length l0_0) (hc0_0 : l0_0.length ≤ c0_0) (h : head_file_in.f l0_0 a1 a2 = some r) :
  Calls Tryd.prog 42 #[.agg #[.slice A0_0 l0_0.length c0_0], .int .u64 a1, .int .u64 a2] w fun e w' => e = .returned (.bool r) ∧ Below w.heap.size w w' := by
 have hu70 := Tryd.underlying70; have HR0_0 := aM hr0_0; have HC0_0 := aM hc0_0; clear hr0_0 hc0_0; have HB := aM (Below.refl w.heap.size w); have H : ((span_In.f (IntKind.u64.wrap ((l0_0.length : Int))) a1 a2).bind fun t113 => (some t113)) = some r := h; clear h; replace H := Option.bind_eq_some_iff.mp H; obtain ⟨t113, A40, H⟩ := H; replace H : (some t113) = some r := H; have A4 := aM A40; clear A40; obtain rfl := Option.some.inj H
 go_enter Tryd.func42, Tryd.ntmps42
 go_wp2_with (first | ((with_reducible refine gate_dst (N := 3) rfl ?_); refine box_event ?hg (N := 3) ?hd (cs := #[.slice A0_0 l0_0.length c0_0]) (t := 70) ?hr ?_; (case hd => rfl); (case hg => rfl); (case hr => first | (go_simp; done) | (go_simp; rfl)); intro gb112 hg w5 hbox hb; have BK112 := aM (hbox); have GW112 := aM ((by rw [hg]; exact (below_size (by repeat (first | (with_reducible first | exact HB.out | apply bA | apply bN | apply bD) | exact HB.out))) : w.heap.size ≤ gb112)); have GE112 := aM ((by rw [hg]; exact (below_size (by repeat (first | (with_reducible first | exact HB.out | apply bA | apply bN | apply bD) | exact HB.out))) : w.heap.size ≤ gb112)); replace HB := aM (below_step (by repeat (first | (with_reducible first | exact HB.out | apply bA | apply bN | apply bD) | exact HB.out)) hb); clear hb hbox hg; obtain ⟨hcz6_0, hfz6_0⟩ := bx1 BK112.out) | ((with_reducible refine gate_callee (f := 56) rfl ?_); refine goesL_ (some 13) rfl rfl Tryd.func56 (by kernel_rfl) rfl #[.int .u64 (IntKind.u64.wrap ((l0_0.length : Int))), .int .u64 a1, .int .u64 a2] rfl (by (try simp only [List.map_toArray, List.map_cons, List.map_nil]); first | done | rfl | (simp only [List.length_drop, List.length_take]; rfl)) ?_; (with_reducible refine (span_In.calls (IntKind.u64.wrap ((l0_0.length : Int))) a1 a2 t113 _ A4.out).mono ?_); rintro e w' ⟨rfl, ⟨nd, rfl⟩⟩; refine ⟨_, rfl, ?_⟩))
 go_ret
 exact ⟨by first | rfl | (simp [errW_none, errW_some] <;> rfl) | (simp [*, errW_none, errW_some] <;> rfl), by repeat (first | (with_reducible first | exact HB.out | apply bA | apply bN | apply bD | refine below_set ?_ GE112.out) | exact HB.out)⟩

end Go.Proofs.YtjohdgejjnbddaaDoor.PHeadNotes
