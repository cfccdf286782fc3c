/- Printed by this session's own program (wip/tools: a turn of the kit's print) out of the translation: each Go function that the law reaches as a Lean function, and that the machine's call comes to what that function tells; no condition but what each theorem names. -/
import Derived.Test.YtjohdgejjnbddaaDoorPHeadNotesx0
import Derived.Test.YtjohdgejjnbddaaDoorPHeadNotesx1
import Derived.Test.YtjohdgejjnbddaaDoorPHeadNotesx2
namespace Go.Proofs.YtjohdgejjnbddaaDoor.PHeadNotes
open Go.RowKit Go.Proofs.YtjohdgejjnbddaaDoorW.PrintWords Go.Proofs.YtjohdgejjnbddaaDoorW.PrintLast Go.Proofs.YtjohdgejjnbddaaDoorW.PrintMore Go.Proofs.YtjohdgejjnbddaaDoorX
attribute [local go_sem] max2_int min2_int max_two min_two max_three min_three max_four min_four   -- for this text's walks alone
set_option linter.unusedVariables false
set_option linter.unusedSimpArgs false

/-! ### span_Sum: function 90 -/
def span_Sum.l0 : Nat → Int → List Int → Int → Int → Option (Int × Option Int)
 | 0, _, _, _, _ => none
 | k + 1, x4, x8, x9, x10 => if x10 < x9 then (if 0 ≤ x10 then (if x10 < (x8.length : Int) then (if 0 ≤ x4 then (if 0 ≤ (rd x8 x10) then (if ((x4 + (rd x8 x10)) / 18446744073709551616) > 0 then (some (0, some 28)) else (span_Sum.l0 k ((x4 + (rd x8 x10)) % 18446744073709551616) x8 x9 (wrap64 (x10 + 1)))) else (none)) else (none)) else (none)) else (none)) else (some (x4, none))
def span_Sum.f (k : Nat) (l0 : List Int) : Option (Int × Option Int) := span_Sum.l0 k 0 l0 (l0.length : Int) 0
theorem span_Sum.mono_l : ∀ k, (∀ y0 y1 y2 y3, LeO (span_Sum.l0 k y0 y1 y2 y3) (span_Sum.l0 (k + 1) y0 y1 y2 y3))
 | 0 => fun _ _ _ _ r h => by simp [span_Sum.l0] at h
 | k + 1 => by
  have ih0 := span_Sum.mono_l k
  ·intro y0 y1 y2 y3
   unfold span_Sum.l0
   repeat' first
   | (with_reducible exact ih0 _ _ _ _)
   | (with_reducible exact LeO.refl _)
   | (with_reducible exact LeO.none _)
   | (with_reducible refine LeO.ite ?_ ?_)
   | (with_reducible refine LeO.bind ?_ (fun _ => ?_))
   | exact ih0 _ _ _ _
   | exact LeO.none _
   | refine LeO.ite ?_ ?_
   | refine LeO.bind ?_ (fun _ => ?_)
theorem span_Sum.mono : ∀ a0 k, LeO (span_Sum.f k a0) (span_Sum.f (k + 1) a0) := by
 intro a0 k; have ih0 := span_Sum.mono_l k
 unfold span_Sum.f
 repeat' first
   | (with_reducible exact ih0 _ _ _ _)
   | (with_reducible exact LeO.refl _)
   | (with_reducible exact LeO.none _)
   | (with_reducible refine LeO.ite ?_ ?_)
   | (with_reducible refine LeO.bind ?_ (fun _ => ?_))
   | exact ih0 _ _ _ _
   | exact LeO.none _
   | refine LeO.ite ?_ ?_
   | refine LeO.bind ?_ (fun _ => ?_)
set_option maxHeartbeats 8000000 in
set_option maxRecDepth 100000 in
theorem span_Sum.calls (k : Nat) (A0 : Option Addr) (c0 : Nat) (l0 : List Int) (r1 : Int) (r2 : Option Int) (w : World) (hr0 : Kd.C (Kd.int .u64) w A0 l0.length l0) (hc0 : l0.length ≤ c0) (h : span_Sum.f k l0 = some (r1, r2)) :
  Calls Tryd.prog 90 #[.slice A0 l0.length c0] w fun e w' => e = .returned (.tuple #[.int .u64 r1, errW r2]) ∧ Drawn0 w w' := by
 have hu29 := Tryd.underlying29; have hu32 := Tryd.underlying32
 have hadd64 := fun (x y : Int) (hx : 0 ≤ x) (hy : 0 ≤ y) (W : World) => run_call_add64 (P := Tryd.prog) Tryd.func110 (by kernel_rfl) (by kernel_rfl) (by kernel_rfl) (by kernel_rfl) x y hx hy W
 have HR0 := aM hr0; have HC0 := aM hc0; clear hr0 hc0; have H : (span_Sum.l0 k 0 l0 (l0.length : Int) 0) = some (r1, r2) := h; clear h; have H' := aM H; clear H
 go_enter Tryd.func90, Tryd.ntmps90
 go_wp2
 go_loopg [4, 10] k (fun kq v4 v10 w' => ∃ (x4_1 : Int) (x10_1 : Int), v4 = .int .u64 x4_1 ∧ v10 = .int .i64 x10_1 ∧ Aside0 (span_Sum.l0 kq x4_1 l0 (l0.length : Int) x10_1 = some (r1, r2)) ∧ Aside0 (kq ≤ k) ∧ Drawn0 w w')
 case atStart => exact ⟨(0), (0), (by first | rfl | (simp; done) | (simp [*]; done)), (by first | rfl | (simp; done) | (simp [*]; done)), H', ⟨Nat.le_refl _⟩, by repeat (first | exact Drawn0.refl _ | apply Drawn0.step)⟩
 case round =>
  clear H'; obtain ⟨x4_1, x10_1, rfl, rfl, HA, HK1, ⟨m1, rfl⟩⟩ := hrel
  cases gk with
  | zero => exact absurd HA.out (by simp [span_Sum.l0])
  | succ k1 =>
   have H := HA.out; clear HA; simp only [span_Sum.l0] at H
   by_cases c2 : x10_1 < (l0.length : Int)
   ·rw [if_pos c2] at H; have c2b0 : decide (x10_1 < (l0.length : Int)) = true := decide_eq_true c2; clear c2
    by_cases c3 : 0 ≤ x10_1
    ·rw [if_pos c3] at H; have c3b0 : decide (0 ≤ x10_1) = true := decide_eq_true c3; clear c3
     by_cases c4 : x10_1 < (l0.length : Int)
     ·rw [if_pos c4] at H; have c4b0 : decide (x10_1 < (l0.length : Int)) = true := decide_eq_true c4; clear c4
      by_cases c5 : 0 ≤ x4_1
      ·rw [if_pos c5] at H; have c5b0 := eq_true c5; have c5b1 : decide (0 ≤ x4_1) = true := decide_eq_true c5; clear c5
       by_cases c6 : 0 ≤ (rd l0 x10_1)
       ·rw [if_pos c6] at H; have c6b0 := eq_true c6; have c6b1 : decide (0 ≤ (rd l0 x10_1)) = true := decide_eq_true c6; clear c6
        by_cases c7 : ((x4_1 + (rd l0 x10_1)) / 18446744073709551616) > 0
        ·rw [if_pos c7] at H; have c7b0 : decide (0 < ((x4_1 + (rd l0 x10_1)) / 18446744073709551616)) = true := decide_eq_true c7; clear c7; simp only [Option.some.injEq, Prod.mk.injEq] at H; obtain ⟨rfl, rfl⟩ := H; have p114 : 0 ≤ (x10_1 : Int) := of_decide_eq_true (by first | (with_reducible assumption) | assumption); have q114 : x10_1 < (l0.length : Int) := of_decide_eq_true (by first | (with_reducible assumption) | assumption); obtain ⟨ad114, e114, hx114_0⟩ := Kd.at_int HR0.out x10_1 p114 q114
         cases e114
         replace p114 := eq_true p114; replace q114 := eq_true q114
         go_wp2
         go_ret2
         exact ⟨by first | rfl | (simp; done) | (simp [*]; done), by repeat (first | exact Drawn0.refl _ | apply Drawn0.step)⟩
        ·rw [if_neg c7] at H; have c7b0 : decide (0 < ((x4_1 + (rd l0 x10_1)) / 18446744073709551616)) = false := decide_eq_false c7; clear c7; have H' := aM H; clear H; have p114 : 0 ≤ (x10_1 : Int) := of_decide_eq_true (by first | (with_reducible assumption) | assumption); have q114 : x10_1 < (l0.length : Int) := of_decide_eq_true (by first | (with_reducible assumption) | assumption); obtain ⟨ad114, e114, hx114_0⟩ := Kd.at_int HR0.out x10_1 p114 q114
         cases e114
         replace p114 := eq_true p114; replace q114 := eq_true q114
         go_wp2
         go_roundg k1
         case measure => have := HK1.out; omega
         case rel => exact ⟨((x4_1 + (rd l0 x10_1)) % 18446744073709551616), (wrap64 (x10_1 + 1)), (by first | rfl | (simp; done) | (simp [*]; done)), (by first | rfl | (simp; done) | (simp [*]; done)), H', ⟨by have := HK1.out; omega⟩, by repeat (first | exact Drawn0.refl _ | apply Drawn0.step)⟩
       ·rw [if_neg c6] at H; exact absurd H (by simp)
      ·rw [if_neg c5] at H; exact absurd H (by simp)
     ·rw [if_neg c4] at H; exact absurd H (by simp)
    ·rw [if_neg c3] at H; exact absurd H (by simp)
   ·rw [if_neg c2] at H; have c2b0 : decide (x10_1 < (l0.length : Int)) = false := decide_eq_false c2; clear c2; simp only [Option.some.injEq, Prod.mk.injEq] at H; obtain ⟨rfl, rfl⟩ := H
    go_wp2
    go_ret2
    exact ⟨by first | rfl | (simp; done) | (simp [*]; done), by repeat (first | exact Drawn0.refl _ | apply Drawn0.step)⟩

/-! ### span_Up: function 53 -/
def span_Up.f (k : Nat) (a0 : Int) (a1 : Int) : Option (Int × Option Int) := (bits_OnesCount64.f a1).bind fun t115 => (if t115 = 1 then ((span_Sum.f k (([a0, IntKind.u64.wrap (a1 - 1)] : List Int))).bind fun bt119 => (if bt119.2.isNone = true then (some (Go.bits .andNot .u64 bt119.1 (IntKind.u64.wrap (a1 - 1)), none)) else (some (0, some (bt119.2.getD 0))))) else (some (0, some 1)))
theorem span_Up.mono : ∀ a0 a1 k, LeO (span_Up.f k a0 a1) (span_Up.f (k + 1) a0 a1) := by
 intro a0 a1 k
 unfold span_Up.f
 repeat' first
   | (with_reducible exact span_Sum.mono _ _)
   | (with_reducible exact LeO.refl _)
   | (with_reducible exact LeO.none _)
   | (with_reducible refine LeO.ite ?_ ?_)
   | (with_reducible refine LeO.bind ?_ (fun _ => ?_))
   | exact span_Sum.mono _ _
   | exact LeO.none _
   | refine LeO.ite ?_ ?_
   | refine LeO.bind ?_ (fun _ => ?_)
set_option maxHeartbeats 8000000 in
set_option maxRecDepth 100000 in
theorem span_Up.calls (k : Nat) (a0 : Int) (a1 : Int) (r1 : Int) (r2 : Option Int) (w : World) (h : span_Up.f k a0 a1 = some (r1, r2)) :
  Calls Tryd.prog 53 #[.int .u64 a0, .int .u64 a1] w fun e w' => e = .returned (.tuple #[.int .u64 r1, errW r2]) ∧ Below w.heap.size w w' := by
 have hu29 := Tryd.underlying29; have hu32 := Tryd.underlying32; have HB := aM (Below.refl w.heap.size w); have H : ((bits_OnesCount64.f a1).bind fun t115 => (if t115 = 1 then ((span_Sum.f k (([a0, IntKind.u64.wrap (a1 - 1)] : List Int))).bind fun bt119 => (if bt119.2.isNone = true then (some (Go.bits .andNot .u64 bt119.1 (IntKind.u64.wrap (a1 - 1)), none)) else (some (0, some (bt119.2.getD 0))))) else (some (0, some 1)))) = some (r1, r2) := h; clear h; replace H := Option.bind_eq_some_iff.mp H; obtain ⟨t115, A30, H⟩ := H; replace H : (if t115 = 1 then ((span_Sum.f k (([a0, IntKind.u64.wrap (a1 - 1)] : List Int))).bind fun bt119 => (if bt119.2.isNone = true then (some (Go.bits .andNot .u64 bt119.1 (IntKind.u64.wrap (a1 - 1)), none)) else (some (0, some (bt119.2.getD 0))))) else (some (0, some 1))) = some (r1, r2) := H; have A3 := aM A30; clear A30
 by_cases c4 : t115 = 1
 ·rw [if_pos c4] at H; have c4b0 : (t115 == 1) = true := beq_iff_eq.mpr c4; have c4b1 : (t115 != 1) = false := bne_eq_false_iff_eq.mpr c4; clear c4; obtain ⟨y116, hy116⟩ : ∃ y_ : List Int, y_ = (([a0, IntKind.u64.wrap (a1 - 1)] : List Int)) := ⟨_, rfl⟩
  replace H : ((span_Sum.f k y116).bind fun bt119 => (if bt119.2.isNone = true then (some (Go.bits .andNot .u64 bt119.1 (IntKind.u64.wrap (a1 - 1)), none)) else (some (0, some (bt119.2.getD 0))))) = some (r1, r2) := by first | (rw [hy116]; with_reducible exact H) | (have H2_ := (Option.bind_some _ _).symm.trans H; rw [hy116]; with_reducible exact H2_) | (have H2_ := (Option.bind_some _ _).symm.trans H; with_reducible exact H2_) | with_reducible exact H | (rw [hy116]; exact H) | exact H
  have Ny116 := aM hy116; clear hy116; replace H := Option.bind_eq_some_iff.mp H; obtain ⟨⟨t119, t120⟩, A50, H⟩ := H; replace H : (if t120.isNone = true then (some (Go.bits .andNot .u64 t119 (IntKind.u64.wrap (a1 - 1)), none)) else (some (0, some (t120.getD 0)))) = some (r1, r2) := H; have A5 := aM A50; clear A50
  rcases t120 with _ | q121
  ·have H1 : (some (Go.bits .andNot .u64 t119 (IntKind.u64.wrap (a1 - 1)), none)) = some (r1, r2) := by rw [if_pos (show (none : Option Int).isNone = true by rfl)] at H; exact H
   clear H; have H := H1; clear H1
   try simp only [errW_none, errW_some]
   simp only [Option.some.injEq, Prod.mk.injEq] at H; obtain ⟨rfl, rfl⟩ := H
   go_enter Tryd.func53, Tryd.ntmps53
   go_wp2_with (first | ((with_reducible refine gate_callee (f := 89) rfl ?_); refine goesL_ (some 9) rfl rfl Tryd.func89 (by kernel_rfl) rfl #[.int .u64 a1] rfl (by (try simp only [List.map_toArray, List.map_cons, List.map_nil]); first | done | rfl | (simp only [List.length_drop, List.length_take]; rfl)) ?_; (with_reducible refine (bits_OnesCount64.calls a1 t115 _ A3.out).mono ?_); rintro e w' ⟨rfl, ⟨nd, rfl⟩⟩; refine ⟨_, rfl, ?_⟩) | ((with_reducible refine gate_dst (N := 16) rfl ?_); refine Kd.R_lit (Kd.int .u64) _ 24 ?hg (N := 16) ?hd (xs := ([a0, IntKind.u64.wrap (a1 - 1)] : List Int)) (inner := [.int .u64 a0, .int .u64 (IntKind.u64.wrap (a1 - 1))]) (ok := fun _ => True) (okp := fun _ => True) ?hr ?hp (fun _ hk => hk) trivial (Below.refl _ _) (Nat.le_refl _) (by simp) ?_; (case hd => rfl); (case hg => rfl); (case hr => first | (go_simp; done) | (go_simp; rfl)); (case hp => exact (Reps.one (show Kd.M (Kd.int .u64) _ _ _ a0 [.int .u64 a0] from rfl) (Reps.one (show Kd.M (Kd.int .u64) _ _ _ (IntKind.u64.wrap (a1 - 1)) [.int .u64 (IntKind.u64.wrap (a1 - 1))] from rfl) (Reps.none _ _)))); intro v117 w6 ho7 hb hg_ hnew_; clear hg_ hnew_; (first | rw [← Ny116.out] at ho7 | (simp only [Int.reduceToNat] at ho7; rw [← Ny116.out] at ho7)); have HO118 := aM (Kd.R_lower ho7 (below_size (by repeat (first | (with_reducible first | exact HB.out | apply bA | apply bN | apply bD) | exact HB.out)))); replace HB := aM (below_step (by repeat (first | (with_reducible first | exact HB.out | apply bA | apply bN | apply bD) | exact HB.out)) hb); clear hb ho7; obtain ⟨Ao8, co8, eo8⟩ := Kd.R_slice HO118.out; subst eo8) | ((with_reducible refine gate_callee (f := 90) rfl ?_); refine goesL_ (some 17) rfl rfl Tryd.func90 (by kernel_rfl) rfl #[.slice Ao8 y116.length co8] rfl (by (try simp only [List.map_toArray, List.map_cons, List.map_nil]); first | done | rfl | (simp only [List.length_drop, List.length_take]; rfl)) ?_; (with_reducible refine (span_Sum.calls k _ _ y116 t119 none _ ?side1 ?side2 A5.out).mono ?_); (case side1 => repeat (first | exact (Kd.R_reads' HO118.out).2.2 | (with_reducible refine cA ?_ _) | (with_reducible refine cN ?_ _) | (with_reducible refine cD ?_))); (case side2 => exact (Kd.R_reads' HO118.out).2.1); rintro e w' ⟨rfl, ⟨nd, rfl⟩⟩; refine ⟨_, rfl, ?_⟩; (try simp only [errW_none, errW_some])))
   go_ret2
   exact ⟨by first | rfl | (simp [errW_none, errW_some] <;> rfl) | (simp [*, errW_none, errW_some] <;> rfl), by repeat (first | (with_reducible first | exact HB.out | apply bA | apply bN | apply bD) | exact HB.out)⟩
  ·have H1 : (some (0, some q121)) = some (r1, r2) := by rw [if_neg (show ¬ (some q121).isNone = true by simp)] at H; exact H
   clear H; have H := H1; clear H1
   try simp only [errW_none, errW_some]
   simp only [Option.some.injEq, Prod.mk.injEq] at H; obtain ⟨rfl, rfl⟩ := H
   go_enter Tryd.func53, Tryd.ntmps53
   go_wp2_with (first | ((with_reducible refine gate_callee (f := 89) rfl ?_); refine goesL_ (some 9) rfl rfl Tryd.func89 (by kernel_rfl) rfl #[.int .u64 a1] rfl (by (try simp only [List.map_toArray, List.map_cons, List.map_nil]); first | done | rfl | (simp only [List.length_drop, List.length_take]; rfl)) ?_; (with_reducible refine (bits_OnesCount64.calls a1 t115 _ A3.out).mono ?_); rintro e w' ⟨rfl, ⟨nd, rfl⟩⟩; refine ⟨_, rfl, ?_⟩) | ((with_reducible refine gate_dst (N := 16) rfl ?_); refine Kd.R_lit (Kd.int .u64) _ 24 ?hg (N := 16) ?hd (xs := ([a0, IntKind.u64.wrap (a1 - 1)] : List Int)) (inner := [.int .u64 a0, .int .u64 (IntKind.u64.wrap (a1 - 1))]) (ok := fun _ => True) (okp := fun _ => True) ?hr ?hp (fun _ hk => hk) trivial (Below.refl _ _) (Nat.le_refl _) (by simp) ?_; (case hd => rfl); (case hg => rfl); (case hr => first | (go_simp; done) | (go_simp; rfl)); (case hp => exact (Reps.one (show Kd.M (Kd.int .u64) _ _ _ a0 [.int .u64 a0] from rfl) (Reps.one (show Kd.M (Kd.int .u64) _ _ _ (IntKind.u64.wrap (a1 - 1)) [.int .u64 (IntKind.u64.wrap (a1 - 1))] from rfl) (Reps.none _ _)))); intro v117 w9 ho10 hb hg_ hnew_; clear hg_ hnew_; (first | rw [← Ny116.out] at ho10 | (simp only [Int.reduceToNat] at ho10; rw [← Ny116.out] at ho10)); have HO118 := aM (Kd.R_lower ho10 (below_size (by repeat (first | (with_reducible first | exact HB.out | apply bA | apply bN | apply bD) | exact HB.out)))); replace HB := aM (below_step (by repeat (first | (with_reducible first | exact HB.out | apply bA | apply bN | apply bD) | exact HB.out)) hb); clear hb ho10; obtain ⟨Ao11, co11, eo11⟩ := Kd.R_slice HO118.out; subst eo11) | ((with_reducible refine gate_callee (f := 90) rfl ?_); refine goesL_ (some 17) rfl rfl Tryd.func90 (by kernel_rfl) rfl #[.slice Ao11 y116.length co11] rfl (by (try simp only [List.map_toArray, List.map_cons, List.map_nil]); first | done | rfl | (simp only [List.length_drop, List.length_take]; rfl)) ?_; (with_reducible refine (span_Sum.calls k _ _ y116 t119 (some q121) _ ?side1 ?side2 A5.out).mono ?_); (case side1 => repeat (first | exact (Kd.R_reads' HO118.out).2.2 | (with_reducible refine cA ?_ _) | (with_reducible refine cN ?_ _) | (with_reducible refine cD ?_))); (case side2 => exact (Kd.R_reads' HO118.out).2.1); rintro e w' ⟨rfl, ⟨nd, rfl⟩⟩; refine ⟨_, rfl, ?_⟩; (try simp only [errW_none, errW_some])))
   go_ret2
   exact ⟨by first | rfl | (simp [errW_none, errW_some] <;> rfl) | (simp [*, errW_none, errW_some] <;> rfl), by repeat (first | (with_reducible first | exact HB.out | apply bA | apply bN | apply bD) | exact HB.out)⟩
 ·rw [if_neg c4] at H; have c4b0 : (t115 == 1) = false := beq_eq_false_iff_ne.mpr c4; have c4b1 : (t115 != 1) = true := bne_iff_ne.mpr c4; simp only [Option.some.injEq, Prod.mk.injEq] at H; obtain ⟨rfl, rfl⟩ := H
  go_enter Tryd.func53, Tryd.ntmps53
  go_wp2_with (first | ((with_reducible refine gate_callee (f := 89) rfl ?_); refine goesL_ (some 9) rfl rfl Tryd.func89 (by kernel_rfl) rfl #[.int .u64 a1] rfl (by (try simp only [List.map_toArray, List.map_cons, List.map_nil]); first | done | rfl | (simp only [List.length_drop, List.length_take]; rfl)) ?_; (with_reducible refine (bits_OnesCount64.calls a1 t115 _ A3.out).mono ?_); rintro e w' ⟨rfl, ⟨nd, rfl⟩⟩; refine ⟨_, rfl, ?_⟩))
  go_ret2
  exact ⟨by first | rfl | (simp [errW_none, errW_some] <;> rfl) | (simp [*, errW_none, errW_some] <;> rfl), by repeat (first | (with_reducible first | exact HB.out | apply bA | apply bN | apply bD) | exact HB.out)⟩

/-! ### head_check: function 54 -/
def head_check.l0 : Nat → Int → List (S124) → Int → Int → Option (Option Int)
 | 0, _, _, _, _ => none
 | k + 1, x0, x7, x8, x9 => if x9 < x8 then (if 0 ≤ x9 then (if x9 < (x7.length : Int) then (if (rd_T124 x7 x9).f0 = true then ((head_spot.f ((rd_T124 x7 x9).f1) (IntKind.u64.wrap (x0 + ((rd_T124 x7 x9).f2)))).bind fun t124 => (some t124)) else (head_check.l0 k x0 x7 x8 (wrap64 (x9 + 1)))) else (none)) else (none)) else (some none)
def head_check.f (k : Nat) (a0 : Int) (l1 : List (S124)) : Option (Option Int) := head_check.l0 k a0 l1 (l1.length : Int) 0
theorem head_check.mono_l : ∀ k, (∀ y0 y1 y2 y3, LeO (head_check.l0 k y0 y1 y2 y3) (head_check.l0 (k + 1) y0 y1 y2 y3))
 | 0 => fun _ _ _ _ r h => by simp [head_check.l0] at h
 | k + 1 => by
  have ih0 := head_check.mono_l k
  ·intro y0 y1 y2 y3
   unfold head_check.l0
   repeat' first
   | (with_reducible exact ih0 _ _ _ _)
   | (with_reducible exact LeO.refl _)
   | (with_reducible exact LeO.none _)
   | (with_reducible refine LeO.ite ?_ ?_)
   | (with_reducible refine LeO.bind ?_ (fun _ => ?_))
   | exact ih0 _ _ _ _
   | exact LeO.none _
   | refine LeO.ite ?_ ?_
   | refine LeO.bind ?_ (fun _ => ?_)
theorem head_check.mono : ∀ a0 a1 k, LeO (head_check.f k a0 a1) (head_check.f (k + 1) a0 a1) := by
 intro a0 a1 k; have ih0 := head_check.mono_l k
 unfold head_check.f
 repeat' first
   | (with_reducible exact ih0 _ _ _ _)
   | (with_reducible exact LeO.refl _)
   | (with_reducible exact LeO.none _)
   | (with_reducible refine LeO.ite ?_ ?_)
   | (with_reducible refine LeO.bind ?_ (fun _ => ?_))
   | exact ih0 _ _ _ _
   | exact LeO.none _
   | refine LeO.ite ?_ ?_
   | refine LeO.bind ?_ (fun _ => ?_)
set_option maxHeartbeats 8000000 in
set_option maxRecDepth 100000 in
theorem head_check.calls (k : Nat) (a0 : Int) (A1 : Option Addr) (c1 : Nat) (l1 : List (S124)) (r : Option Int) (w : World) (hr1 : Kd.C k124 w A1 l1.length l1) (hc1 : l1.length ≤ c1) (h : head_check.f k a0 l1 = some r) :
  Calls Tryd.prog 54 #[.int .u64 a0, .slice A1 l1.length c1] w fun e w' => ∃ ve0_ : Value, e = .returned (ve0_) ∧ ErrAt 32 103 105 w' w.heap.size r ve0_ ∧ Below w.heap.size w w' := by
 have hu124 := Tryd.underlying124; have HR1 := aM hr1; have HC1 := aM hc1; clear hr1 hc1; have HB := aM (Below.refl w.heap.size w); have H : (head_check.l0 k a0 l1 (l1.length : Int) 0) = some r := h; clear h; have H' := aM H; clear H
 go_enter Tryd.func54, Tryd.ntmps54
 go_wp2
 go_loopg [9] k (fun kq v9 w' => ∃ (x9_1 : Int), v9 = .int .i64 x9_1 ∧ Aside0 (head_check.l0 kq a0 l1 (l1.length : Int) x9_1 = some r) ∧ Aside0 (kq ≤ k) ∧ Aside0 (Below w.heap.size w w'))
 case atStart => exact ⟨(0), (by first | rfl | (simp; done) | (simp [*]; done)), H', ⟨Nat.le_refl _⟩, ⟨by repeat (first | (with_reducible first | exact HB.out | apply bA | apply bN | apply bD) | exact HB.out)⟩⟩
 case round =>
  clear H'
  try clear c1
  try clear p2
  obtain ⟨x9_1, rfl, HA, HK1, HB⟩ := hrel
  cases gk with
  | zero => exact absurd HA.out (by simp [head_check.l0])
  | succ k1 =>
   have H := HA.out; clear HA; simp only [head_check.l0] at H
   by_cases c3 : x9_1 < (l1.length : Int)
   ·rw [if_pos c3] at H; have c3b0 : decide (x9_1 < (l1.length : Int)) = true := decide_eq_true c3; clear c3
    by_cases c4 : 0 ≤ x9_1
    ·rw [if_pos c4] at H; have c4b0 : decide (0 ≤ x9_1) = true := decide_eq_true c4; clear c4
     by_cases c5 : x9_1 < (l1.length : Int)
     ·rw [if_pos c5] at H; have c5b0 : decide (x9_1 < (l1.length : Int)) = true := decide_eq_true c5; clear c5; obtain ⟨bq6, hbq6⟩ : ∃ b_ : Bool, b_ = ((rd_T124 l1 x9_1).f0) := ⟨_, rfl⟩
      replace H : (if bq6 = true then ((head_spot.f ((rd_T124 l1 x9_1).f1) (IntKind.u64.wrap (a0 + ((rd_T124 l1 x9_1).f2)))).bind fun t124 => (some t124)) else (head_check.l0 k1 a0 l1 (l1.length : Int) (wrap64 (x9_1 + 1)))) = some r := by rw [← hbq6] at H; exact H
      have Nbq6 := aM hbq6; clear hbq6
      by_cases c7 : bq6 = true
      ·subst c7
       have H1 : ((head_spot.f ((rd_T124 l1 x9_1).f1) (IntKind.u64.wrap (a0 + ((rd_T124 l1 x9_1).f2)))).bind fun t124 => (some t124)) = some r := by rw [if_pos rfl] at H; exact H
       clear H; have H := H1; clear H1; replace H := Option.bind_eq_some_iff.mp H; obtain ⟨t124, A80, H⟩ := H; replace H : (some t124) = some r := H; have A8 := aM A80; clear A80; obtain rfl := Option.some.inj H; have p122 : 0 ≤ (x9_1 : Int) := of_decide_eq_true (by first | (with_reducible assumption) | assumption); have q122 : x9_1 < (l1.length : Int) := of_decide_eq_true (by first | (with_reducible assumption) | assumption); obtain ⟨ad122, e122, hx122_0, hx122_1, hx122_2⟩ := at_T124 HR1.out x9_1 p122 q122
       (try rw [← Nbq6.out] at hx122_0)
       cases e122
       replace hx122_0 := (HB.out.cell (World.block_lt_of_cell? w _ hx122_0)).trans hx122_0; replace hx122_1 := (HB.out.cell (World.block_lt_of_cell? w _ hx122_1)).trans hx122_1; replace hx122_2 := (HB.out.cell (World.block_lt_of_cell? w _ hx122_2)).trans hx122_2; replace p122 := eq_true p122; replace q122 := eq_true q122
       go_wp2_with (first | ((with_reducible refine gate_dst (N := 6) rfl ?_); refine box_event ?hg (N := 6) ?hd (cs := #[.bool false, .int .i64 0, .int .u64 0]) (t := 124) ?hr ?_; (case hd => rfl); (case hg => rfl); (case hr => first | (go_simp; done) | (go_simp; rfl)); intro gb123 hg w9 hbox hb; have BK123 := aM (hbox); have GW123 := aM ((by rw [hg]; exact (below_size (by repeat (first | (with_reducible first | exact HB.out | apply bA | apply bN | apply bD) | exact HB.out))) : w.heap.size ≤ gb123)); have GE123 := aM ((by rw [hg]; exact (below_size (by repeat (first | (with_reducible first | exact HB.out | apply bA | apply bN | apply bD) | exact HB.out))) : w.heap.size ≤ gb123)); replace HB := aM (below_step (by repeat (first | (with_reducible first | exact HB.out | apply bA | apply bN | apply bD) | exact HB.out)) hb); clear hb hbox hg; obtain ⟨hcz10_0, hcz10_1, hcz10_2, hfz10_0, hfz10_1, hfz10_2⟩ := bx3 BK123.out) | ((with_reducible refine gate_callee (f := 38) rfl ?_); refine goesL_ (some 21) rfl rfl Tryd.func38 (by kernel_rfl) rfl #[.int .i64 ((rd_T124 l1 x9_1).f1), .int .u64 (IntKind.u64.wrap (a0 + ((rd_T124 l1 x9_1).f2)))] rfl (by (try simp only [List.map_toArray, List.map_cons, List.map_nil]); first | done | rfl | (simp only [List.length_drop, List.length_take]; rfl)) ?_; (with_reducible refine (head_spot.calls ((rd_T124 l1 x9_1).f1) (IntKind.u64.wrap (a0 + ((rd_T124 l1 x9_1).f2))) t124 _ A8.out).mono ?_); rintro e w11 ⟨ve126, rfl, hE0_, hb⟩; refine ⟨_, rfl, ?_⟩; replace BK123 := aM (blk_below (g := gb123) (o := .cells #[.bool true, .int .i64 ((rd_T124 l1 x9_1).f1), .int .u64 ((rd_T124 l1 x9_1).f2)] 124 (0, 0)) (by (with_reducible repeat (first | refine kN ?_ _ | refine kD ?_ | refine kA ?_ _)); refine blk_put (cs := #[.bool true, .int .i64 ((rd_T124 l1 x9_1).f1), .int .u64 0]) ?_ 2 _ rfl; (with_reducible repeat (first | refine kN ?_ _ | refine kD ?_ | refine kA ?_ _)); refine blk_put (cs := #[.bool true, .int .i64 0, .int .u64 0]) ?_ 1 _ rfl; (with_reducible repeat (first | refine kN ?_ _ | refine kD ?_ | refine kA ?_ _)); refine blk_put (cs := #[.bool false, .int .i64 0, .int .u64 0]) ?_ 0 _ rfl; (with_reducible repeat (first | refine kN ?_ _ | refine kD ?_ | refine kA ?_ _)); exact BK123.out) hb); have EA126 := aM ((ErrAt.lower (base' := w.heap.size) hE0_ (below_size (by repeat (first | (with_reducible first | exact HB.out | apply bA | apply bN | apply bD | refine below_set ?_ GE123.out) | exact HB.out))))); replace HB := aM (below_step (by repeat (first | (with_reducible first | exact HB.out | apply bA | apply bN | apply bD | refine below_set ?_ GE123.out) | exact HB.out)) hb); (try clear hb); (try clear hb2); (try clear hk); (try clear hi); (try clear hE0_); (try simp only [errW_none, errW_some])))
       go_ret
       exact ⟨ve126, by first | rfl | (simp [errW_none, errW_some] <;> rfl) | (simp [*, errW_none, errW_some] <;> rfl), (by repeat (first | (with_reducible first | exact EA126.out | apply ErrAt.alloc | apply ErrAt.drewN | apply ErrAt.drew | (apply ErrAt.set; rotate_left; (repeat (first | (apply IsRow.of; apply Aside0.out; assumption) | apply IsRow.set | apply IsRow.alloc | apply IsRow.drewN | apply IsRow.drew)); rotate_right) | decide) | exact EA126.out)), by repeat (first | (with_reducible first | exact HB.out | apply bA | apply bN | apply bD | refine below_set ?_ GE123.out) | exact HB.out)⟩
      ·replace c7 := Bool.eq_false_iff.mpr c7; subst c7
       have H1 : (head_check.l0 k1 a0 l1 (l1.length : Int) (wrap64 (x9_1 + 1))) = some r := by rw [if_neg (show ¬ (false = true) by decide)] at H; exact H
       clear H; have H := H1; clear H1; have H' := aM H; clear H; have p122 : 0 ≤ (x9_1 : Int) := of_decide_eq_true (by first | (with_reducible assumption) | assumption); have q122 : x9_1 < (l1.length : Int) := of_decide_eq_true (by first | (with_reducible assumption) | assumption); obtain ⟨ad122, e122, hx122_0, hx122_1, hx122_2⟩ := at_T124 HR1.out x9_1 p122 q122
       (try rw [← Nbq6.out] at hx122_0)
       cases e122
       replace hx122_0 := (HB.out.cell (World.block_lt_of_cell? w _ hx122_0)).trans hx122_0; replace hx122_1 := (HB.out.cell (World.block_lt_of_cell? w _ hx122_1)).trans hx122_1; replace hx122_2 := (HB.out.cell (World.block_lt_of_cell? w _ hx122_2)).trans hx122_2; replace p122 := eq_true p122; replace q122 := eq_true q122
       go_wp2_with (first | ((with_reducible refine gate_dst (N := 6) rfl ?_); refine box_event ?hg (N := 6) ?hd (cs := #[.bool false, .int .i64 0, .int .u64 0]) (t := 124) ?hr ?_; (case hd => rfl); (case hg => rfl); (case hr => first | (go_simp; done) | (go_simp; rfl)); intro gb123 hg w12 hbox hb; have BK123 := aM (hbox); have GW123 := aM ((by rw [hg]; exact (below_size (by repeat (first | (with_reducible first | exact HB.out | apply bA | apply bN | apply bD) | exact HB.out))) : w.heap.size ≤ gb123)); have GE123 := aM ((by rw [hg]; exact (below_size (by repeat (first | (with_reducible first | exact HB.out | apply bA | apply bN | apply bD) | exact HB.out))) : w.heap.size ≤ gb123)); replace HB := aM (below_step (by repeat (first | (with_reducible first | exact HB.out | apply bA | apply bN | apply bD) | exact HB.out)) hb); clear hb hbox hg; obtain ⟨hcz13_0, hcz13_1, hcz13_2, hfz13_0, hfz13_1, hfz13_2⟩ := bx3 BK123.out))
       go_roundg k1
       case measure => have := HK1.out; omega
       case rel => exact ⟨(wrap64 (x9_1 + 1)), (by first | rfl | (simp; done) | (simp [*]; done)), H', ⟨by have := HK1.out; omega⟩, ⟨by repeat (first | (with_reducible first | exact HB.out | apply bA | apply bN | apply bD | refine below_set ?_ GE123.out) | exact HB.out)⟩⟩
     ·rw [if_neg c5] at H; exact absurd H (by simp)
    ·rw [if_neg c4] at H; exact absurd H (by simp)
   ·rw [if_neg c3] at H; have c3b0 : decide (x9_1 < (l1.length : Int)) = false := decide_eq_false c3; clear c3; obtain rfl := Option.some.inj H
    go_wp2
    go_ret
    exact ⟨.nilIface, by first | rfl | (simp [errW_none, errW_some] <;> rfl) | (simp [*, errW_none, errW_some] <;> rfl), ErrAt.of_none, by repeat (first | (with_reducible first | exact HB.out | apply bA | apply bN | apply bD) | exact HB.out)⟩

/-! ### slices_Index_uint32_uint32: function 111 -/
def slices_Index_uint32_uint32.l0 : Nat → List Int → Int → Int → Int → Option (Int)
 | 0, _, _, _, _ => none
 | k + 1, x0, x1, x7, x8 => if x8 < x7 then (if 0 ≤ x8 then (if x8 < (x0.length : Int) then (if x1 = (rd x0 x8) then (some x8) else (slices_Index_uint32_uint32.l0 k x0 x1 x7 (wrap64 (x8 + 1)))) else (none)) else (none)) else (some (-1))
def slices_Index_uint32_uint32.f (k : Nat) (l0 : List Int) (a1 : Int) : Option (Int) := slices_Index_uint32_uint32.l0 k l0 a1 (l0.length : Int) 0
theorem slices_Index_uint32_uint32.mono_l : ∀ k, (∀ y0 y1 y2 y3, LeO (slices_Index_uint32_uint32.l0 k y0 y1 y2 y3) (slices_Index_uint32_uint32.l0 (k + 1) y0 y1 y2 y3))
 | 0 => fun _ _ _ _ r h => by simp [slices_Index_uint32_uint32.l0] at h
 | k + 1 => by
  have ih0 := slices_Index_uint32_uint32.mono_l k
  ·intro y0 y1 y2 y3
   unfold slices_Index_uint32_uint32.l0
   repeat' first
   | (with_reducible exact ih0 _ _ _ _)
   | (with_reducible exact LeO.refl _)
   | (with_reducible exact LeO.none _)
   | (with_reducible refine LeO.ite ?_ ?_)
   | (with_reducible refine LeO.bind ?_ (fun _ => ?_))
   | exact ih0 _ _ _ _
   | exact LeO.none _
   | refine LeO.ite ?_ ?_
   | refine LeO.bind ?_ (fun _ => ?_)
theorem slices_Index_uint32_uint32.mono : ∀ a0 a1 k, LeO (slices_Index_uint32_uint32.f k a0 a1) (slices_Index_uint32_uint32.f (k + 1) a0 a1) := by
 intro a0 a1 k; have ih0 := slices_Index_uint32_uint32.mono_l k
 unfold slices_Index_uint32_uint32.f
 repeat' first
   | (with_reducible exact ih0 _ _ _ _)
   | (with_reducible exact LeO.refl _)
   | (with_reducible exact LeO.none _)
   | (with_reducible refine LeO.ite ?_ ?_)
   | (with_reducible refine LeO.bind ?_ (fun _ => ?_))
   | exact ih0 _ _ _ _
   | exact LeO.none _
   | refine LeO.ite ?_ ?_
   | refine LeO.bind ?_ (fun _ => ?_)
set_option maxHeartbeats 8000000 in
set_option maxRecDepth 100000 in
theorem slices_Index_uint32_uint32.calls (k : Nat) (A0 : Option Addr) (c0 : Nat) (l0 : List Int) (a1 : Int) (r : Int) (w : World) (hr0 : Kd.C (Kd.int .u32) w A0 l0.length l0) (hc0 : l0.length ≤ c0) (h : slices_Index_uint32_uint32.f k l0 a1 = some r) :
  Calls Tryd.prog 111 #[.slice A0 l0.length c0, .int .u32 a1] w fun e w' => e = .returned (.int .i64 r) ∧ Drawn0 w w' := by
 have HR0 := aM hr0; have HC0 := aM hc0; clear hr0 hc0; have H : (slices_Index_uint32_uint32.l0 k l0 a1 (l0.length : Int) 0) = some r := h; clear h; have H' := aM H; clear H
 go_enter Tryd.func111, Tryd.ntmps111
 go_wp2
 go_loopg [8] k (fun kq v8 w' => ∃ (x8_1 : Int), v8 = .int .i64 x8_1 ∧ Aside0 (slices_Index_uint32_uint32.l0 kq l0 a1 (l0.length : Int) x8_1 = some r) ∧ Aside0 (kq ≤ k) ∧ Drawn0 w w')
 case atStart => exact ⟨(0), (by first | rfl | (simp; done) | (simp [*]; done)), H', ⟨Nat.le_refl _⟩, by repeat (first | exact Drawn0.refl _ | apply Drawn0.step)⟩
 case round =>
  clear H'
  try clear c1
  try clear p2
  obtain ⟨x8_1, rfl, HA, HK1, ⟨m1, rfl⟩⟩ := hrel
  cases gk with
  | zero => exact absurd HA.out (by simp [slices_Index_uint32_uint32.l0])
  | succ k1 =>
   have H := HA.out; clear HA; simp only [slices_Index_uint32_uint32.l0] at H
   by_cases c3 : x8_1 < (l0.length : Int)
   ·rw [if_pos c3] at H; have c3b0 : decide (x8_1 < (l0.length : Int)) = true := decide_eq_true c3; clear c3
    by_cases c4 : 0 ≤ x8_1
    ·rw [if_pos c4] at H; have c4b0 : decide (0 ≤ x8_1) = true := decide_eq_true c4; clear c4
     by_cases c5 : x8_1 < (l0.length : Int)
     ·rw [if_pos c5] at H; have c5b0 : decide (x8_1 < (l0.length : Int)) = true := decide_eq_true c5; clear c5
      by_cases c6 : a1 = (rd l0 x8_1)
      ·rw [if_pos c6] at H; have c6b0 : (a1 == (rd l0 x8_1)) = true := beq_iff_eq.mpr c6; have c6b1 : (a1 != (rd l0 x8_1)) = false := bne_eq_false_iff_eq.mpr c6; clear c6; obtain rfl := Option.some.inj H; have p127 : 0 ≤ (x8_1 : Int) := of_decide_eq_true (by first | (with_reducible assumption) | assumption); have q127 : x8_1 < (l0.length : Int) := of_decide_eq_true (by first | (with_reducible assumption) | assumption); obtain ⟨ad127, e127, hx127_0⟩ := Kd.at_int HR0.out x8_1 p127 q127
       cases e127
       replace p127 := eq_true p127; replace q127 := eq_true q127
       go_wp2
       go_ret
       exact ⟨by first | rfl | (simp; done) | (simp [*]; done), by repeat (first | exact Drawn0.refl _ | apply Drawn0.step)⟩
      ·rw [if_neg c6] at H; have c6b0 : (a1 == (rd l0 x8_1)) = false := beq_eq_false_iff_ne.mpr c6; have c6b1 : (a1 != (rd l0 x8_1)) = true := bne_iff_ne.mpr c6; have H' := aM H; clear H; have p127 : 0 ≤ (x8_1 : Int) := of_decide_eq_true (by first | (with_reducible assumption) | assumption); have q127 : x8_1 < (l0.length : Int) := of_decide_eq_true (by first | (with_reducible assumption) | assumption); obtain ⟨ad127, e127, hx127_0⟩ := Kd.at_int HR0.out x8_1 p127 q127
       cases e127
       replace p127 := eq_true p127; replace q127 := eq_true q127
       go_wp2
       go_roundg k1
       case measure => have := HK1.out; omega
       case rel => exact ⟨(wrap64 (x8_1 + 1)), (by first | rfl | (simp; done) | (simp [*]; done)), H', ⟨by have := HK1.out; omega⟩, by repeat (first | exact Drawn0.refl _ | apply Drawn0.step)⟩
     ·rw [if_neg c5] at H; exact absurd H (by simp)
    ·rw [if_neg c4] at H; exact absurd H (by simp)
   ·rw [if_neg c3] at H; have c3b0 : decide (x8_1 < (l0.length : Int)) = false := decide_eq_false c3; clear c3; obtain rfl := Option.some.inj H
    go_wp2
    go_ret
    exact ⟨by first | rfl | (simp; done) | (simp [*]; done), by repeat (first | exact Drawn0.refl _ | apply Drawn0.step)⟩

/-! ### slices_Contains_uint32_uint32: function 91 -/
def slices_Contains_uint32_uint32.f (k : Nat) (l0 : List Int) (a1 : Int) : Option (Bool) := (slices_Index_uint32_uint32.f k l0 a1).bind fun t128 => (some (decide (t128 ≥ 0)))
theorem slices_Contains_uint32_uint32.mono : ∀ a0 a1 k, LeO (slices_Contains_uint32_uint32.f k a0 a1) (slices_Contains_uint32_uint32.f (k + 1) a0 a1) := by
 intro a0 a1 k
 unfold slices_Contains_uint32_uint32.f
 repeat' first
   | (with_reducible exact slices_Index_uint32_uint32.mono _ _ _)
   | (with_reducible exact LeO.refl _)
   | (with_reducible exact LeO.none _)
   | (with_reducible refine LeO.ite ?_ ?_)
   | (with_reducible refine LeO.bind ?_ (fun _ => ?_))
   | exact slices_Index_uint32_uint32.mono _ _ _
   | exact LeO.none _
   | refine LeO.ite ?_ ?_
   | refine LeO.bind ?_ (fun _ => ?_)
set_option maxHeartbeats 8000000 in
set_option maxRecDepth 100000 in
theorem slices_Contains_uint32_uint32.calls (k : Nat) (A0 : Option Addr) (c0 : Nat) (l0 : List Int) (a1 : Int) (r : Bool) (w : World) (hr0 : Kd.C (Kd.int .u32) w A0 l0.length l0) (hc0 : l0.length ≤ c0) (h : slices_Contains_uint32_uint32.f k l0 a1 = some r) :
  Calls Tryd.prog 91 #[.slice A0 l0.length c0, .int .u32 a1] w fun e w' => e = .returned (.bool r) ∧ Drawn0 w w' := by
 have HR0 := aM hr0; have HC0 := aM hc0; clear hr0 hc0; have H : ((slices_Index_uint32_uint32.f k l0 a1).bind fun t128 => (some (decide (t128 ≥ 0)))) = some r := h; clear h; replace H := Option.bind_eq_some_iff.mp H; obtain ⟨t128, A30, H⟩ := H; replace H : (some (decide (t128 ≥ 0))) = some r := H; have A3 := aM A30; clear A30; obtain rfl := Option.some.inj H
 go_enter Tryd.func91, Tryd.ntmps91
 go_wp2_with (first | ((with_reducible refine gate_callee (f := 111) rfl ?_); refine goesL_ (some 7) rfl rfl Tryd.func111 (by kernel_rfl) rfl #[.slice A0 l0.length c0, .int .u32 a1] rfl (by (try simp only [List.map_toArray, List.map_cons, List.map_nil]); first | done | rfl | (simp only [List.length_drop, List.length_take]; rfl)) ?_; (with_reducible refine (slices_Index_uint32_uint32.calls k _ _ l0 a1 t128 _ ?side1 ?side2 A3.out).mono ?_); (case side1 => repeat (first | exact HR0.out | (with_reducible refine cA ?_ _) | (with_reducible refine cN ?_ _) | (with_reducible refine cD ?_))); (case side2 => exact HC0.out); rintro e w' ⟨rfl, ⟨nd, rfl⟩⟩; refine ⟨_, rfl, ?_⟩))
 go_ret
 exact ⟨by first | rfl | (simp; done) | (simp [*]; done), by repeat (first | exact Drawn0.refl _ | apply Drawn0.step)⟩

/-! ### head_is: function 55 -/
def head_is.f (k : Nat) (a0 : Int) (l1 : List Int) : Option (Bool) := (slices_Contains_uint32_uint32.f k l1 a0).bind fun t129 => (some t129)
theorem head_is.mono : ∀ a0 a1 k, LeO (head_is.f k a0 a1) (head_is.f (k + 1) a0 a1) := by
 intro a0 a1 k
 unfold head_is.f
 repeat' first
   | (with_reducible exact slices_Contains_uint32_uint32.mono _ _ _)
   | (with_reducible exact LeO.refl _)
   | (with_reducible exact LeO.none _)
   | (with_reducible refine LeO.ite ?_ ?_)
   | (with_reducible refine LeO.bind ?_ (fun _ => ?_))
   | exact slices_Contains_uint32_uint32.mono _ _ _
   | exact LeO.none _
   | refine LeO.ite ?_ ?_
   | refine LeO.bind ?_ (fun _ => ?_)
set_option maxHeartbeats 8000000 in
set_option maxRecDepth 100000 in
theorem head_is.calls (k : Nat) (a0 : Int) (A1 : Option Addr) (c1 : Nat) (l1 : List Int) (r : Bool) (w : World) (hr1 : Kd.C (Kd.int .u32) w A1 l1.length l1) (hc1 : l1.length ≤ c1) (h : head_is.f k a0 l1 = some r) :
  Calls Tryd.prog 55 #[.int .u32 a0, .slice A1 l1.length c1] w fun e w' => e = .returned (.bool r) ∧ Drawn0 w w' := by
 have HR1 := aM hr1; have HC1 := aM hc1; clear hr1 hc1; have H : ((slices_Contains_uint32_uint32.f k l1 a0).bind fun t129 => (some t129)) = some r := h; clear h; replace H := Option.bind_eq_some_iff.mp H; obtain ⟨t129, A30, H⟩ := H; replace H : (some t129) = some r := H; have A3 := aM A30; clear A30; obtain rfl := Option.some.inj H
 go_enter Tryd.func55, Tryd.ntmps55
 go_wp2_with (first | ((with_reducible refine gate_callee (f := 91) rfl ?_); refine goesL_ (some 7) rfl rfl Tryd.func91 (by kernel_rfl) rfl #[.slice A1 l1.length c1, .int .u32 a0] rfl (by (try simp only [List.map_toArray, List.map_cons, List.map_nil]); first | done | rfl | (simp only [List.length_drop, List.length_take]; rfl)) ?_; (with_reducible refine (slices_Contains_uint32_uint32.calls k _ _ l1 a0 t129 _ ?side1 ?side2 A3.out).mono ?_); (case side1 => repeat (first | exact HR1.out | (with_reducible refine cA ?_ _) | (with_reducible refine cN ?_ _) | (with_reducible refine cD ?_))); (case side2 => exact HC1.out); rintro e w' ⟨rfl, ⟨nd, rfl⟩⟩; refine ⟨_, rfl, ?_⟩))
 go_ret
 exact ⟨by first | rfl | (simp; done) | (simp [*]; done), by repeat (first | exact Drawn0.refl _ | apply Drawn0.step)⟩

/-! ### head_reader_prog: function 25 (by hand) -/
/-! ### What span.Up's error, is and check tell -/
def oFst (o : Option (Int × Option Int)) : Int := (o.getD (0, none)).1
def oSnd (o : Option (Int × Option Int)) : Option Int := (o.getD (0, none)).2
theorem oPair (o : Option (Int × Option Int)) (h : ∃ x, o = some x) : o = some (oFst o, oSnd o) := by
 obtain ⟨x, rfl⟩ := h
 rfl
def upE (al : Int) : Option Int := oSnd (span_Up.f 5 0 al)
def upN (al : Int) : Int := oFst (span_Up.f 5 0 al)
theorem sum_two (m : Int) (h0 : 0 ≤ m) (h1 : m < 18446744073709551616) : span_Sum.f 5 [0, m] = some (m, none) := by
 have w1 : wrap64 (0 + 1) = 1 := hd_wrap64 (by decide) (by decide); have w2 : wrap64 (1 + 1) = 2 := hd_wrap64 (by decide) (by decide); have r1 : rd [0, m] 1 = m := rfl; have r0 : rd [0, m] 0 = 0 := rfl; have hl : (([0, m] : List Int).length : Int) = 2 := rfl
 have z0 : ((0 : Int) + 0) % 18446744073709551616 = 0 := by decide
 have z1 : ((0 : Int) + m) / 18446744073709551616 = 0 := by rw [Int.zero_add]; exact Int.ediv_eq_zero_of_lt h0 h1
 have z2 : ((0 : Int) + m) % 18446744073709551616 = m := by rw [Int.zero_add]; exact Int.emod_eq_of_lt h0 h1
 have z3 : ¬ ((0 : Int) + 0) / 18446744073709551616 > 0 := by decide
 clear h1
 unfold span_Sum.f
 rw [hl]; rw [span_Sum.l0, if_pos (by decide), if_pos (by decide), if_pos (by rw [hl]; decide), if_pos (by decide), r0, if_pos (by decide), if_neg z3, w1, z0]; rw [span_Sum.l0, if_pos (by decide), if_pos (by decide), if_pos (by rw [hl]; decide), if_pos (by decide), r1, if_pos h0, z1, if_neg (by decide), w2, z2]; rw [span_Sum.l0, if_neg (by decide)]
theorem up_some (al : Int) : ∃ x, span_Up.f 5 0 al = some x := by
 obtain ⟨t, ht⟩ : ∃ t, bits_OnesCount64.f al = some t := ⟨_, rfl⟩; have hs := sum_two _ (hd_wrap_in (al - 1)).1 (hd_wrap_in (al - 1)).2
 unfold span_Up.f
 rw [ht]; rw [Option.bind_some]
 by_cases h : t = 1
 ·rw [if_pos h, hs]; exact ⟨_, rfl⟩
 ·rw [if_neg h]; exact ⟨_, rfl⟩
theorem up_is (al : Int) : span_Up.f 5 0 al = some (upN al, upE al) := oPair (span_Up.f 5 0 al) (up_some al)
theorem up_at (al : Int) (w : World) : Calls Tryd.prog 53 #[.int .u64 0, .int .u64 al] w fun e w' => ∃ n er, e = .returned (.tuple #[.int .u64 n, errW er]) ∧ Aside0 (upE al = er) ∧ Below w.heap.size w w' :=
 (span_Up.calls 5 0 al _ _ w (up_is al)).mono fun _ _ h => ⟨_, _, h.1, ⟨rfl⟩, h.2⟩
def isV (t : Int) (l : List Int) : Bool := l.any (fun y => decide (t = y))
theorem idx_is (l : List Int) (t : Int) (hl : l.length < 100) : ∀ (d i k : Nat), i + d = l.length → ∃ r, slices_Index_uint32_uint32.l0 (k + d + 1) l t (l.length : Int) (i : Int) = some r ∧ decide (r ≥ 0) = (l.drop i).any (fun y => decide (t = y))
 | 0, i, k, h => ⟨-1, by rw [slices_Index_uint32_uint32.l0, if_neg (by omega)], by rw [List.drop_eq_nil_of_le (by omega)]; rfl⟩
 | d + 1, i, k, h => by
  have hi : i < l.length := by omega
  have e : rd l (i : Int) = l[i] := by simp [rd, List.getD_eq_getElem?_getD, List.getElem?_eq_getElem hi]
  have hw : wrap64 ((i : Int) + 1) = ((i + 1 : Nat) : Int) := by rw [hd_wrap64 (by omega) (by omega)]; omega
  obtain ⟨r, hr, hr2⟩ := idx_is l t hl d (i + 1) k (by omega); rw [show k + (d + 1) + 1 = (k + d + 1) + 1 by omega, slices_Index_uint32_uint32.l0, if_pos (by omega), if_pos (by omega), if_pos (by omega), e, List.drop_eq_getElem_cons hi, List.any_cons]
  by_cases ht : t = l[i]
  ·exact ⟨(i : Int), by rw [if_pos ht], by simp [ht]⟩
  ·refine ⟨r, by rw [if_neg ht, hw]; exact hr, ?_⟩; rw [hr2]
   simp [ht]
theorem is_is (t : Int) (l : List Int) (hl : l.length < 9) : head_is.f 10 t l = some (isV t l) := by
 obtain ⟨r, h1, h2⟩ := idx_is l t (by omega) l.length 0 (9 - l.length) (by omega); rw [show 9 - l.length + l.length + 1 = 10 by omega] at h1
 unfold head_is.f slices_Contains_uint32_uint32.f slices_Index_uint32_uint32.f isV
 have h3 : slices_Index_uint32_uint32.l0 10 l t (l.length : Int) 0 = some r := h1; rw [h3]; simp only [Option.bind_some]; rw [h2]
 rfl
theorem is_at (t : Int) (l : List Int) (A : Option Addr) (c : Nat) (w : World) (hr : Kd.C (Kd.int .u32) w A l.length l) (hc : l.length ≤ c) (hl : l.length < 9) :
  Calls Tryd.prog 55 #[.int .u32 t, .slice A l.length c] w fun e w' => e = .returned (.bool (isV t l)) ∧ Below w.heap.size w w' :=
 (head_is.calls 10 t A c l _ w hr hc (is_is t l hl)).mono fun _ _ h => ⟨h.1, h.2.below⟩
def checkV (p : Int) : List S124 → Option Int
 | [] => none
 | t :: r => if t.f0 = true then some (spZ (IntKind.u64.wrap (p + t.f2)) t.f1) else checkV p r
theorem check_is (p : Int) (l : List S124) (hl : l.length < 100) (hc : ∀ t ∈ l, 0 ≤ t.f1) : ∀ (d i k : Nat), i + d = l.length → head_check.l0 (k + d + 1) p l (l.length : Int) (i : Int) = some (checkV p (l.drop i))
 | 0, i, k, h => by rw [head_check.l0, if_neg (by omega), List.drop_eq_nil_of_le (by omega)]; rfl
 | d + 1, i, k, h => by
  have hi : i < l.length := by omega
  have e : rd_T124 l (i : Int) = l[i] := by simp [rd_T124, List.getD_eq_getElem?_getD, List.getElem?_eq_getElem hi]
  have hw : wrap64 ((i : Int) + 1) = ((i + 1 : Nat) : Int) := by rw [hd_wrap64 (by omega) (by omega)]; omega
  have ih := check_is p l hl hc d (i + 1) k (by omega); have h1 := hc l[i] (List.getElem_mem hi); have h2 := hd_wrap_in (p + l[i].f2); rw [show k + (d + 1) + 1 = (k + d + 1) + 1 by omega, head_check.l0, if_pos (by omega), if_pos (by omega), if_pos (by omega), e, List.drop_eq_getElem_cons hi, checkV]
  by_cases ht : l[i].f0 = true
  ·rw [if_pos ht, if_pos ht]
   unfold head_spot.f
   rw [if_pos h2.1, if_pos h2.2, if_pos h1]
   rfl
  ·rw [if_neg ht, if_neg ht, hw]; exact ih
theorem check_at (p : Int) (l : List S124) (A : Option Addr) (c : Nat) (w : World) (hr : Kd.C k124 w A l.length l) (hcc : l.length ≤ c) (hl : l.length = 8) (hc : ∀ t ∈ l, 0 ≤ t.f1) :
  Calls Tryd.prog 54 #[.int .u64 p, .slice A l.length c] w fun e w' => ∃ ve : Value, e = .returned ve ∧ ErrAt 32 103 105 w' w.heap.size (checkV p l) ve ∧ Below w.heap.size w w' :=
 head_check.calls 10 p A c l _ w hr hcc (by
  have h := check_is p l (by omega) hc l.length 0 1 (by omega); rw [hl] at h
  unfold head_check.f
  rw [hl]
  exact h)
theorem sin_at (s a b : Int) (n : Nat) (hs : s = (n : Int)) (hn : n < 281474976710656) (w : World) (ha : 0 ≤ a) :
  Calls Tryd.prog 56 #[.int .u64 s, .int .u64 a, .int .u64 b] w fun e w' => e = .returned (.bool (liesB n a b)) ∧ Below w.heap.size w w' := by
 subst hs
 refine (span_In.calls (n : Int) a b (liesB n a b) w ?_).mono fun _ _ h => ⟨h.1, h.2.below⟩
 unfold span_In.f liesB
 by_cases h : a ≤ (n : Int)
 ·have hw2 : IntKind.u64.wrap ((n : Int) - a) = (n : Int) - a := hd_uwrap (by omega) (by omega); rw [if_pos h, hw2]
  simp [h]
 ·rw [if_neg h]
  simp [h]

/-! The same, what they tell being letters. -/
theorem is_at2 (t : Int) (l : List Int) (b : Bool) (h : isV t l = b) (A : Option Addr) (c : Nat) (w : World) (hr : Kd.C (Kd.int .u32) w A l.length l) (hc : l.length ≤ c) (hl : l.length < 9) :
  Calls Tryd.prog 55 #[.int .u32 t, .slice A l.length c] w fun e w' => e = .returned (.bool b) ∧ Below w.heap.size w w' := by
 subst h; exact is_at t l A c w hr hc hl
theorem fin_at2 (A0 : Option Addr) (c0 : Nat) (l : List Int) (a b : Int) (r : Bool) (h : liesB l.length a b = r) (w : World) (hr : Kd.C (Kd.int .u8) w A0 l.length l) (hc : l.length ≤ c0) (hn : l.length < 140737488355328) (ha : 0 ≤ a) :
  Calls Tryd.prog 42 #[.agg #[.slice A0 l.length c0], .int .u64 a, .int .u64 b] w fun e w' => e = .returned (.bool r) ∧ Below w.heap.size w w' := by
 subst h; exact fin_at A0 c0 l a b w hr hc hn ha
theorem sin_at2 (a b : Int) (r : Bool) (h : liesB 140737488355328 a b = r) (w : World) (ha : 0 ≤ a) :
  Calls Tryd.prog 56 #[.int .u64 140737488355328, .int .u64 a, .int .u64 b] w fun e w' => e = .returned (.bool r) ∧ Below w.heap.size w w' := by
 subst h; exact sin_at 140737488355328 a b 140737488355328 rfl (by decide) w ha
theorem check_at2 (p : Int) (l : List S124) (r : Option Int) (h : checkV p l = r) (A : Option Addr) (c : Nat) (w : World) (hr : Kd.C k124 w A l.length l) (hcc : l.length ≤ c) (hl : l.length = 8) (hc : ∀ t ∈ l, 0 ≤ t.f1) :
  Calls Tryd.prog 54 #[.int .u64 p, .slice A 8 c] w fun e w' => ∃ ve : Value, e = .returned ve ∧ ErrAt 32 103 105 w' w.heap.size r ve ∧ Below w.heap.size w w' := by
 subst h; have h8 := check_at p l A c w hr hcc hl hc; rw [hl] at h8; exact h8
theorem errNe (er : Option Int) : ∃ v : Value, errW er = v ∧ (∀ W, (binOp .neq 29 v .nilIface).run Tryd.prog W = .ok (.bool er.isSome) W) ∧ ∀ (x : Operand) (W : World), (eqGuard .neq 29 x (.const .nilIface) v .nilIface).run Tryd.prog W = .ok () W := by
 cases er with
 | none => exact ⟨_, rfl, fun W => by kernel_rfl, fun x W => by cases x <;> rfl⟩
 | some c => exact ⟨_, rfl, fun W => by kernel_rfl, fun x W => rfl⟩
def is2L : List Int := [2, 3, 7, 1685382482, 1685382481]
def is3L : List Int := [1, 2, 3, 4, 7]
def is4L : List Int := [1, 2, 7, 1685382482]

/-! ### (*reader).prog -/
/-- The program header that lies at a place. -/
def progX (l : List Int) (p : Int) : S50 :=
 ⟨IntKind.u32.wrap (getV l p 4), IntKind.u32.wrap (getV l (IntKind.u64.wrap (p + 4)) 4), getV l (IntKind.u64.wrap (p + 8)) 8, getV l (IntKind.u64.wrap (p + 16)) 8, getV l (IntKind.u64.wrap (p + 32)) 8, getV l (IntKind.u64.wrap (p + 40)) 8, getV l (IntKind.u64.wrap (p + 48)) 8⟩
/-- What is tested of it, with those ahead of it and the end of their pages. -/
def progT (l : List Int) (X : S50) (ps : List S50) (nd : Int) : List S124 :=
 [⟨(ps.any fun x => x.f0 == X.f0) && isV X.f0 is2L, 5, 0⟩, ⟨!(liesB l.length X.f2 X.f4) && isV X.f0 is3L, 4, 8⟩, ⟨!(liesB 140737488355328 X.f3 X.f5) && isV X.f0 is4L, 4, 16⟩,
 ⟨((X.f0 == 1) || (X.f0 == 7)) && decide (X.f5 < X.f4), 3, 32⟩, ⟨((X.f0 == 1) || ((X.f0 == 7) && (X.f6 != 0))) && ((upE X.f6).isSome || decide (1048576 < X.f6)), 3, 48⟩, ⟨(X.f0 == 1) && (X.f5 == 0), 3, 40⟩, ⟨(X.f0 == 1) && decide (X.f6 < 4096), 3, 48⟩,
 ⟨(X.f0 == 1) && ((X.f2.tmod (if X.f6 < 1 then (1 : Int) else X.f6) != X.f3.tmod (if X.f6 < 1 then (1 : Int) else X.f6)) || decide (Go.bits .andNot .u64 X.f3 4095 < nd)), 3, 16⟩]
def endV (X : S50) : Int := Go.bits .andNot .u64 (IntKind.u64.wrap (IntKind.u64.wrap (IntKind.u64.wrap (X.f3 + X.f5) + 4096) - 1)) 4095
/-- (*reader).prog: the error; the headers; the end of the pages. -/
def progV (l : List Int) (p : Int) (ps : List S50) (nd : Int) : Option Int × List S50 × Int :=
 match checkV p (progT l (progX l p) ps nd) with
 | some q => (some q, ps, nd)
 | none => (none, ps ++ [progX l p], if (progX l p).f0 == 1 then endV (progX l p) else nd)
def zero50 : Array Value := #[.int .u32 0, .int .u32 0, .int .u64 0, .int .u64 0, .int .u64 0, .int .u64 0, .int .u64 0]
theorem size50 : (Tryd.prog.info? 50).map (·.size) = some 7 := by kernel_rfl

theorem below_row {w0 w : World} {g : Nat} (hb : Below w0.heap.size w0 w) (hg : w0.heap.size ≤ g) (cs : Array Value) : Below w0.heap.size w0 (w.setRow g cs) :=
 below_setRow hb hg cs
theorem storeRow_ {P : Program} {ops : Array Oper} {Q : Exit → Act → World → Prop} {oi : Oper} {a : Act} {w : World} {K : Act → World → Prop} (hw : Region.wanted oi (yielded ops a.tmps) = true) (hN : oi.dst = none) (ty : TypeId) (x y : Operand) (ho : oi.op = .store ty x y)
  (g : Nat) (cells : Array Value) (hx : a.eval x = .pointer (some ⟨g, 0, none⟩)) (hy : a.eval y = .agg cells) (t : TypeId) (old : Array Value) (hg : w.heap[g]? = some (.cells old t (0, 0))) (hi : (P.info? ty).map (·.size) = some cells.size)
  (hold : old.size = cells.size) (h1 : cells.all (·.oneCell') = true) (h : K a (w.setRow g cells)) : if Region.wanted oi (yielded ops a.tmps) = true then Oper.wp P oi a w K Q else K (a.put none undef) w := by
 rw [if_pos hw]; refine wp_store_row ty x y ho g cells hx hy t old hg hi hold h1 ?_; rw [hN]; exact h
theorem info50_ : (Tryd.prog.info? 50).map (fun i => (i.zero, i.size, i.bytes)) = some (some (.agg zero50), 7, 48) := by kernel_rfl
theorem Kd.cell_alloc {w : World} {a : Addr} {v : Value} {o : Obj} (h : w.cell? a = some v) : (w.alloc o).cell? a = some v := ((below_alloc (Below.refl w.heap.size w) o).cell (World.block_lt_of_cell? w _ h)).trans h
theorem Kd.cell_grown {w w1 : World} {g i : Nat} {row : Option Nat} {v : Value} (h : w.cell? ⟨g, i, none⟩ = some v) (hg : w.grownBy w1 row) (hne : some g ≠ row) : w1.cell? ⟨g, i, none⟩ = some v := by
 have hlt : g < w.heap.size := World.block_lt_of_cell? w _ h; have := hg.block g hlt hne
 unfold World.cell? at *
 rw [this]; exact h
theorem Rdr.grown {w w1 : World} {gb : Nat} {A0 : Option Addr} {c0 : Nat} {l : List Int} {ty en : Int} {pv : Value} {nd : Int} {row : Option Nat} (h : Rdr w gb A0 c0 l ty en pv nd) (hg : w.grownBy w1 row) (hne : some gb ≠ row) : Rdr w1 gb A0 c0 l ty en pv nd :=
 ⟨blk_grown h.at_ hg hne, h.cap⟩
theorem Rdr.setP {w : World} {gb : Nat} {A0 : Option Addr} {c0 : Nat} {l : List Int} {ty en : Int} {pv : Value} {nd : Int} (h : Rdr w gb A0 c0 l ty en pv nd) (v : Value) : Rdr (w.setCell ⟨gb, 3, none⟩ v) gb A0 c0 l ty en v nd :=
 ⟨blk_set h.at_ 3 v, h.cap⟩
theorem Rdr.setE {w : World} {gb : Nat} {A0 : Option Addr} {c0 : Nat} {l : List Int} {ty en : Int} {pv : Value} {nd : Int} (h : Rdr w gb A0 c0 l ty en pv nd) (n : Int) : Rdr (w.setCell ⟨gb, 4, none⟩ (.int .u64 n)) gb A0 c0 l ty en pv n :=
 ⟨blk_set h.at_ 4 _, h.cap⟩
theorem alloc_at (w : World) (o : Obj) : (w.alloc o).heap[w.heap.size]? = some o := by unfold World.alloc; simp
theorem Rdr.row {w : World} {gb : Nat} {A0 : Option Addr} {c0 : Nat} {l : List Int} {ty en : Int} {pv : Value} {nd : Int} {gx : Nat} (h : Rdr w gb A0 c0 l ty en pv nd) (cs : Array Value) (hne : gb ≠ gx) : Rdr (w.setRow gx cs) gb A0 c0 l ty en pv nd :=
 ⟨(setRow_other w gx gb cs hne).trans h.at_, h.cap⟩
theorem Rdr.alc {w : World} {gb : Nat} {A0 : Option Addr} {c0 : Nat} {l : List Int} {ty en : Int} {pv : Value} {nd : Int} (_h : Rdr w gb A0 c0 l ty en pv nd) (o : Obj) : (w.alloc o).heap[w.heap.size]? = some o := alloc_at w o


end Go.Proofs.YtjohdgejjnbddaaDoor.PHeadNotes
