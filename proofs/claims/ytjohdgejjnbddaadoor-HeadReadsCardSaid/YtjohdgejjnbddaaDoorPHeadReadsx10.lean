/- Printed by this session's own program (wip/tools: a turn of the kit's print) out of the translation: each Go function that the law reaches as a Lean function, and that the machine's call comes to what that function tells; no condition but what each theorem names. -/
import Derived.Test.YtjohdgejjnbddaaDoorPHeadReadsx0
namespace Go.Proofs.YtjohdgejjnbddaaDoor.PHeadReads
open Go.RowKit Go.Proofs.YtjohdgejjnbddaaDoorW.PrintWords Go.Proofs.YtjohdgejjnbddaaDoorW.PrintLast Go.Proofs.YtjohdgejjnbddaaDoorW.PrintMore Go.Proofs.YtjohdgejjnbddaaDoorX
attribute [local go_sem] max2_int min2_int max_two min_two max_three min_three max_four min_four   -- for this text's walks alone
set_option linter.unusedVariables false
set_option linter.unusedSimpArgs false

/-! ### shackleref04_among: function 59 -/
def shackleref04_among.l0 : Nat → Int → List Int → Int → Option (Bool)
 | 0, _, _, _ => none
 | k + 1, x0, x1, x5 => if x5 < (x1.length : Int) then (if 0 ≤ x5 then (if (rd x1 x5) = x0 then (some true) else (shackleref04_among.l0 k x0 x1 (wrap64 (x5 + 1)))) else (none)) else (some false)
def shackleref04_among.f (k : Nat) (a0 : Int) (l1 : List Int) : Option (Bool) := shackleref04_among.l0 k a0 l1 0
theorem shackleref04_among.mono_l : ∀ k, (∀ y0 y1 y2, LeO (shackleref04_among.l0 k y0 y1 y2) (shackleref04_among.l0 (k + 1) y0 y1 y2))
 | 0 => fun _ _ _ r h => by simp [shackleref04_among.l0] at h
 | k + 1 => by
  have ih0 := shackleref04_among.mono_l k
  ·intro y0 y1 y2
   unfold shackleref04_among.l0
   repeat' first
   | (with_reducible exact ih0 _ _ _)
   | (with_reducible exact LeO.refl _)
   | (with_reducible exact LeO.none _)
   | (with_reducible refine LeO.ite ?_ ?_)
   | (with_reducible refine LeO.bind ?_ (fun _ => ?_))
   | exact ih0 _ _ _
   | exact LeO.none _
   | refine LeO.ite ?_ ?_
   | refine LeO.bind ?_ (fun _ => ?_)
theorem shackleref04_among.mono : ∀ a0 a1 k, LeO (shackleref04_among.f k a0 a1) (shackleref04_among.f (k + 1) a0 a1) := by
 intro a0 a1 k; have ih0 := shackleref04_among.mono_l k
 unfold shackleref04_among.f
 repeat' first
   | (with_reducible exact ih0 _ _ _)
   | (with_reducible exact LeO.refl _)
   | (with_reducible exact LeO.none _)
   | (with_reducible refine LeO.ite ?_ ?_)
   | (with_reducible refine LeO.bind ?_ (fun _ => ?_))
   | exact ih0 _ _ _
   | exact LeO.none _
   | refine LeO.ite ?_ ?_
   | refine LeO.bind ?_ (fun _ => ?_)
set_option maxHeartbeats 8000000 in
set_option maxRecDepth 100000 in
theorem shackleref04_among.calls (k : Nat) (a0 : Int) (A1 : Option Addr) (c1 : Nat) (l1 : List Int) (r : Bool) (w : World) (hr1 : Kd.C (Kd.int .u32) w A1 l1.length l1) (hc1 : l1.length ≤ c1) (h : shackleref04_among.f k a0 l1 = some r) :
  Calls Tryd.prog 59 #[.int .u32 a0, .slice A1 l1.length c1] w fun e w' => e = .returned (.bool r) ∧ Drawn0 w w' := by
 have HR1 := aM hr1; have HC1 := aM hc1; clear hr1 hc1; have H : (shackleref04_among.l0 k a0 l1 0) = some r := h; clear h; have H' := aM H; clear H
 go_enter Tryd.func59, Tryd.ntmps59
 go_wp2
 go_loopg [5] k (fun kq v5 w' => ∃ (x5_1 : Int), v5 = .int .i64 x5_1 ∧ Aside0 (shackleref04_among.l0 kq a0 l1 x5_1 = some r) ∧ Aside0 (kq ≤ k) ∧ Drawn0 w w')
 case atStart => exact ⟨(0), (by first | rfl | (simp; done) | (simp [*]; done)), H', ⟨Nat.le_refl _⟩, by repeat (first | exact Drawn0.refl _ | apply Drawn0.step)⟩
 case round =>
  clear H'
  try clear c1
  try clear p2
  obtain ⟨x5_1, rfl, HA, HK1, ⟨m1, rfl⟩⟩ := hrel
  cases gk with
  | zero => exact absurd HA.out (by simp [shackleref04_among.l0])
  | succ k1 =>
   have H := HA.out; clear HA; simp only [shackleref04_among.l0] at H
   by_cases c3 : x5_1 < (l1.length : Int)
   ·rw [if_pos c3] at H; have c3b0 : decide (x5_1 < (l1.length : Int)) = true := decide_eq_true c3; clear c3
    by_cases c4 : 0 ≤ x5_1
    ·rw [if_pos c4] at H; have c4b0 : decide (0 ≤ x5_1) = true := decide_eq_true c4; clear c4
     by_cases c5 : (rd l1 x5_1) = a0
     ·rw [if_pos c5] at H; have c5b0 : ((rd l1 x5_1) == a0) = true := beq_iff_eq.mpr c5; have c5b1 : ((rd l1 x5_1) != a0) = false := bne_eq_false_iff_eq.mpr c5; clear c5; obtain rfl := Option.some.inj H; have p188 : 0 ≤ (x5_1 : Int) := of_decide_eq_true (by first | (with_reducible assumption) | assumption); have q188 : x5_1 < (l1.length : Int) := of_decide_eq_true (by first | (with_reducible assumption) | assumption); obtain ⟨ad188, e188, hx188_0⟩ := Kd.at_int HR1.out x5_1 p188 q188
      cases e188
      replace p188 := eq_true p188; replace q188 := eq_true q188
      go_wp2
      go_ret
      exact ⟨by first | rfl | (simp; done) | (simp [*]; done), by repeat (first | exact Drawn0.refl _ | apply Drawn0.step)⟩
     ·rw [if_neg c5] at H; have c5b0 : ((rd l1 x5_1) == a0) = false := beq_eq_false_iff_ne.mpr c5; have c5b1 : ((rd l1 x5_1) != a0) = true := bne_iff_ne.mpr c5; have H' := aM H; clear H; have p188 : 0 ≤ (x5_1 : Int) := of_decide_eq_true (by first | (with_reducible assumption) | assumption); have q188 : x5_1 < (l1.length : Int) := of_decide_eq_true (by first | (with_reducible assumption) | assumption); obtain ⟨ad188, e188, hx188_0⟩ := Kd.at_int HR1.out x5_1 p188 q188
      cases e188
      replace p188 := eq_true p188; replace q188 := eq_true q188
      go_wp2
      go_roundg k1
      case measure => have := HK1.out; omega
      case rel => exact ⟨(wrap64 (x5_1 + 1)), (by first | rfl | (simp; done) | (simp [*]; done)), H', ⟨by have := HK1.out; omega⟩, by repeat (first | exact Drawn0.refl _ | apply Drawn0.step)⟩
    ·rw [if_neg c4] at H; exact absurd H (by simp)
   ·rw [if_neg c3] at H; have c3b0 : decide (x5_1 < (l1.length : Int)) = false := decide_eq_false c3; clear c3; obtain rfl := Option.some.inj H
    go_wp2
    go_ret
    exact ⟨by first | rfl | (simp; done) | (simp [*]; done), by repeat (first | exact Drawn0.refl _ | apply Drawn0.step)⟩

/-! ### shackleref04_power: function 60 -/
def shackleref04_power.l0 : Nat → Int → Int → Option (Bool)
 | 0, _, _ => none
 | k + 1, x0, x3 => if x3 ≤ 20 then (if 0 ≤ x3 then (if x0 = (shl .u64 1 x3) then (some true) else (shackleref04_power.l0 k x0 (wrap64 (x3 + 1)))) else (none)) else (some false)
def shackleref04_power.f (k : Nat) (a0 : Int) : Option (Bool) := shackleref04_power.l0 k a0 0
theorem shackleref04_power.mono_l : ∀ k, (∀ y0 y1, LeO (shackleref04_power.l0 k y0 y1) (shackleref04_power.l0 (k + 1) y0 y1))
 | 0 => fun _ _ r h => by simp [shackleref04_power.l0] at h
 | k + 1 => by
  have ih0 := shackleref04_power.mono_l k
  ·intro y0 y1
   unfold shackleref04_power.l0
   repeat' first
   | (with_reducible exact ih0 _ _)
   | (with_reducible exact LeO.refl _)
   | (with_reducible exact LeO.none _)
   | (with_reducible refine LeO.ite ?_ ?_)
   | (with_reducible refine LeO.bind ?_ (fun _ => ?_))
   | exact ih0 _ _
   | exact LeO.none _
   | refine LeO.ite ?_ ?_
   | refine LeO.bind ?_ (fun _ => ?_)
theorem shackleref04_power.mono : ∀ a0 k, LeO (shackleref04_power.f k a0) (shackleref04_power.f (k + 1) a0) := by
 intro a0 k; have ih0 := shackleref04_power.mono_l k
 unfold shackleref04_power.f
 repeat' first
   | (with_reducible exact ih0 _ _)
   | (with_reducible exact LeO.refl _)
   | (with_reducible exact LeO.none _)
   | (with_reducible refine LeO.ite ?_ ?_)
   | (with_reducible refine LeO.bind ?_ (fun _ => ?_))
   | exact ih0 _ _
   | exact LeO.none _
   | refine LeO.ite ?_ ?_
   | refine LeO.bind ?_ (fun _ => ?_)
set_option maxHeartbeats 8000000 in
set_option maxRecDepth 100000 in
theorem shackleref04_power.calls (k : Nat) (a0 : Int) (r : Bool) (w : World) (h : shackleref04_power.f k a0 = some r) :
  Calls Tryd.prog 60 #[.int .u64 a0] w fun e w' => e = .returned (.bool r) ∧ Drawn0 w w' := by
 have H : (shackleref04_power.l0 k a0 0) = some r := h; clear h; have H' := aM H; clear H
 go_enter Tryd.func60, Tryd.ntmps60
 go_wp2
 go_loopg [3] k (fun kq v3 w' => ∃ (x3_1 : Int), v3 = .int .i64 x3_1 ∧ Aside0 (shackleref04_power.l0 kq a0 x3_1 = some r) ∧ Aside0 (kq ≤ k) ∧ Drawn0 w w')
 case atStart => exact ⟨(0), (by first | rfl | (simp; done) | (simp [*]; done)), H', ⟨Nat.le_refl _⟩, by repeat (first | exact Drawn0.refl _ | apply Drawn0.step)⟩
 case round =>
  clear H'; obtain ⟨x3_1, rfl, HA, HK1, ⟨m1, rfl⟩⟩ := hrel
  cases gk with
  | zero => exact absurd HA.out (by simp [shackleref04_power.l0])
  | succ k1 =>
   have H := HA.out; clear HA; simp only [shackleref04_power.l0] at H
   by_cases c2 : x3_1 ≤ 20
   ·rw [if_pos c2] at H; have c2b0 : decide (x3_1 ≤ 20) = true := decide_eq_true c2; clear c2
    by_cases c3 : 0 ≤ x3_1
    ·rw [if_pos c3] at H; have c3b0 := eq_true c3; have c3b1 : decide (0 ≤ x3_1) = true := decide_eq_true c3; clear c3; obtain ⟨ji4, hji4⟩ : ∃ j_ : Int, (shl .u64 1 x3_1) = j_ := ⟨_, rfl⟩
     replace H : (if a0 = (ji4) then (some true) else (shackleref04_power.l0 k1 a0 (wrap64 (x3_1 + 1)))) = some r := by first | (rw [hji4] at H; exact H) | (simp only [hji4] at H ⊢; exact H)
     have hji4_ : (IntKind.u64.wrap (1 * 2 ^ min x3_1.toNat 64)) = ji4 := hji4; have hji4z : x3_1 ≤ 64 → (IntKind.u64.wrap (1 * 2 ^ x3_1.toNat)) = ji4 := shl_small hji4
     have hji4u : (IntKind.u64.wrap (2 ^ min x3_1.toNat 64)) = ji4 := by have h_ := hji4_; rw [Int.one_mul] at h_; exact h_
     have hji4v : x3_1 ≤ 64 → (IntKind.u64.wrap (2 ^ x3_1.toNat)) = ji4 := fun hle_ => by have h_ := hji4z hle_; rw [Int.one_mul] at h_; exact h_
     by_cases c5 : a0 = (ji4)
     ·rw [if_pos c5] at H; have c5b0 : (a0 == (ji4)) = true := beq_iff_eq.mpr c5; have c5b1 : (a0 != (ji4)) = false := bne_eq_false_iff_eq.mpr c5; clear c5; obtain rfl := Option.some.inj H
      go_wp2
      go_ret
      exact ⟨by first | rfl | (simp; done) | (simp only [← hji4] <;> (first | rfl | simp)) | (simp [*]; done), by repeat (first | exact Drawn0.refl _ | apply Drawn0.step)⟩
     ·rw [if_neg c5] at H; have c5b0 : (a0 == (ji4)) = false := beq_eq_false_iff_ne.mpr c5; have c5b1 : (a0 != (ji4)) = true := bne_iff_ne.mpr c5; have H' := aM H; clear H
      go_wp2
      go_roundg k1
      case measure => have := HK1.out; omega
      case rel => exact ⟨(wrap64 (x3_1 + 1)), (by first | rfl | (simp; done) | (simp [*]; done)), H', ⟨by have := HK1.out; omega⟩, by repeat (first | exact Drawn0.refl _ | apply Drawn0.step)⟩
    ·rw [if_neg c3] at H; exact absurd H (by simp)
   ·rw [if_neg c2] at H; have c2b0 : decide (x3_1 ≤ 20) = false := decide_eq_false c2; clear c2; obtain rfl := Option.some.inj H
    go_wp2
    go_ret
    exact ⟨by first | rfl | (simp; done) | (simp [*]; done), by repeat (first | exact Drawn0.refl _ | apply Drawn0.step)⟩

end Go.Proofs.YtjohdgejjnbddaaDoor.PHeadReads
