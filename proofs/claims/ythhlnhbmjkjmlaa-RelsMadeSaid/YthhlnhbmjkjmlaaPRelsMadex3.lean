/- Printed by this session's own program (wip/tools: a turn of the kit's print) out of the translation: each Go function that the law reaches as a Lean function, and that the machine's call comes to what that function tells; no condition but what each theorem names. -/
import Derived.Test.YthhlnhbmjkjmlaaPRelsMadex0
namespace Go.Proofs.Ythhlnhbmjkjmlaa.PRelsMade
open Go.RowKit Go.Proofs.YthhlnhbmjkjmlaaW.PrintWords Go.Proofs.YthhlnhbmjkjmlaaW.PrintLast Go.Proofs.YthhlnhbmjkjmlaaW.PrintMore Go.Proofs.YthhlnhbmjkjmlaaX
attribute [local go_sem] max2_int min2_int max_two min_two max_three min_three max_four min_four   -- for this text's walks alone
set_option linter.unusedVariables false
set_option linter.unusedSimpArgs false

/-! ### rels_Pack: function 47 -/
mutual
def rels_Pack.l0 : Nat → List Int → List Int → Int → Int → Option (List Int × Option Int)
 | 0, _, _, _, _ => none
 | k + 1, x0, x9, x10, x11 => if x11 < x10 then (if 0 ≤ x11 then (if x11 < (x9.length : Int) then (if (Go.bits .and .u64 (rd x9 x11) 1) = 1 then (some (([] : List Int), some 3)) else (if x11 > 0 then (if 0 ≤ (wrap64 (x11 - 1)) then (if (wrap64 (x11 - 1)) < (x0.length : Int) then (if (rd x9 x11) ≤ (rd x0 (wrap64 (x11 - 1))) then (some (([] : List Int), some 3)) else (rels_Pack.l0 k x0 x9 x10 (wrap64 (x11 + 1)))) else (none)) else (none)) else (rels_Pack.l0 k x0 x9 x10 (wrap64 (x11 + 1))))) else (none)) else (none)) else (if (x0.length : Int) > 16384 then (some (([] : List Int), some 2)) else (rels_Pack.l1 k x0 ([] : List Int)))
def rels_Pack.l1 : Nat → List Int → List Int → Option (List Int × Option Int)
 | 0, _, _ => none
 | k + 1, x0, x6 => if (x0.length : Int) > 0 then (if 0 < (x0.length : Int) then (if x6.length < 17592186044416 then (if 1 ≤ (x0.length : Int) then (rels_Pack.l2 k (x0.drop 1) (x6 ++ [rd x0 0]) (IntKind.u64.wrap ((rd x0 0) + 8))) else (none)) else (none)) else (none)) else (some (x6, none))
def rels_Pack.l2 : Nat → List Int → List Int → Int → Option (List Int × Option Int)
 | 0, _, _, _ => none
 | k + 1, x0, x6, x7 => rels_Pack.l3 k x0 x6 x7 1
def rels_Pack.l3 : Nat → List Int → List Int → Int → Int → Option (List Int × Option Int)
 | 0, _, _, _, _ => none
 | k + 1, x0, x6, x7, x8 => if (x0.length : Int) > 0 then (if 0 < (x0.length : Int) then (if (rd x0 0) ≥ x7 then (if (Int.tmod (IntKind.u64.wrap ((rd x0 0) - x7)) 8) = 0 then (if (IntKind.u64.wrap (Int.tdiv (IntKind.u64.wrap ((rd x0 0) - x7)) 8)) < 63 then (if 0 ≤ (IntKind.u64.wrap ((IntKind.u64.wrap (Int.tdiv (IntKind.u64.wrap ((rd x0 0) - x7)) 8)) + 1)) then (if 1 ≤ (x0.length : Int) then (rels_Pack.l3 k (x0.drop 1) x6 x7 (Go.bits .or .u64 x8 (shl .u64 1 (IntKind.u64.wrap ((IntKind.u64.wrap (Int.tdiv (IntKind.u64.wrap ((rd x0 0) - x7)) 8)) + 1))))) else (none)) else (none)) else (if x8 = 1 then (rels_Pack.l1 k x0 x6) else (if x6.length < 17592186044416 then (rels_Pack.l2 k x0 (x6 ++ [x8]) (IntKind.u64.wrap (x7 + 504))) else (none)))) else (if x8 = 1 then (rels_Pack.l1 k x0 x6) else (if x6.length < 17592186044416 then (rels_Pack.l2 k x0 (x6 ++ [x8]) (IntKind.u64.wrap (x7 + 504))) else (none)))) else (if x8 = 1 then (rels_Pack.l1 k x0 x6) else (if x6.length < 17592186044416 then (rels_Pack.l2 k x0 (x6 ++ [x8]) (IntKind.u64.wrap (x7 + 504))) else (none)))) else (none)) else (if x8 = 1 then (rels_Pack.l1 k x0 x6) else (if x6.length < 17592186044416 then (rels_Pack.l2 k x0 (x6 ++ [x8]) (IntKind.u64.wrap (x7 + 504))) else (none)))
end
def rels_Pack.f (k : Nat) (l0 : List Int) : Option (List Int × Option Int) := rels_Pack.l0 k l0 l0 (l0.length : Int) 0
theorem rels_Pack.mono_l : ∀ k, (∀ y0 y1 y2 y3, LeO (rels_Pack.l0 k y0 y1 y2 y3) (rels_Pack.l0 (k + 1) y0 y1 y2 y3)) ∧ (∀ y0 y1, LeO (rels_Pack.l1 k y0 y1) (rels_Pack.l1 (k + 1) y0 y1)) ∧ (∀ y0 y1 y2, LeO (rels_Pack.l2 k y0 y1 y2) (rels_Pack.l2 (k + 1) y0 y1 y2)) ∧ (∀ y0 y1 y2 y3, LeO (rels_Pack.l3 k y0 y1 y2 y3) (rels_Pack.l3 (k + 1) y0 y1 y2 y3))
 | 0 => ⟨fun _ _ _ _ r h => by simp [rels_Pack.l0] at h, fun _ _ r h => by simp [rels_Pack.l1] at h, fun _ _ _ r h => by simp [rels_Pack.l2] at h, fun _ _ _ _ r h => by simp [rels_Pack.l3] at h⟩
 | k + 1 => by
  obtain ⟨ih0, ih1, ih2, ih3⟩ := rels_Pack.mono_l k; refine ⟨?_, ?_, ?_, ?_⟩
  ·intro y0 y1 y2 y3
   unfold rels_Pack.l0
   repeat' first
   | (with_reducible exact ih0 _ _ _ _)
   | (with_reducible exact ih1 _ _)
   | (with_reducible exact ih2 _ _ _)
   | (with_reducible exact ih3 _ _ _ _)
   | (with_reducible exact LeO.refl _)
   | (with_reducible exact LeO.none _)
   | (with_reducible refine LeO.ite ?_ ?_)
   | (with_reducible refine LeO.bind ?_ (fun _ => ?_))
   | exact ih0 _ _ _ _
   | exact ih1 _ _
   | exact ih2 _ _ _
   | exact ih3 _ _ _ _
   | exact LeO.none _
   | refine LeO.ite ?_ ?_
   | refine LeO.bind ?_ (fun _ => ?_)
  ·intro y0 y1
   unfold rels_Pack.l1
   repeat' first
   | (with_reducible exact ih0 _ _ _ _)
   | (with_reducible exact ih1 _ _)
   | (with_reducible exact ih2 _ _ _)
   | (with_reducible exact ih3 _ _ _ _)
   | (with_reducible exact LeO.refl _)
   | (with_reducible exact LeO.none _)
   | (with_reducible refine LeO.ite ?_ ?_)
   | (with_reducible refine LeO.bind ?_ (fun _ => ?_))
   | exact ih0 _ _ _ _
   | exact ih1 _ _
   | exact ih2 _ _ _
   | exact ih3 _ _ _ _
   | exact LeO.none _
   | refine LeO.ite ?_ ?_
   | refine LeO.bind ?_ (fun _ => ?_)
  ·intro y0 y1 y2
   unfold rels_Pack.l2
   repeat' first
   | (with_reducible exact ih0 _ _ _ _)
   | (with_reducible exact ih1 _ _)
   | (with_reducible exact ih2 _ _ _)
   | (with_reducible exact ih3 _ _ _ _)
   | (with_reducible exact LeO.refl _)
   | (with_reducible exact LeO.none _)
   | (with_reducible refine LeO.ite ?_ ?_)
   | (with_reducible refine LeO.bind ?_ (fun _ => ?_))
   | exact ih0 _ _ _ _
   | exact ih1 _ _
   | exact ih2 _ _ _
   | exact ih3 _ _ _ _
   | exact LeO.none _
   | refine LeO.ite ?_ ?_
   | refine LeO.bind ?_ (fun _ => ?_)
  ·intro y0 y1 y2 y3
   unfold rels_Pack.l3
   repeat' first
   | (with_reducible exact ih0 _ _ _ _)
   | (with_reducible exact ih1 _ _)
   | (with_reducible exact ih2 _ _ _)
   | (with_reducible exact ih3 _ _ _ _)
   | (with_reducible exact LeO.refl _)
   | (with_reducible exact LeO.none _)
   | (with_reducible refine LeO.ite ?_ ?_)
   | (with_reducible refine LeO.bind ?_ (fun _ => ?_))
   | exact ih0 _ _ _ _
   | exact ih1 _ _
   | exact ih2 _ _ _
   | exact ih3 _ _ _ _
   | exact LeO.none _
   | refine LeO.ite ?_ ?_
   | refine LeO.bind ?_ (fun _ => ?_)
theorem rels_Pack.mono : ∀ a0 k, LeO (rels_Pack.f k a0) (rels_Pack.f (k + 1) a0) := by
 intro a0 k; obtain ⟨ih0, ih1, ih2, ih3⟩ := rels_Pack.mono_l k
 unfold rels_Pack.f
 repeat' first
   | (with_reducible exact ih0 _ _ _ _)
   | (with_reducible exact ih1 _ _)
   | (with_reducible exact ih2 _ _ _)
   | (with_reducible exact ih3 _ _ _ _)
   | (with_reducible exact LeO.refl _)
   | (with_reducible exact LeO.none _)
   | (with_reducible refine LeO.ite ?_ ?_)
   | (with_reducible refine LeO.bind ?_ (fun _ => ?_))
   | exact ih0 _ _ _ _
   | exact ih1 _ _
   | exact ih2 _ _ _
   | exact ih3 _ _ _ _
   | exact LeO.none _
   | refine LeO.ite ?_ ?_
   | refine LeO.bind ?_ (fun _ => ?_)
set_option maxHeartbeats 8000000 in
set_option maxRecDepth 100000 in
theorem rels_Pack.calls (k : Nat) (P0_ : Nat → Prop) (A0 : Option Addr) (c0 : Nat) (l0 : List Int) (r1 : List Int) (r2 : Option Int) (w : World) (hs0 : Kd.V (Kd.int .u64) 22 w w.heap.size (fun k_ => P0_ k_) (.slice A0 l0.length c0) l0) (h : rels_Pack.f k l0 = some (r1, r2)) :
  Calls Try.prog 47 #[.slice A0 l0.length c0] w fun e w' => ∃ v0_ : Value, e = .returned (.tuple #[v0_, errW r2]) ∧ Kd.R (Kd.int .u64) 22 w' w.heap.size (fun k_ => (w.heap.size ≤ k_)) v0_ r1 ∧ Below w.heap.size w w' := by
 have hu29 := Try.underlying29; have hu49 := Try.underlying49; have HO0 := aM (show Kd.V (Kd.int .u64) 22 w w.heap.size (fun k_ => (P0_ k_ ∨ w.heap.size ≤ k_)) (.slice A0 l0.length c0) l0 from Kd.V_mono hs0 (fun k_ hk => .inl hk)); have HB := aM (Below.refl w.heap.size w); have H : (rels_Pack.l0 k l0 l0 (l0.length : Int) 0) = some (r1, r2) := h; clear h; have H' := aM H; clear H
 go_enter Try.func47, Try.ntmps47
 repeat (go_step3)
 go_wp2
 repeat (go_step3; go_wp2)
 go_loopg [11] k (fun kq v11 w' => ∃ (x11_1 : Int), v11 = .int .i64 x11_1 ∧ Aside0 (rels_Pack.l0 kq l0 l0 (l0.length : Int) x11_1 = some (r1, r2)) ∧ Aside0 (kq ≤ k) ∧ Aside0 (Kd.V (Kd.int .u64) 22 w' w.heap.size (fun k_ => (P0_ k_ ∨ w.heap.size ≤ k_)) (.slice A0 l0.length c0) l0) ∧ Aside0 (Kd.V (Kd.int .u64) 22 w' w.heap.size (fun k_ => (P0_ k_ ∨ w.heap.size ≤ k_)) (.slice A0 l0.length c0) l0) ∧ Aside0 (Below w.heap.size w w'))
 case atStart => exact ⟨(0), (by first | rfl | (simp; done) | (simp [*]; done)), H', ⟨Nat.le_refl _⟩, ⟨by (with_reducible repeat (first | apply Kd.V_alloc | apply Kd.V_drewN | apply Kd.V_drew)); exact HO0.out⟩, ⟨by (with_reducible repeat (first | apply Kd.V_alloc | apply Kd.V_drewN | apply Kd.V_drew)); exact HO0.out⟩, ⟨by repeat (first | exact HB.out | apply bA | apply bN | apply bD)⟩⟩
 case round =>
  clear H'; obtain ⟨x11_1, rfl, HA, HK1, HO_0, HO_9, HB⟩ := hrel
  cases gk with
  | zero => exact absurd HA.out (by simp [rels_Pack.l0])
  | succ k1 =>
   have H := HA.out; clear HA; simp only [rels_Pack.l0] at H
   by_cases c2 : x11_1 < (l0.length : Int)
   ·rw [if_pos c2] at H; have c2b0 : decide (x11_1 < (l0.length : Int)) = true := decide_eq_true c2; clear c2
    by_cases c3 : 0 ≤ x11_1
    ·rw [if_pos c3] at H; have c3b0 : decide (0 ≤ x11_1) = true := decide_eq_true c3; clear c3
     by_cases c4 : x11_1 < (l0.length : Int)
     ·rw [if_pos c4] at H; have c4b0 : decide (x11_1 < (l0.length : Int)) = true := decide_eq_true c4; clear c4
      by_cases c5 : (Go.bits .and .u64 (rd l0 x11_1) 1) = 1
      ·rw [if_pos c5] at H; have c5b0 : ((Go.bits .and .u64 (rd l0 x11_1) 1) == 1) = true := beq_iff_eq.mpr c5; have c5b1 : ((Go.bits .and .u64 (rd l0 x11_1) 1) != 1) = false := bne_eq_false_iff_eq.mpr c5; clear c5; simp only [Option.some.injEq, Prod.mk.injEq] at H; obtain ⟨rfl, rfl⟩ := H; have p108 : 0 ≤ (x11_1 : Int) := of_decide_eq_true (by first | (with_reducible assumption) | assumption); have q108 : x11_1 < (l0.length : Int) := of_decide_eq_true (by first | (with_reducible assumption) | assumption); obtain ⟨ad108, e108, hx108_0⟩ := Kd.at_int (Kd.V_reads' HO_9.out).2.2 x11_1 p108 q108
       cases e108
       replace p108 := eq_true p108; replace q108 := eq_true q108
       go_wp2
       repeat (go_step3; go_wp2)
       (try rw [Exit.noGoto_ret])
       go_ret2
       exact ⟨_, by first | rfl | (simp [errW_none, errW_some] <;> rfl) | (simp [*, errW_none, errW_some] <;> rfl), by first | exact Kd.R_nil _ _ _ _ _ | exact Kd.N_nil _ _ _ _ _ | exact Kd.V_nil _ _ _ _ _ | exact Kd.Q_nil _ _ _ _ _ | exact Kd.S_nil _ _ _ _ _, by repeat (first | exact HB.out | apply bA | apply bN | apply bD)⟩
      ·rw [if_neg c5] at H; have c5b0 : ((Go.bits .and .u64 (rd l0 x11_1) 1) == 1) = false := beq_eq_false_iff_ne.mpr c5; have c5b1 : ((Go.bits .and .u64 (rd l0 x11_1) 1) != 1) = true := bne_iff_ne.mpr c5
       by_cases c6 : x11_1 > 0
       ·rw [if_pos c6] at H; have c6b0 : decide (0 < x11_1) = true := decide_eq_true c6; clear c6; obtain ⟨ji7, hji7⟩ : ∃ j_ : Int, (wrap64 (x11_1 - 1)) = j_ := ⟨_, rfl⟩
        replace H : (if 0 ≤ (ji7) then (if (ji7) < (l0.length : Int) then (if (rd l0 x11_1) ≤ (rd l0 (ji7)) then (some (([] : List Int), some 3)) else (rels_Pack.l0 k1 l0 l0 (l0.length : Int) (wrap64 (x11_1 + 1)))) else (none)) else (none)) = some (r1, r2) := by first | (rw [hji7] at H; exact H) | (simp only [hji7] at H ⊢; exact H)
        have hji7w : (IntKind.i64.wrap (x11_1 - 1)) = ji7 := (i64_w _).trans hji7
        by_cases c8 : 0 ≤ (ji7)
        ·rw [if_pos c8] at H; have c8b0 : decide (0 ≤ (ji7)) = true := decide_eq_true c8; clear c8
         by_cases c9 : (ji7) < (l0.length : Int)
         ·rw [if_pos c9] at H; have c9b0 : decide ((ji7) < (l0.length : Int)) = true := decide_eq_true c9; clear c9
          by_cases c10 : (rd l0 x11_1) ≤ (rd l0 (ji7))
          ·rw [if_pos c10] at H; have c10b0 : decide ((rd l0 x11_1) ≤ (rd l0 (ji7))) = true := decide_eq_true c10; clear c10; simp only [Option.some.injEq, Prod.mk.injEq] at H; obtain ⟨rfl, rfl⟩ := H; have p108 : 0 ≤ (x11_1 : Int) := of_decide_eq_true (by first | (with_reducible assumption) | assumption); have q108 : x11_1 < (l0.length : Int) := of_decide_eq_true (by first | (with_reducible assumption) | assumption); obtain ⟨ad108, e108, hx108_0⟩ := Kd.at_int (Kd.V_reads' HO_9.out).2.2 x11_1 p108 q108
           cases e108
           replace p108 := eq_true p108; replace q108 := eq_true q108; have p109 : 0 ≤ ((ji7) : Int) := of_decide_eq_true (by first | (with_reducible assumption) | assumption); have q109 : (ji7) < (l0.length : Int) := of_decide_eq_true (by first | (with_reducible assumption) | assumption); obtain ⟨ad109, e109, hx109_0⟩ := Kd.at_int (Kd.V_reads' HO_0.out).2.2 (ji7) p109 q109; obtain rfl : ad108 = ad109 := (by injection e109); replace p109 := eq_true p109; replace q109 := eq_true q109
           go_wp2
           repeat (go_step3; go_wp2)
           (try rw [Exit.noGoto_ret])
           go_ret2
           exact ⟨_, by first | rfl | (simp [errW_none, errW_some] <;> rfl) | (simp only [← hji7]; first | rfl | (simp [errW_none, errW_some] <;> rfl)) | (simp [*, errW_none, errW_some] <;> rfl), by first | exact Kd.R_nil _ _ _ _ _ | exact Kd.N_nil _ _ _ _ _ | exact Kd.V_nil _ _ _ _ _ | exact Kd.Q_nil _ _ _ _ _ | exact Kd.S_nil _ _ _ _ _, by repeat (first | exact HB.out | apply bA | apply bN | apply bD)⟩
          ·rw [if_neg c10] at H; have c10b0 : decide ((rd l0 x11_1) ≤ (rd l0 (ji7))) = false := decide_eq_false c10; clear c10; have H' := aM H; clear H; have p108 : 0 ≤ (x11_1 : Int) := of_decide_eq_true (by first | (with_reducible assumption) | assumption); have q108 : x11_1 < (l0.length : Int) := of_decide_eq_true (by first | (with_reducible assumption) | assumption); obtain ⟨ad108, e108, hx108_0⟩ := Kd.at_int (Kd.V_reads' HO_9.out).2.2 x11_1 p108 q108
           cases e108
           replace p108 := eq_true p108; replace q108 := eq_true q108; have p109 : 0 ≤ ((ji7) : Int) := of_decide_eq_true (by first | (with_reducible assumption) | assumption); have q109 : (ji7) < (l0.length : Int) := of_decide_eq_true (by first | (with_reducible assumption) | assumption); obtain ⟨ad109, e109, hx109_0⟩ := Kd.at_int (Kd.V_reads' HO_0.out).2.2 (ji7) p109 q109; obtain rfl : ad108 = ad109 := (by injection e109); replace p109 := eq_true p109; replace q109 := eq_true q109
           go_wp2
           repeat (go_step3; go_wp2)
           go_roundg k1
           case measure => have := HK1.out; omega
           case rel => exact ⟨(wrap64 (x11_1 + 1)), (by first | rfl | (simp; done) | (simp [*]; done)), H', ⟨by have := HK1.out; omega⟩, ⟨by (with_reducible repeat (first | apply Kd.V_alloc | apply Kd.V_drewN | apply Kd.V_drew)); exact HO_0.out⟩, ⟨by (with_reducible repeat (first | apply Kd.V_alloc | apply Kd.V_drewN | apply Kd.V_drew)); exact HO_9.out⟩, ⟨by repeat (first | exact HB.out | apply bA | apply bN | apply bD)⟩⟩
         ·rw [if_neg c9] at H; exact absurd H (by simp)
        ·rw [if_neg c8] at H; exact absurd H (by simp)
       ·rw [if_neg c6] at H; have c6b0 : decide (0 < x11_1) = false := decide_eq_false c6; clear c6; have H' := aM H; clear H; have p108 : 0 ≤ (x11_1 : Int) := of_decide_eq_true (by first | (with_reducible assumption) | assumption); have q108 : x11_1 < (l0.length : Int) := of_decide_eq_true (by first | (with_reducible assumption) | assumption); obtain ⟨ad108, e108, hx108_0⟩ := Kd.at_int (Kd.V_reads' HO_9.out).2.2 x11_1 p108 q108
        cases e108
        replace p108 := eq_true p108; replace q108 := eq_true q108
        go_wp2
        repeat (go_step3; go_wp2)
        go_roundg k1
        case measure => have := HK1.out; omega
        case rel => exact ⟨(wrap64 (x11_1 + 1)), (by first | rfl | (simp; done) | (simp [*]; done)), H', ⟨by have := HK1.out; omega⟩, ⟨by (with_reducible repeat (first | apply Kd.V_alloc | apply Kd.V_drewN | apply Kd.V_drew)); exact HO_0.out⟩, ⟨by (with_reducible repeat (first | apply Kd.V_alloc | apply Kd.V_drewN | apply Kd.V_drew)); exact HO_9.out⟩, ⟨by repeat (first | exact HB.out | apply bA | apply bN | apply bD)⟩⟩
     ·rw [if_neg c4] at H; exact absurd H (by simp)
    ·rw [if_neg c3] at H; exact absurd H (by simp)
   ·rw [if_neg c2] at H; have c2b0 : decide (x11_1 < (l0.length : Int)) = false := decide_eq_false c2; clear c2
    by_cases c11 : (l0.length : Int) > 16384
    ·rw [if_pos c11] at H; have c11b0 : decide (16384 < (l0.length : Int)) = true := decide_eq_true c11; have c11b1 : decide (16384 < l0.length) = true := decide_eq_true (by omega); clear c11; simp only [Option.some.injEq, Prod.mk.injEq] at H; obtain ⟨rfl, rfl⟩ := H
     go_wp2
     repeat (go_step3; go_wp2)
     (try rw [Exit.noGoto_ret])
     go_ret2
     exact ⟨_, by first | rfl | (simp [errW_none, errW_some] <;> rfl) | (simp [*, errW_none, errW_some] <;> rfl), by first | exact Kd.R_nil _ _ _ _ _ | exact Kd.N_nil _ _ _ _ _ | exact Kd.V_nil _ _ _ _ _ | exact Kd.Q_nil _ _ _ _ _ | exact Kd.S_nil _ _ _ _ _, by repeat (first | exact HB.out | apply bA | apply bN | apply bD)⟩
    ·rw [if_neg c11] at H; have c11b0 : decide (16384 < (l0.length : Int)) = false := decide_eq_false c11; have c11b1 : decide (16384 < l0.length) = false := decide_eq_false (by omega); clear c11; have H' := aM H; clear H
     go_wp2
     repeat (go_step3; go_wp2)
     go_loopg [0, 6] k1 (fun kq v0 v6 w' => ∃ (x0_2 : List Int) (x6_2 : List Int), Aside0 (rels_Pack.l1 kq x0_2 x6_2 = some (r1, r2)) ∧ Aside0 (kq ≤ k1) ∧ Aside0 (Kd.V (Kd.int .u64) 22 w' w.heap.size (fun k_ => (P0_ k_ ∨ w.heap.size ≤ k_) ∧ some k_ ≠ (v6 : Value).ownBlock) v0 x0_2) ∧ Aside0 (Kd.R (Kd.int .u64) 22 w' w.heap.size (fun k_ => (w.heap.size ≤ k_)) v6 x6_2) ∧ Aside0 (Below w.heap.size w w'))
     case atStart => exact ⟨(l0), (([] : List Int)), H', ⟨Nat.le_refl _⟩, ⟨by (with_reducible repeat (first | apply Kd.V_alloc | apply Kd.V_drewN | apply Kd.V_drew)); exact Kd.V_mono HO_0.out (fun _ hk => ⟨hk, (by simp [Value.ownBlock])⟩)⟩, ⟨by first | exact Kd.R_nil _ _ _ _ _ | exact Kd.N_nil _ _ _ _ _ | exact Kd.V_nil _ _ _ _ _ | exact Kd.Q_nil _ _ _ _ _ | exact Kd.S_nil _ _ _ _ _⟩, ⟨by repeat (first | exact HB.out | apply bA | apply bN | apply bD)⟩⟩
     case round =>
      clear H'
      try clear c1
      try clear p1
      try clear q1
      try clear hx1
      try clear c2
      try clear c2b0
      try clear p2
      try clear c3
      try clear c3b0
      try clear c4
      try clear c4b0
      try clear c5
      try clear c5b0
      try clear c5b1
      try clear c6
      try clear c6b0
      try clear p6
      try clear c8
      try clear c8b0
      try clear c9
      try clear c9b0
      try clear c10
      try clear c10b0
      try clear p10
      try clear q10
      try clear hx10
      try clear c11
      try clear c11b0
      try clear c11b1
      try clear hx108_0
      try clear hx109_0
      try clear p108
      try clear p109
      try clear q108
      try clear q109
      obtain ⟨x0_2, x6_2, HA, HK2, HO_0, HO_6, HB⟩ := hrel
      cases gk with
      | zero => exact absurd HA.out (by simp [rels_Pack.l1])
      | succ k2 =>
       have H := HA.out; clear HA; simp only [rels_Pack.l1] at H
       by_cases c12 : (x0_2.length : Int) > 0
       ·rw [if_pos c12] at H; have c12b0 : decide (0 < (x0_2.length : Int)) = true := decide_eq_true c12; have c12b1 : decide (0 < x0_2.length) = true := decide_eq_true (by omega); clear c12
        by_cases c13 : 0 < (x0_2.length : Int)
        ·rw [if_pos c13] at H; have c13b0 : decide (0 < (x0_2.length : Int)) = true := decide_eq_true c13; have c13b1 : decide (0 < x0_2.length) = true := decide_eq_true (by omega); clear c13
         by_cases c14 : x6_2.length < 17592186044416
         ·rw [if_pos c14] at H; have LMc14 := aM c14; clear c14; obtain ⟨y111, hy111⟩ : ∃ y_ : List Int, y_ = (x6_2 ++ [rd x0_2 0]) := ⟨_, rfl⟩
          replace H : (if 1 ≤ (x0_2.length : Int) then (rels_Pack.l2 k2 (x0_2.drop 1) y111 (IntKind.u64.wrap ((rd x0_2 0) + 8))) else (none)) = some (r1, r2) := by first | (rw [hy111]; with_reducible exact H) | (have H2_ := (Option.bind_some _ _).symm.trans H; rw [hy111]; with_reducible exact H2_) | (have H2_ := (Option.bind_some _ _).symm.trans H; with_reducible exact H2_) | with_reducible exact H | (rw [hy111]; exact H) | exact H
          have Ny111 := aM hy111; clear hy111
          by_cases c15 : 1 ≤ (x0_2.length : Int)
          ·rw [if_pos c15] at H; have c15b0 := eq_true c15; have c15b1 : decide (1 ≤ (x0_2.length : Int)) = true := decide_eq_true c15; clear c15; obtain ⟨y115, hy115⟩ : ∃ y_ : List Int, y_ = (x0_2.drop 1) := ⟨_, rfl⟩
           replace H : (rels_Pack.l2 k2 y115 y111 (IntKind.u64.wrap ((rd x0_2 0) + 8))) = some (r1, r2) := by first | (rw [hy115]; with_reducible exact H) | (have H2_ := (Option.bind_some _ _).symm.trans H; rw [hy115]; with_reducible exact H2_) | (have H2_ := (Option.bind_some _ _).symm.trans H; with_reducible exact H2_) | with_reducible exact H | (rw [hy115]; exact H) | exact H
           have Ny115 := aM hy115; clear hy115; have H' := aM H; clear H; obtain ⟨Ao16, co16, eo16⟩ := Kd.V_slice HO_0.out; subst eo16; have p110 : 0 ≤ (0 : Int) := (by omega); have q110 : 0 < (x0_2.length : Int) := of_decide_eq_true (by first | (with_reducible assumption) | assumption); obtain ⟨ad110, e110, hx110_0⟩ := Kd.at_int (Kd.V_reads' HO_0.out).2.2 0 p110 q110
           cases e110
           have qi110 : (0 < x0_2.length) = True := eq_true (by omega)
           (try rw [show ((0 : Int)).toNat = 0 from rfl] at hx110_0)
           (try rw [Addr.add_zero'] at hx110_0)
           replace p110 := eq_true p110; replace q110 := eq_true q110
           go_wp2_with (first | ((with_reducible refine gate_builtin (b := .append) (xs := #[.tmp 41, .tmp 45]) rfl ?_); at_builtin; refine Kd.R_append (Kd.int .u64) (w0 := w) w.heap.size rfl (.tmp 41) (.tmp 45) 37 22 (.int .u64 0) 8 rfl Try.underlying37 info22 rfl (by decide) (by omega) u6 x6_2 (rd x0_2 0) [.int .u64 (rd x0_2 0)] (fun k_ => (w.heap.size ≤ k_)) (fun _ => False) rfl rfl ?aP (fun _ hk => hk.elim) ?aF ?aO ?aB ?aS ?aL ?_; (case aP => exact rfl); (case aB => exact (by repeat (first | exact HB.out | apply bA | apply bN | apply bD))); (case aF => exact (fun k_ hk => (Nat.le_trans (below_size (by repeat (first | exact HB.out | apply bA | apply bN | apply bD))) hk))); (case aO => exact (by repeat (first | exact HO_6.out | apply rA | apply rN | apply rD))); (case aS => exact (below_size (by repeat (first | exact HB.out | apply bA | apply bN | apply bD)))); (case aL => have := LMc14.out; omega); intro v112 w17 ho hb hg hat; rw [← Ny111.out] at ho; have n0_ := aM (Kd.V_afterv (ok := (fun k_ => (P0_ k_ ∨ w.heap.size ≤ k_))) (by (with_reducible repeat (first | apply Kd.V_alloc | apply Kd.V_drewN | apply Kd.V_drew)); exact HO_0.out) hg hat); have n1_ := aM (hb); have n2_ := aM (ho); clear HO_0; clear HB; clear HO_6; have HO_0 := n0_; have HB := n1_; have HO113 := n2_; clear n0_ n1_ n2_; clear ho hb hg hat; have p114 : 0 ≤ (0 : Int) := (by omega); have q114 : 0 < (x0_2.length : Int) := of_decide_eq_true (by first | (with_reducible assumption) | assumption); obtain ⟨ad114, e114, hx114_0⟩ := Kd.at_int (Kd.V_reads' HO_0.out).2.2 0 p114 q114; obtain rfl : ad110 = ad114 := (by injection e114); have qi114 : (0 < x0_2.length) = True := eq_true (by omega); (try rw [show ((0 : Int)).toNat = 0 from rfl] at hx114_0); (try rw [Addr.add_zero'] at hx114_0); replace p114 := eq_true p114; replace q114 := eq_true q114; have q18 : (1 : Int) ≤ ((x0_2.length : Int) : Int) := of_decide_eq_true (by first | (with_reducible assumption) | assumption); obtain ⟨i018, hi018, _, hsz18, _⟩ := info_parts info22; have hroom18 : x0_2.length ≤ co16 := (Kd.V_reads' HO_0.out).2.1; have hC18 : Kd.F (Kd.int .u64) _ _ (some ad110) x0_2.length x0_2 := (Kd.V_at (base := w.heap.size) HO_0.out).2.2; have hcut18 := cut_from (P := Try.prog) 37 22 .i64 Try.underlying37 hi018 1 hsz18 (some ad110) x0_2.length co16 1 (by omega) q18; have hr18 := Kd.F_cut (m := (1 : Int).toNat) (c := co16) hC18 (by omega) hroom18; obtain ⟨A18, hA18⟩ : ∃ A1, A1 = (if co16 = (1 : Int).toNat then (some ad110) else ((some ad110) : Option Addr).map (·.add ((1 : Int).toNat * 1))) := ⟨_, rfl⟩; obtain ⟨c18, hc18⟩ : ∃ c1, c1 = co16 - (1 : Int).toNat := ⟨_, rfl⟩; have hy18 : y115.length = x0_2.length - (1 : Int).toNat := (by rw [Ny115.out, List.length_drop] <;> omega); rw [show (x0_2).drop (1 : Int).toNat = y115 from Ny115.out.symm] at hr18; replace hr18 : Kd.F (Kd.int .u64) _ _ A18 y115.length y115 := (by rw [hA18]; exact hr18); rw [← hy18, ← hA18, ← hc18] at hcut18; have HO119 := aM (show Kd.V (Kd.int .u64) 22 _ w.heap.size _ (.slice A18 y115.length c18) y115 from Kd.V_mk (by rw [hy18, hc18]; exact Nat.sub_le_sub_right hroom18 _) hr18); have HC119 := aM (show y115.length ≤ c18 from by rw [hy18, hc18]; exact Nat.sub_le_sub_right hroom18 _); clear hr18 hC18 hroom18 hi018 hsz18 hc18; have KY18 := aM hy18; have KA18 := aM hA18; clear hy18 hA18; replace q18 := eq_true q18))
           repeat (go_step3; try go_wp2)
           go_loopg [0, 6, 7] k2 (fun kq v0 v6 v7 w' => ∃ (x0_3 : List Int) (x6_3 : List Int) (x7_3 : Int), v7 = .int .u64 x7_3 ∧ Aside0 (rels_Pack.l2 kq x0_3 x6_3 x7_3 = some (r1, r2)) ∧ Aside0 (kq ≤ k2) ∧ Aside0 (Kd.V (Kd.int .u64) 22 w' w.heap.size (fun k_ => (P0_ k_ ∨ w.heap.size ≤ k_) ∧ some k_ ≠ (v6 : Value).ownBlock) v0 x0_3) ∧ Aside0 (Kd.R (Kd.int .u64) 22 w' w.heap.size (fun k_ => (w.heap.size ≤ k_)) v6 x6_3) ∧ Aside0 (Below w.heap.size w w'))
           case atStart => exact ⟨(y115), (y111), (IntKind.u64.wrap ((rd x0_2 0) + 8)), (by first | rfl | (simp; done) | (simp [*]; done)), H', ⟨Nat.le_refl _⟩, ⟨by (with_reducible repeat (first | apply Kd.V_alloc | apply Kd.V_drewN | apply Kd.V_drew)); exact HO119.out⟩, ⟨by (with_reducible repeat (first | apply rA | apply rN | apply rD)); exact HO113.out⟩, ⟨by repeat (first | exact HB.out | apply bA | apply bN | apply bD)⟩⟩
           case round =>
            clear H'
            try clear c1
            try clear p1
            try clear q1
            try clear hx1
            try clear qi1
            try clear c2
            try clear c2b0
            try clear p2
            try clear c3
            try clear c3b0
            try clear c4
            try clear c4b0
            try clear c5
            try clear c5b0
            try clear c5b1
            try clear c6
            try clear c6b0
            try clear p6
            try clear c8
            try clear c8b0
            try clear c9
            try clear c9b0
            try clear c10
            try clear c10b0
            try clear p10
            try clear q10
            try clear hx10
            try clear c11
            try clear c11b0
            try clear c11b1
            try clear p11
            try clear q11
            try clear hx11
            try clear qi11
            try clear c12
            try clear c12b0
            try clear c12b1
            try clear c13
            try clear c13b0
            try clear c13b1
            try clear c14
            try clear c15
            try clear c15b0
            try clear c15b1
            try clear c18
            try clear q18
            try clear hx108_0
            try clear hx109_0
            try clear hx110_0
            try clear hx114_0
            try clear p1
            try clear p10
            try clear p108
            try clear p109
            try clear p110
            try clear p114
            try clear p2
            try clear p6
            try clear q1
            try clear q10
            try clear q108
            try clear q109
            try clear q110
            try clear q114
            try clear q18
            obtain ⟨x0_3, x6_3, x7_3, rfl, HA, HK3, HO_0, HO_6, HB⟩ := hrel
            cases gk with
            | zero => exact absurd HA.out (by simp [rels_Pack.l2])
            | succ k3 =>
             have H := HA.out; clear HA; simp only [rels_Pack.l2] at H; have H' := aM H; clear H
             go_wp2
             repeat (go_step3; go_wp2)
             go_loopg [0, 8] k3 (fun kq v0 v8 w' => ∃ (x0_4 : List Int) (x8_4 : Int), v8 = .int .u64 x8_4 ∧ Aside0 (rels_Pack.l3 kq x0_4 x6_3 x7_3 x8_4 = some (r1, r2)) ∧ Aside0 (kq ≤ k3) ∧ Aside0 (Kd.V (Kd.int .u64) 22 w' w.heap.size (fun k_ => (P0_ k_ ∨ w.heap.size ≤ k_) ∧ some k_ ≠ (u6 : Value).ownBlock) v0 x0_4) ∧ Aside0 (Kd.R (Kd.int .u64) 22 w' w.heap.size (fun k_ => (w.heap.size ≤ k_)) u6 x6_3) ∧ Aside0 (Below w.heap.size w w'))
             case atStart => exact ⟨(x0_3), (1), (by first | rfl | (simp; done) | (simp [*]; done)), H', ⟨Nat.le_refl _⟩, ⟨by (with_reducible repeat (first | apply Kd.V_alloc | apply Kd.V_drewN | apply Kd.V_drew)); exact HO_0.out⟩, ⟨by (with_reducible repeat (first | apply rA | apply rN | apply rD)); exact HO_6.out⟩, ⟨by repeat (first | exact HB.out | apply bA | apply bN | apply bD)⟩⟩
             case round =>
              clear H'
              try clear c1
              try clear p1
              try clear q1
              try clear hx1
              try clear qi1
              try clear c2
              try clear c2b0
              try clear p2
              try clear c3
              try clear c3b0
              try clear c4
              try clear c4b0
              try clear c5
              try clear c5b0
              try clear c5b1
              try clear c6
              try clear c6b0
              try clear p6
              try clear c8
              try clear c8b0
              try clear c9
              try clear c9b0
              try clear c10
              try clear c10b0
              try clear p10
              try clear q10
              try clear hx10
              try clear c11
              try clear c11b0
              try clear c11b1
              try clear p11
              try clear q11
              try clear hx11
              try clear qi11
              try clear c12
              try clear c12b0
              try clear c12b1
              try clear c13
              try clear c13b0
              try clear c13b1
              try clear c14
              try clear c15
              try clear c15b0
              try clear c15b1
              try clear c18
              try clear q18
              try clear hx108_0
              try clear hx109_0
              try clear hx110_0
              try clear hx114_0
              try clear p1
              try clear p10
              try clear p108
              try clear p109
              try clear p11
              try clear p110
              try clear p114
              try clear p2
              try clear p6
              try clear q1
              try clear q10
              try clear q108
              try clear q109
              try clear q11
              try clear q110
              try clear q114
              try clear q18
              obtain ⟨x0_4, x8_4, rfl, HA, HK4, HO_0, HO_6, HB⟩ := hrel
              cases gk with
              | zero => exact absurd HA.out (by simp [rels_Pack.l3])
              | succ k4 =>
               have H := HA.out; clear HA; simp only [rels_Pack.l3] at H
               by_cases c19 : (x0_4.length : Int) > 0
               ·rw [if_pos c19] at H; have c19b0 : decide (0 < (x0_4.length : Int)) = true := decide_eq_true c19; have c19b1 : decide (0 < x0_4.length) = true := decide_eq_true (by omega); clear c19
                by_cases c20 : 0 < (x0_4.length : Int)
                ·rw [if_pos c20] at H; have c20b0 : decide (0 < (x0_4.length : Int)) = true := decide_eq_true c20; have c20b1 : decide (0 < x0_4.length) = true := decide_eq_true (by omega); clear c20
                 by_cases c21 : (rd x0_4 0) ≥ x7_3
                 ·rw [if_pos c21] at H; have c21b0 : decide (x7_3 ≤ (rd x0_4 0)) = true := decide_eq_true c21; clear c21
                  by_cases c22 : (Int.tmod (IntKind.u64.wrap ((rd x0_4 0) - x7_3)) 8) = 0
                  ·rw [if_pos c22] at H; have c22b0 : ((Int.tmod (IntKind.u64.wrap ((rd x0_4 0) - x7_3)) 8) == 0) = true := beq_iff_eq.mpr c22; have c22b1 : ((Int.tmod (IntKind.u64.wrap ((rd x0_4 0) - x7_3)) 8) != 0) = false := bne_eq_false_iff_eq.mpr c22; clear c22
                   by_cases c23 : (IntKind.u64.wrap (Int.tdiv (IntKind.u64.wrap ((rd x0_4 0) - x7_3)) 8)) < 63
                   ·rw [if_pos c23] at H; have c23b0 : decide ((IntKind.u64.wrap (Int.tdiv (IntKind.u64.wrap ((rd x0_4 0) - x7_3)) 8)) < 63) = true := decide_eq_true c23; clear c23; obtain ⟨ji24, hji24⟩ : ∃ j_ : Int, (IntKind.u64.wrap ((IntKind.u64.wrap (Int.tdiv (IntKind.u64.wrap ((rd x0_4 0) - x7_3)) 8)) + 1)) = j_ := ⟨_, rfl⟩
                    replace H : (if 0 ≤ (ji24) then (if 1 ≤ (x0_4.length : Int) then (rels_Pack.l3 k4 (x0_4.drop 1) x6_3 x7_3 (Go.bits .or .u64 x8_4 (shl .u64 1 (ji24)))) else (none)) else (none)) = some (r1, r2) := by first | (rw [hji24] at H; exact H) | (simp only [hji24] at H ⊢; exact H)
                    by_cases c25 : 0 ≤ (ji24)
                    ·rw [if_pos c25] at H; have c25b0 := eq_true c25; have c25b1 : decide (0 ≤ (ji24)) = true := decide_eq_true c25; clear c25; obtain ⟨ji26, hji26⟩ : ∃ j_ : Int, (shl .u64 1 (ji24)) = j_ := ⟨_, rfl⟩
                     replace H : (if 1 ≤ (x0_4.length : Int) then (rels_Pack.l3 k4 (x0_4.drop 1) x6_3 x7_3 (Go.bits .or .u64 x8_4 (ji26))) else (none)) = some (r1, r2) := by first | (rw [hji26] at H; exact H) | (simp only [hji26] at H ⊢; exact H)
                     have hji26_ : (IntKind.u64.wrap (1 * 2 ^ min (ji24).toNat 64)) = ji26 := hji26; have hji26z : (ji24) ≤ 64 → (IntKind.u64.wrap (1 * 2 ^ (ji24).toNat)) = ji26 := shl_small hji26
                     have hji26u : (IntKind.u64.wrap (2 ^ min (ji24).toNat 64)) = ji26 := by have h_ := hji26_; rw [Int.one_mul] at h_; exact h_
                     have hji26v : (ji24) ≤ 64 → (IntKind.u64.wrap (2 ^ (ji24).toNat)) = ji26 := fun hle_ => by have h_ := hji26z hle_; rw [Int.one_mul] at h_; exact h_
                     by_cases c27 : 1 ≤ (x0_4.length : Int)
                     ·rw [if_pos c27] at H; have c27b0 := eq_true c27; have c27b1 : decide (1 ≤ (x0_4.length : Int)) = true := decide_eq_true c27; clear c27; obtain ⟨y124, hy124⟩ : ∃ y_ : List Int, y_ = (x0_4.drop 1) := ⟨_, rfl⟩
                      replace H : (rels_Pack.l3 k4 y124 x6_3 x7_3 (Go.bits .or .u64 x8_4 (ji26))) = some (r1, r2) := by first | (rw [hy124]; with_reducible exact H) | (have H2_ := (Option.bind_some _ _).symm.trans H; rw [hy124]; with_reducible exact H2_) | (have H2_ := (Option.bind_some _ _).symm.trans H; with_reducible exact H2_) | with_reducible exact H | (rw [hy124]; exact H) | exact H
                      have Ny124 := aM hy124; clear hy124; have H' := aM H; clear H; obtain ⟨Ao28, co28, eo28⟩ := Kd.V_slice HO_0.out; subst eo28; have p120 : 0 ≤ (0 : Int) := (by omega); have q120 : 0 < (x0_4.length : Int) := of_decide_eq_true (by first | (with_reducible assumption) | assumption); obtain ⟨ad120, e120, hx120_0⟩ := Kd.at_int (Kd.V_reads' HO_0.out).2.2 0 p120 q120
                      cases e120
                      have qi120 : (0 < x0_4.length) = True := eq_true (by omega)
                      (try rw [show ((0 : Int)).toNat = 0 from rfl] at hx120_0)
                      (try rw [Addr.add_zero'] at hx120_0)
                      replace p120 := eq_true p120; replace q120 := eq_true q120; have p121 : 0 ≤ (0 : Int) := (by omega); have q121 : 0 < (x0_4.length : Int) := of_decide_eq_true (by first | (with_reducible assumption) | assumption); obtain ⟨ad121, e121, hx121_0⟩ := Kd.at_int (Kd.V_reads' HO_0.out).2.2 0 p121 q121; obtain rfl : ad120 = ad121 := (by injection e121); have qi121 : (0 < x0_4.length) = True := eq_true (by omega)
                      (try rw [show ((0 : Int)).toNat = 0 from rfl] at hx121_0)
                      (try rw [Addr.add_zero'] at hx121_0)
                      replace p121 := eq_true p121; replace q121 := eq_true q121; have p122 : 0 ≤ (0 : Int) := (by omega); have q122 : 0 < (x0_4.length : Int) := of_decide_eq_true (by first | (with_reducible assumption) | assumption); obtain ⟨ad122, e122, hx122_0⟩ := Kd.at_int (Kd.V_reads' HO_0.out).2.2 0 p122 q122; obtain rfl : ad120 = ad122 := (by injection e122); have qi122 : (0 < x0_4.length) = True := eq_true (by omega)
                      (try rw [show ((0 : Int)).toNat = 0 from rfl] at hx122_0)
                      (try rw [Addr.add_zero'] at hx122_0)
                      replace p122 := eq_true p122; replace q122 := eq_true q122; have p123 : 0 ≤ (0 : Int) := (by omega); have q123 : 0 < (x0_4.length : Int) := of_decide_eq_true (by first | (with_reducible assumption) | assumption); obtain ⟨ad123, e123, hx123_0⟩ := Kd.at_int (Kd.V_reads' HO_0.out).2.2 0 p123 q123; obtain rfl : ad120 = ad123 := (by injection e123); have qi123 : (0 < x0_4.length) = True := eq_true (by omega)
                      (try rw [show ((0 : Int)).toNat = 0 from rfl] at hx123_0)
                      (try rw [Addr.add_zero'] at hx123_0)
                      replace p123 := eq_true p123; replace q123 := eq_true q123; have q29 : (1 : Int) ≤ ((x0_4.length : Int) : Int) := of_decide_eq_true (by first | (with_reducible assumption) | assumption); obtain ⟨i029, hi029, _, hsz29, _⟩ := info_parts info22; have hroom29 : x0_4.length ≤ co28 := (Kd.V_reads' HO_0.out).2.1; have hC29 : Kd.F (Kd.int .u64) _ _ (some ad120) x0_4.length x0_4 := (Kd.V_at (base := w.heap.size) HO_0.out).2.2; have hcut29 := cut_from (P := Try.prog) 37 22 .i64 Try.underlying37 hi029 1 hsz29 (some ad120) x0_4.length co28 1 (by omega) q29; have hr29 := Kd.F_cut (m := (1 : Int).toNat) (c := co28) hC29 (by omega) hroom29; obtain ⟨A29, hA29⟩ : ∃ A1, A1 = (if co28 = (1 : Int).toNat then (some ad120) else ((some ad120) : Option Addr).map (·.add ((1 : Int).toNat * 1))) := ⟨_, rfl⟩; obtain ⟨c29, hc29⟩ : ∃ c1, c1 = co28 - (1 : Int).toNat := ⟨_, rfl⟩; have hy29 : y124.length = x0_4.length - (1 : Int).toNat := (by rw [Ny124.out, List.length_drop] <;> omega); rw [show (x0_4).drop (1 : Int).toNat = y124 from Ny124.out.symm] at hr29; replace hr29 : Kd.F (Kd.int .u64) _ _ A29 y124.length y124 := (by rw [hA29]; exact hr29); rw [← hy29, ← hA29, ← hc29] at hcut29; have HO128 := aM (show Kd.V (Kd.int .u64) 22 _ w.heap.size _ (.slice A29 y124.length c29) y124 from Kd.V_mk (by rw [hy29, hc29]; exact Nat.sub_le_sub_right hroom29 _) hr29); have HC128 := aM (show y124.length ≤ c29 from by rw [hy29, hc29]; exact Nat.sub_le_sub_right hroom29 _); clear hr29 hC29 hroom29 hi029 hsz29 hc29; have KY29 := aM hy29; have KA29 := aM hA29; clear hy29 hA29; replace q29 := eq_true q29
                      go_wp2
                      repeat (go_step3; go_wp2)
                      go_roundg k4
                      case measure => have := HK1.out; have := HK2.out; have := HK3.out; have := HK4.out; omega
                      case rel => exact ⟨(y124), (Go.bits .or .u64 x8_4 (ji26)), (by first | rfl | (simp; done) | (simp only [← hji26] <;> (first | rfl | simp)) | (simp [*]; done)), H', ⟨by have := HK1.out; have := HK2.out; have := HK3.out; have := HK4.out; omega⟩, ⟨by (with_reducible repeat (first | apply Kd.V_alloc | apply Kd.V_drewN | apply Kd.V_drew)); exact HO128.out⟩, ⟨by (with_reducible repeat (first | apply rA | apply rN | apply rD)); exact HO_6.out⟩, ⟨by repeat (first | exact HB.out | apply bA | apply bN | apply bD)⟩⟩
                     ·rw [if_neg c27] at H; exact absurd H (by simp)
                    ·rw [if_neg c25] at H; exact absurd H (by simp)
                   ·rw [if_neg c23] at H; have c23b0 : decide ((IntKind.u64.wrap (Int.tdiv (IntKind.u64.wrap ((rd x0_4 0) - x7_3)) 8)) < 63) = false := decide_eq_false c23; clear c23
                    by_cases c30 : x8_4 = 1
                    ·rw [if_pos c30] at H; have c30b0 : (x8_4 == 1) = true := beq_iff_eq.mpr c30; have c30b1 : (x8_4 != 1) = false := bne_eq_false_iff_eq.mpr c30; clear c30; have H' := aM H; clear H; obtain ⟨Ao31, co31, eo31⟩ := Kd.V_slice HO_0.out; subst eo31; have p120 : 0 ≤ (0 : Int) := (by omega); have q120 : 0 < (x0_4.length : Int) := of_decide_eq_true (by first | (with_reducible assumption) | assumption); obtain ⟨ad120, e120, hx120_0⟩ := Kd.at_int (Kd.V_reads' HO_0.out).2.2 0 p120 q120
                     cases e120
                     have qi120 : (0 < x0_4.length) = True := eq_true (by omega)
                     (try rw [show ((0 : Int)).toNat = 0 from rfl] at hx120_0)
                     (try rw [Addr.add_zero'] at hx120_0)
                     replace p120 := eq_true p120; replace q120 := eq_true q120; have p121 : 0 ≤ (0 : Int) := (by omega); have q121 : 0 < (x0_4.length : Int) := of_decide_eq_true (by first | (with_reducible assumption) | assumption); obtain ⟨ad121, e121, hx121_0⟩ := Kd.at_int (Kd.V_reads' HO_0.out).2.2 0 p121 q121; obtain rfl : ad120 = ad121 := (by injection e121); have qi121 : (0 < x0_4.length) = True := eq_true (by omega)
                     (try rw [show ((0 : Int)).toNat = 0 from rfl] at hx121_0)
                     (try rw [Addr.add_zero'] at hx121_0)
                     replace p121 := eq_true p121; replace q121 := eq_true q121; have p122 : 0 ≤ (0 : Int) := (by omega); have q122 : 0 < (x0_4.length : Int) := of_decide_eq_true (by first | (with_reducible assumption) | assumption); obtain ⟨ad122, e122, hx122_0⟩ := Kd.at_int (Kd.V_reads' HO_0.out).2.2 0 p122 q122; obtain rfl : ad120 = ad122 := (by injection e122); have qi122 : (0 < x0_4.length) = True := eq_true (by omega)
                     (try rw [show ((0 : Int)).toNat = 0 from rfl] at hx122_0)
                     (try rw [Addr.add_zero'] at hx122_0)
                     replace p122 := eq_true p122; replace q122 := eq_true q122
                     go_wp2
                     repeat (go_step3; go_wp2)
                     go_roundg k4
                     case measure => have := HK1.out; have := HK2.out; have := HK3.out; have := HK4.out; omega
                     case rel => exact ⟨(x0_4), (x6_3), H', ⟨by have := HK1.out; have := HK2.out; have := HK3.out; have := HK4.out; omega⟩, ⟨by (with_reducible repeat (first | apply Kd.V_alloc | apply Kd.V_drewN | apply Kd.V_drew)); exact HO_0.out⟩, ⟨by (with_reducible repeat (first | apply rA | apply rN | apply rD)); exact HO_6.out⟩, ⟨by repeat (first | exact HB.out | apply bA | apply bN | apply bD)⟩⟩
                    ·rw [if_neg c30] at H; have c30b0 : (x8_4 == 1) = false := beq_eq_false_iff_ne.mpr c30; have c30b1 : (x8_4 != 1) = true := bne_iff_ne.mpr c30
                     by_cases c32 : x6_3.length < 17592186044416
                     ·rw [if_pos c32] at H; have LMc32 := aM c32; clear c32; obtain ⟨y129, hy129⟩ : ∃ y_ : List Int, y_ = (x6_3 ++ [x8_4]) := ⟨_, rfl⟩
                      replace H : (rels_Pack.l2 k4 x0_4 y129 (IntKind.u64.wrap (x7_3 + 504))) = some (r1, r2) := by first | (rw [hy129]; with_reducible exact H) | (have H2_ := (Option.bind_some _ _).symm.trans H; rw [hy129]; with_reducible exact H2_) | (have H2_ := (Option.bind_some _ _).symm.trans H; with_reducible exact H2_) | with_reducible exact H | (rw [hy129]; exact H) | exact H
                      have Ny129 := aM hy129; clear hy129; have H' := aM H; clear H; obtain ⟨Ao33, co33, eo33⟩ := Kd.V_slice HO_0.out; subst eo33; have p120 : 0 ≤ (0 : Int) := (by omega); have q120 : 0 < (x0_4.length : Int) := of_decide_eq_true (by first | (with_reducible assumption) | assumption); obtain ⟨ad120, e120, hx120_0⟩ := Kd.at_int (Kd.V_reads' HO_0.out).2.2 0 p120 q120
                      cases e120
                      have qi120 : (0 < x0_4.length) = True := eq_true (by omega)
                      (try rw [show ((0 : Int)).toNat = 0 from rfl] at hx120_0)
                      (try rw [Addr.add_zero'] at hx120_0)
                      replace p120 := eq_true p120; replace q120 := eq_true q120; have p121 : 0 ≤ (0 : Int) := (by omega); have q121 : 0 < (x0_4.length : Int) := of_decide_eq_true (by first | (with_reducible assumption) | assumption); obtain ⟨ad121, e121, hx121_0⟩ := Kd.at_int (Kd.V_reads' HO_0.out).2.2 0 p121 q121; obtain rfl : ad120 = ad121 := (by injection e121); have qi121 : (0 < x0_4.length) = True := eq_true (by omega)
                      (try rw [show ((0 : Int)).toNat = 0 from rfl] at hx121_0)
                      (try rw [Addr.add_zero'] at hx121_0)
                      replace p121 := eq_true p121; replace q121 := eq_true q121; have p122 : 0 ≤ (0 : Int) := (by omega); have q122 : 0 < (x0_4.length : Int) := of_decide_eq_true (by first | (with_reducible assumption) | assumption); obtain ⟨ad122, e122, hx122_0⟩ := Kd.at_int (Kd.V_reads' HO_0.out).2.2 0 p122 q122; obtain rfl : ad120 = ad122 := (by injection e122); have qi122 : (0 < x0_4.length) = True := eq_true (by omega)
                      (try rw [show ((0 : Int)).toNat = 0 from rfl] at hx122_0)
                      (try rw [Addr.add_zero'] at hx122_0)
                      replace p122 := eq_true p122; replace q122 := eq_true q122
                      go_wp2_with (first | ((with_reducible refine gate_builtin (b := .append) (xs := #[.tmp 97, .tmp 99]) rfl ?_); at_builtin; refine Kd.R_append (Kd.int .u64) (w0 := w) w.heap.size rfl (.tmp 97) (.tmp 99) 37 22 (.int .u64 0) 8 rfl Try.underlying37 info22 rfl (by decide) (by omega) u6 x6_3 x8_4 [.int .u64 x8_4] (fun k_ => (w.heap.size ≤ k_)) (fun _ => False) rfl rfl ?aP (fun _ hk => hk.elim) ?aF ?aO ?aB ?aS ?aL ?_; (case aP => exact rfl); (case aB => exact (by repeat (first | exact HB.out | apply bA | apply bN | apply bD))); (case aF => exact (fun k_ hk => (Nat.le_trans (below_size (by repeat (first | exact HB.out | apply bA | apply bN | apply bD))) hk))); (case aO => exact (by repeat (first | exact HO_6.out | apply rA | apply rN | apply rD))); (case aS => exact (below_size (by repeat (first | exact HB.out | apply bA | apply bN | apply bD)))); (case aL => have := LMc32.out; omega); intro v130 w34 ho hb hg hat; rw [← Ny129.out] at ho; have n0_ := aM (Kd.V_afterv (ok := (fun k_ => (P0_ k_ ∨ w.heap.size ≤ k_))) (by (with_reducible repeat (first | apply Kd.V_alloc | apply Kd.V_drewN | apply Kd.V_drew)); exact HO_0.out) hg hat); have n1_ := aM (hb); have n2_ := aM (ho); clear HO_0; clear HB; clear HO_6; have HO_0 := n0_; have HB := n1_; have HO131 := n2_; clear n0_ n1_ n2_; clear ho hb hg hat))
                      repeat (go_step3; try go_wp2)
                      go_roundg k4
                      case measure => have := HK1.out; have := HK2.out; have := HK3.out; have := HK4.out; omega
                      case rel => exact ⟨(x0_4), (y129), (IntKind.u64.wrap (x7_3 + 504)), (by first | rfl | (simp; done) | (simp [*]; done)), H', ⟨by have := HK1.out; have := HK2.out; have := HK3.out; have := HK4.out; omega⟩, ⟨by (with_reducible repeat (first | apply Kd.V_alloc | apply Kd.V_drewN | apply Kd.V_drew)); exact HO_0.out⟩, ⟨by (with_reducible repeat (first | apply rA | apply rN | apply rD)); exact HO131.out⟩, ⟨by repeat (first | exact HB.out | apply bA | apply bN | apply bD)⟩⟩
                     ·rw [if_neg c32] at H; exact absurd H (by simp)
                  ·rw [if_neg c22] at H; have c22b0 : ((Int.tmod (IntKind.u64.wrap ((rd x0_4 0) - x7_3)) 8) == 0) = false := beq_eq_false_iff_ne.mpr c22; have c22b1 : ((Int.tmod (IntKind.u64.wrap ((rd x0_4 0) - x7_3)) 8) != 0) = true := bne_iff_ne.mpr c22
                   by_cases c35 : x8_4 = 1
                   ·rw [if_pos c35] at H; have c35b0 : (x8_4 == 1) = true := beq_iff_eq.mpr c35; have c35b1 : (x8_4 != 1) = false := bne_eq_false_iff_eq.mpr c35; clear c35; have H' := aM H; clear H; obtain ⟨Ao36, co36, eo36⟩ := Kd.V_slice HO_0.out; subst eo36; have p120 : 0 ≤ (0 : Int) := (by omega); have q120 : 0 < (x0_4.length : Int) := of_decide_eq_true (by first | (with_reducible assumption) | assumption); obtain ⟨ad120, e120, hx120_0⟩ := Kd.at_int (Kd.V_reads' HO_0.out).2.2 0 p120 q120
                    cases e120
                    have qi120 : (0 < x0_4.length) = True := eq_true (by omega)
                    (try rw [show ((0 : Int)).toNat = 0 from rfl] at hx120_0)
                    (try rw [Addr.add_zero'] at hx120_0)
                    replace p120 := eq_true p120; replace q120 := eq_true q120; have p121 : 0 ≤ (0 : Int) := (by omega); have q121 : 0 < (x0_4.length : Int) := of_decide_eq_true (by first | (with_reducible assumption) | assumption); obtain ⟨ad121, e121, hx121_0⟩ := Kd.at_int (Kd.V_reads' HO_0.out).2.2 0 p121 q121; obtain rfl : ad120 = ad121 := (by injection e121); have qi121 : (0 < x0_4.length) = True := eq_true (by omega)
                    (try rw [show ((0 : Int)).toNat = 0 from rfl] at hx121_0)
                    (try rw [Addr.add_zero'] at hx121_0)
                    replace p121 := eq_true p121; replace q121 := eq_true q121
                    go_wp2
                    repeat (go_step3; go_wp2)
                    go_roundg k4
                    case measure => have := HK1.out; have := HK2.out; have := HK3.out; have := HK4.out; omega
                    case rel => exact ⟨(x0_4), (x6_3), H', ⟨by have := HK1.out; have := HK2.out; have := HK3.out; have := HK4.out; omega⟩, ⟨by (with_reducible repeat (first | apply Kd.V_alloc | apply Kd.V_drewN | apply Kd.V_drew)); exact HO_0.out⟩, ⟨by (with_reducible repeat (first | apply rA | apply rN | apply rD)); exact HO_6.out⟩, ⟨by repeat (first | exact HB.out | apply bA | apply bN | apply bD)⟩⟩
                   ·rw [if_neg c35] at H; have c35b0 : (x8_4 == 1) = false := beq_eq_false_iff_ne.mpr c35; have c35b1 : (x8_4 != 1) = true := bne_iff_ne.mpr c35
                    by_cases c37 : x6_3.length < 17592186044416
                    ·rw [if_pos c37] at H; have LMc37 := aM c37; clear c37; obtain ⟨y132, hy132⟩ : ∃ y_ : List Int, y_ = (x6_3 ++ [x8_4]) := ⟨_, rfl⟩
                     replace H : (rels_Pack.l2 k4 x0_4 y132 (IntKind.u64.wrap (x7_3 + 504))) = some (r1, r2) := by first | (rw [hy132]; with_reducible exact H) | (have H2_ := (Option.bind_some _ _).symm.trans H; rw [hy132]; with_reducible exact H2_) | (have H2_ := (Option.bind_some _ _).symm.trans H; with_reducible exact H2_) | with_reducible exact H | (rw [hy132]; exact H) | exact H
                     have Ny132 := aM hy132; clear hy132; have H' := aM H; clear H; obtain ⟨Ao38, co38, eo38⟩ := Kd.V_slice HO_0.out; subst eo38; have p120 : 0 ≤ (0 : Int) := (by omega); have q120 : 0 < (x0_4.length : Int) := of_decide_eq_true (by first | (with_reducible assumption) | assumption); obtain ⟨ad120, e120, hx120_0⟩ := Kd.at_int (Kd.V_reads' HO_0.out).2.2 0 p120 q120
                     cases e120
                     have qi120 : (0 < x0_4.length) = True := eq_true (by omega)
                     (try rw [show ((0 : Int)).toNat = 0 from rfl] at hx120_0)
                     (try rw [Addr.add_zero'] at hx120_0)
                     replace p120 := eq_true p120; replace q120 := eq_true q120; have p121 : 0 ≤ (0 : Int) := (by omega); have q121 : 0 < (x0_4.length : Int) := of_decide_eq_true (by first | (with_reducible assumption) | assumption); obtain ⟨ad121, e121, hx121_0⟩ := Kd.at_int (Kd.V_reads' HO_0.out).2.2 0 p121 q121; obtain rfl : ad120 = ad121 := (by injection e121); have qi121 : (0 < x0_4.length) = True := eq_true (by omega)
                     (try rw [show ((0 : Int)).toNat = 0 from rfl] at hx121_0)
                     (try rw [Addr.add_zero'] at hx121_0)
                     replace p121 := eq_true p121; replace q121 := eq_true q121
                     go_wp2_with (first | ((with_reducible refine gate_builtin (b := .append) (xs := #[.tmp 97, .tmp 99]) rfl ?_); at_builtin; refine Kd.R_append (Kd.int .u64) (w0 := w) w.heap.size rfl (.tmp 97) (.tmp 99) 37 22 (.int .u64 0) 8 rfl Try.underlying37 info22 rfl (by decide) (by omega) u6 x6_3 x8_4 [.int .u64 x8_4] (fun k_ => (w.heap.size ≤ k_)) (fun _ => False) rfl rfl ?aP (fun _ hk => hk.elim) ?aF ?aO ?aB ?aS ?aL ?_; (case aP => exact rfl); (case aB => exact (by repeat (first | exact HB.out | apply bA | apply bN | apply bD))); (case aF => exact (fun k_ hk => (Nat.le_trans (below_size (by repeat (first | exact HB.out | apply bA | apply bN | apply bD))) hk))); (case aO => exact (by repeat (first | exact HO_6.out | apply rA | apply rN | apply rD))); (case aS => exact (below_size (by repeat (first | exact HB.out | apply bA | apply bN | apply bD)))); (case aL => have := LMc37.out; omega); intro v133 w39 ho hb hg hat; rw [← Ny132.out] at ho; have n0_ := aM (Kd.V_afterv (ok := (fun k_ => (P0_ k_ ∨ w.heap.size ≤ k_))) (by (with_reducible repeat (first | apply Kd.V_alloc | apply Kd.V_drewN | apply Kd.V_drew)); exact HO_0.out) hg hat); have n1_ := aM (hb); have n2_ := aM (ho); clear HO_0; clear HB; clear HO_6; have HO_0 := n0_; have HB := n1_; have HO134 := n2_; clear n0_ n1_ n2_; clear ho hb hg hat))
                     repeat (go_step3; try go_wp2)
                     go_roundg k4
                     case measure => have := HK1.out; have := HK2.out; have := HK3.out; have := HK4.out; omega
                     case rel => exact ⟨(x0_4), (y132), (IntKind.u64.wrap (x7_3 + 504)), (by first | rfl | (simp; done) | (simp [*]; done)), H', ⟨by have := HK1.out; have := HK2.out; have := HK3.out; have := HK4.out; omega⟩, ⟨by (with_reducible repeat (first | apply Kd.V_alloc | apply Kd.V_drewN | apply Kd.V_drew)); exact HO_0.out⟩, ⟨by (with_reducible repeat (first | apply rA | apply rN | apply rD)); exact HO134.out⟩, ⟨by repeat (first | exact HB.out | apply bA | apply bN | apply bD)⟩⟩
                    ·rw [if_neg c37] at H; exact absurd H (by simp)
                 ·rw [if_neg c21] at H; have c21b0 : decide (x7_3 ≤ (rd x0_4 0)) = false := decide_eq_false c21; clear c21
                  by_cases c40 : x8_4 = 1
                  ·rw [if_pos c40] at H; have c40b0 : (x8_4 == 1) = true := beq_iff_eq.mpr c40; have c40b1 : (x8_4 != 1) = false := bne_eq_false_iff_eq.mpr c40; clear c40; have H' := aM H; clear H; obtain ⟨Ao41, co41, eo41⟩ := Kd.V_slice HO_0.out; subst eo41; have p120 : 0 ≤ (0 : Int) := (by omega); have q120 : 0 < (x0_4.length : Int) := of_decide_eq_true (by first | (with_reducible assumption) | assumption); obtain ⟨ad120, e120, hx120_0⟩ := Kd.at_int (Kd.V_reads' HO_0.out).2.2 0 p120 q120
                   cases e120
                   have qi120 : (0 < x0_4.length) = True := eq_true (by omega)
                   (try rw [show ((0 : Int)).toNat = 0 from rfl] at hx120_0)
                   (try rw [Addr.add_zero'] at hx120_0)
                   replace p120 := eq_true p120; replace q120 := eq_true q120
                   go_wp2
                   repeat (go_step3; go_wp2)
                   go_roundg k4
                   case measure => have := HK1.out; have := HK2.out; have := HK3.out; have := HK4.out; omega
                   case rel => exact ⟨(x0_4), (x6_3), H', ⟨by have := HK1.out; have := HK2.out; have := HK3.out; have := HK4.out; omega⟩, ⟨by (with_reducible repeat (first | apply Kd.V_alloc | apply Kd.V_drewN | apply Kd.V_drew)); exact HO_0.out⟩, ⟨by (with_reducible repeat (first | apply rA | apply rN | apply rD)); exact HO_6.out⟩, ⟨by repeat (first | exact HB.out | apply bA | apply bN | apply bD)⟩⟩
                  ·rw [if_neg c40] at H; have c40b0 : (x8_4 == 1) = false := beq_eq_false_iff_ne.mpr c40; have c40b1 : (x8_4 != 1) = true := bne_iff_ne.mpr c40
                   by_cases c42 : x6_3.length < 17592186044416
                   ·rw [if_pos c42] at H; have LMc42 := aM c42; clear c42; obtain ⟨y135, hy135⟩ : ∃ y_ : List Int, y_ = (x6_3 ++ [x8_4]) := ⟨_, rfl⟩
                    replace H : (rels_Pack.l2 k4 x0_4 y135 (IntKind.u64.wrap (x7_3 + 504))) = some (r1, r2) := by first | (rw [hy135]; with_reducible exact H) | (have H2_ := (Option.bind_some _ _).symm.trans H; rw [hy135]; with_reducible exact H2_) | (have H2_ := (Option.bind_some _ _).symm.trans H; with_reducible exact H2_) | with_reducible exact H | (rw [hy135]; exact H) | exact H
                    have Ny135 := aM hy135; clear hy135; have H' := aM H; clear H; obtain ⟨Ao43, co43, eo43⟩ := Kd.V_slice HO_0.out; subst eo43; have p120 : 0 ≤ (0 : Int) := (by omega); have q120 : 0 < (x0_4.length : Int) := of_decide_eq_true (by first | (with_reducible assumption) | assumption); obtain ⟨ad120, e120, hx120_0⟩ := Kd.at_int (Kd.V_reads' HO_0.out).2.2 0 p120 q120
                    cases e120
                    have qi120 : (0 < x0_4.length) = True := eq_true (by omega)
                    (try rw [show ((0 : Int)).toNat = 0 from rfl] at hx120_0)
                    (try rw [Addr.add_zero'] at hx120_0)
                    replace p120 := eq_true p120; replace q120 := eq_true q120
                    go_wp2_with (first | ((with_reducible refine gate_builtin (b := .append) (xs := #[.tmp 97, .tmp 99]) rfl ?_); at_builtin; refine Kd.R_append (Kd.int .u64) (w0 := w) w.heap.size rfl (.tmp 97) (.tmp 99) 37 22 (.int .u64 0) 8 rfl Try.underlying37 info22 rfl (by decide) (by omega) u6 x6_3 x8_4 [.int .u64 x8_4] (fun k_ => (w.heap.size ≤ k_)) (fun _ => False) rfl rfl ?aP (fun _ hk => hk.elim) ?aF ?aO ?aB ?aS ?aL ?_; (case aP => exact rfl); (case aB => exact (by repeat (first | exact HB.out | apply bA | apply bN | apply bD))); (case aF => exact (fun k_ hk => (Nat.le_trans (below_size (by repeat (first | exact HB.out | apply bA | apply bN | apply bD))) hk))); (case aO => exact (by repeat (first | exact HO_6.out | apply rA | apply rN | apply rD))); (case aS => exact (below_size (by repeat (first | exact HB.out | apply bA | apply bN | apply bD)))); (case aL => have := LMc42.out; omega); intro v136 w44 ho hb hg hat; rw [← Ny135.out] at ho; have n0_ := aM (Kd.V_afterv (ok := (fun k_ => (P0_ k_ ∨ w.heap.size ≤ k_))) (by (with_reducible repeat (first | apply Kd.V_alloc | apply Kd.V_drewN | apply Kd.V_drew)); exact HO_0.out) hg hat); have n1_ := aM (hb); have n2_ := aM (ho); clear HO_0; clear HB; clear HO_6; have HO_0 := n0_; have HB := n1_; have HO137 := n2_; clear n0_ n1_ n2_; clear ho hb hg hat))
                    repeat (go_step3; try go_wp2)
                    go_roundg k4
                    case measure => have := HK1.out; have := HK2.out; have := HK3.out; have := HK4.out; omega
                    case rel => exact ⟨(x0_4), (y135), (IntKind.u64.wrap (x7_3 + 504)), (by first | rfl | (simp; done) | (simp [*]; done)), H', ⟨by have := HK1.out; have := HK2.out; have := HK3.out; have := HK4.out; omega⟩, ⟨by (with_reducible repeat (first | apply Kd.V_alloc | apply Kd.V_drewN | apply Kd.V_drew)); exact HO_0.out⟩, ⟨by (with_reducible repeat (first | apply rA | apply rN | apply rD)); exact HO137.out⟩, ⟨by repeat (first | exact HB.out | apply bA | apply bN | apply bD)⟩⟩
                   ·rw [if_neg c42] at H; exact absurd H (by simp)
                ·rw [if_neg c20] at H; exact absurd H (by simp)
               ·rw [if_neg c19] at H; have c19b0 : decide (0 < (x0_4.length : Int)) = false := decide_eq_false c19; have c19b1 : decide (0 < x0_4.length) = false := decide_eq_false (by omega); clear c19
                by_cases c45 : x8_4 = 1
                ·rw [if_pos c45] at H; have c45b0 : (x8_4 == 1) = true := beq_iff_eq.mpr c45; have c45b1 : (x8_4 != 1) = false := bne_eq_false_iff_eq.mpr c45; clear c45; have H' := aM H; clear H; obtain ⟨Ao46, co46, eo46⟩ := Kd.V_slice HO_0.out; subst eo46
                 go_wp2
                 repeat (go_step3; go_wp2)
                 go_roundg k4
                 case measure => have := HK1.out; have := HK2.out; have := HK3.out; have := HK4.out; omega
                 case rel => exact ⟨(x0_4), (x6_3), H', ⟨by have := HK1.out; have := HK2.out; have := HK3.out; have := HK4.out; omega⟩, ⟨by (with_reducible repeat (first | apply Kd.V_alloc | apply Kd.V_drewN | apply Kd.V_drew)); exact HO_0.out⟩, ⟨by (with_reducible repeat (first | apply rA | apply rN | apply rD)); exact HO_6.out⟩, ⟨by repeat (first | exact HB.out | apply bA | apply bN | apply bD)⟩⟩
                ·rw [if_neg c45] at H; have c45b0 : (x8_4 == 1) = false := beq_eq_false_iff_ne.mpr c45; have c45b1 : (x8_4 != 1) = true := bne_iff_ne.mpr c45
                 by_cases c47 : x6_3.length < 17592186044416
                 ·rw [if_pos c47] at H; have LMc47 := aM c47; clear c47; obtain ⟨y138, hy138⟩ : ∃ y_ : List Int, y_ = (x6_3 ++ [x8_4]) := ⟨_, rfl⟩
                  replace H : (rels_Pack.l2 k4 x0_4 y138 (IntKind.u64.wrap (x7_3 + 504))) = some (r1, r2) := by first | (rw [hy138]; with_reducible exact H) | (have H2_ := (Option.bind_some _ _).symm.trans H; rw [hy138]; with_reducible exact H2_) | (have H2_ := (Option.bind_some _ _).symm.trans H; with_reducible exact H2_) | with_reducible exact H | (rw [hy138]; exact H) | exact H
                  have Ny138 := aM hy138; clear hy138; have H' := aM H; clear H; obtain ⟨Ao48, co48, eo48⟩ := Kd.V_slice HO_0.out; subst eo48
                  go_wp2_with (first | ((with_reducible refine gate_builtin (b := .append) (xs := #[.tmp 97, .tmp 99]) rfl ?_); at_builtin; refine Kd.R_append (Kd.int .u64) (w0 := w) w.heap.size rfl (.tmp 97) (.tmp 99) 37 22 (.int .u64 0) 8 rfl Try.underlying37 info22 rfl (by decide) (by omega) u6 x6_3 x8_4 [.int .u64 x8_4] (fun k_ => (w.heap.size ≤ k_)) (fun _ => False) rfl rfl ?aP (fun _ hk => hk.elim) ?aF ?aO ?aB ?aS ?aL ?_; (case aP => exact rfl); (case aB => exact (by repeat (first | exact HB.out | apply bA | apply bN | apply bD))); (case aF => exact (fun k_ hk => (Nat.le_trans (below_size (by repeat (first | exact HB.out | apply bA | apply bN | apply bD))) hk))); (case aO => exact (by repeat (first | exact HO_6.out | apply rA | apply rN | apply rD))); (case aS => exact (below_size (by repeat (first | exact HB.out | apply bA | apply bN | apply bD)))); (case aL => have := LMc47.out; omega); intro v139 w49 ho hb hg hat; rw [← Ny138.out] at ho; have n0_ := aM (Kd.V_afterv (ok := (fun k_ => (P0_ k_ ∨ w.heap.size ≤ k_))) (by (with_reducible repeat (first | apply Kd.V_alloc | apply Kd.V_drewN | apply Kd.V_drew)); exact HO_0.out) hg hat); have n1_ := aM (hb); have n2_ := aM (ho); clear HO_0; clear HB; clear HO_6; have HO_0 := n0_; have HB := n1_; have HO140 := n2_; clear n0_ n1_ n2_; clear ho hb hg hat))
                  repeat (go_step3; try go_wp2)
                  go_roundg k4
                  case measure => have := HK1.out; have := HK2.out; have := HK3.out; have := HK4.out; omega
                  case rel => exact ⟨(x0_4), (y138), (IntKind.u64.wrap (x7_3 + 504)), (by first | rfl | (simp; done) | (simp [*]; done)), H', ⟨by have := HK1.out; have := HK2.out; have := HK3.out; have := HK4.out; omega⟩, ⟨by (with_reducible repeat (first | apply Kd.V_alloc | apply Kd.V_drewN | apply Kd.V_drew)); exact HO_0.out⟩, ⟨by (with_reducible repeat (first | apply rA | apply rN | apply rD)); exact HO140.out⟩, ⟨by repeat (first | exact HB.out | apply bA | apply bN | apply bD)⟩⟩
                 ·rw [if_neg c47] at H; exact absurd H (by simp)
          ·rw [if_neg c15] at H; exact absurd H (by simp)
         ·rw [if_neg c14] at H; exact absurd H (by simp)
        ·rw [if_neg c13] at H; exact absurd H (by simp)
       ·rw [if_neg c12] at H; have c12b0 : decide (0 < (x0_2.length : Int)) = false := decide_eq_false c12; have c12b1 : decide (0 < x0_2.length) = false := decide_eq_false (by omega); clear c12; simp only [Option.some.injEq, Prod.mk.injEq] at H; obtain ⟨rfl, rfl⟩ := H; obtain ⟨Ao50, co50, eo50⟩ := Kd.V_slice HO_0.out; subst eo50
        go_wp2
        repeat (go_step3; go_wp2)
        (try rw [Exit.noGoto_ret])
        go_ret2
        exact ⟨_, by first | rfl | (simp [errW_none, errW_some] <;> rfl) | (simp [*, errW_none, errW_some] <;> rfl), by (with_reducible repeat (first | apply rA | apply rN | apply rD)); exact HO_6.out, by repeat (first | exact HB.out | apply bA | apply bN | apply bD)⟩

end Go.Proofs.Ythhlnhbmjkjmlaa.PRelsMade
