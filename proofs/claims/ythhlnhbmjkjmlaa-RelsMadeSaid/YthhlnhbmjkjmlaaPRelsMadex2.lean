/- Printed by this session's own program (wip/tools: a turn of the kit's print) out of the translation: each Go function that the law reaches as a Lean function, and that the machine's call comes to what that function tells; no condition but what each theorem names. -/
import Derived.Test.YthhlnhbmjkjmlaaPRelsMadex0
namespace Go.Proofs.Ythhlnhbmjkjmlaa.PRelsMade
open Go.RowKit Go.Proofs.YthhlnhbmjkjmlaaW.PrintWords Go.Proofs.YthhlnhbmjkjmlaaW.PrintLast Go.Proofs.YthhlnhbmjkjmlaaW.PrintMore Go.Proofs.YthhlnhbmjkjmlaaX
attribute [local go_sem] max2_int min2_int max_two min_two max_three min_three max_four min_four   -- for this text's walks alone
set_option linter.unusedVariables false
set_option linter.unusedSimpArgs false

/-! ### rels_Unpack: function 19 -/
mutual
def rels_Unpack.l0 : Nat → List Int → Int → List Int → Int → Int → Option (List Int × Option Int)
 | 0, _, _, _, _, _ => none
 | k + 1, x4, x5, x9, x10, x11 => if x11 < x10 then (if 0 ≤ x11 then (if x11 < (x9.length : Int) then (if (Go.bits .and .u64 (rd x9 x11) 1) = 0 then (if x4.length < 17592186044416 then ((some (x4 ++ [rd x9 x11] : List Int)).bind fun y102 => (if (y102.length : Int) > 16384 then (some (([] : List Int), some 2)) else (rels_Unpack.l0 k y102 (IntKind.u64.wrap ((rd x9 x11) + 8)) x9 x10 (wrap64 (x11 + 1))))) else (none)) else (if x11 = 0 then (some (([] : List Int), some 3)) else (rels_Unpack.l1 k x4 x5 (rd x9 x11) x9 x10 x11 0))) else (none)) else (none)) else (some (x4, none))
def rels_Unpack.l1 : Nat → List Int → Int → Int → List Int → Int → Int → Int → Option (List Int × Option Int)
 | 0, _, _, _, _, _, _, _ => none
 | k + 1, x4, x5, x7, x9, x10, x11, x16 => if x16 < 63 then (if 0 ≤ (IntKind.u64.wrap (x16 + 1)) then (if (Go.bits .and .u64 (shr .u64 x7 (IntKind.u64.wrap (x16 + 1))) 1) = 1 then (if x4.length < 17592186044416 then (rels_Unpack.l1 k (x4 ++ [IntKind.u64.wrap (x5 + (IntKind.u64.wrap (8 * x16)))]) x5 x7 x9 x10 x11 (IntKind.u64.wrap (x16 + 1))) else (none)) else (rels_Unpack.l1 k x4 x5 x7 x9 x10 x11 (IntKind.u64.wrap (x16 + 1)))) else (none)) else (if (x4.length : Int) > 16384 then (some (([] : List Int), some 2)) else (rels_Unpack.l0 k x4 (IntKind.u64.wrap (x5 + 504)) x9 x10 (wrap64 (x11 + 1))))
end
def rels_Unpack.f (k : Nat) (l0 : List Int) : Option (List Int × Option Int) := rels_Unpack.l0 k ([] : List Int) 0 l0 (l0.length : Int) 0
theorem rels_Unpack.mono_l : ∀ k, (∀ y0 y1 y2 y3 y4, LeO (rels_Unpack.l0 k y0 y1 y2 y3 y4) (rels_Unpack.l0 (k + 1) y0 y1 y2 y3 y4)) ∧ (∀ y0 y1 y2 y3 y4 y5 y6, LeO (rels_Unpack.l1 k y0 y1 y2 y3 y4 y5 y6) (rels_Unpack.l1 (k + 1) y0 y1 y2 y3 y4 y5 y6))
 | 0 => ⟨fun _ _ _ _ _ r h => by simp [rels_Unpack.l0] at h, fun _ _ _ _ _ _ _ r h => by simp [rels_Unpack.l1] at h⟩
 | k + 1 => by
  obtain ⟨ih0, ih1⟩ := rels_Unpack.mono_l k; refine ⟨?_, ?_⟩
  ·intro y0 y1 y2 y3 y4
   unfold rels_Unpack.l0
   repeat' first
   | (with_reducible exact ih0 _ _ _ _ _)
   | (with_reducible exact ih1 _ _ _ _ _ _ _)
   | (with_reducible exact LeO.refl _)
   | (with_reducible exact LeO.none _)
   | (with_reducible refine LeO.ite ?_ ?_)
   | (with_reducible refine LeO.bind ?_ (fun _ => ?_))
   | exact ih0 _ _ _ _ _
   | exact ih1 _ _ _ _ _ _ _
   | exact LeO.none _
   | refine LeO.ite ?_ ?_
   | refine LeO.bind ?_ (fun _ => ?_)
  ·intro y0 y1 y2 y3 y4 y5 y6
   unfold rels_Unpack.l1
   repeat' first
   | (with_reducible exact ih0 _ _ _ _ _)
   | (with_reducible exact ih1 _ _ _ _ _ _ _)
   | (with_reducible exact LeO.refl _)
   | (with_reducible exact LeO.none _)
   | (with_reducible refine LeO.ite ?_ ?_)
   | (with_reducible refine LeO.bind ?_ (fun _ => ?_))
   | exact ih0 _ _ _ _ _
   | exact ih1 _ _ _ _ _ _ _
   | exact LeO.none _
   | refine LeO.ite ?_ ?_
   | refine LeO.bind ?_ (fun _ => ?_)
theorem rels_Unpack.mono : ∀ a0 k, LeO (rels_Unpack.f k a0) (rels_Unpack.f (k + 1) a0) := by
 intro a0 k; obtain ⟨ih0, ih1⟩ := rels_Unpack.mono_l k
 unfold rels_Unpack.f
 repeat' first
   | (with_reducible exact ih0 _ _ _ _ _)
   | (with_reducible exact ih1 _ _ _ _ _ _ _)
   | (with_reducible exact LeO.refl _)
   | (with_reducible exact LeO.none _)
   | (with_reducible refine LeO.ite ?_ ?_)
   | (with_reducible refine LeO.bind ?_ (fun _ => ?_))
   | exact ih0 _ _ _ _ _
   | exact ih1 _ _ _ _ _ _ _
   | exact LeO.none _
   | refine LeO.ite ?_ ?_
   | refine LeO.bind ?_ (fun _ => ?_)
set_option maxHeartbeats 8000000 in
set_option maxRecDepth 100000 in
theorem rels_Unpack.calls (k : Nat) (A0 : Option Addr) (c0 : Nat) (l0 : List Int) (r1 : List Int) (r2 : Option Int) (w : World) (hr0 : Kd.C (Kd.int .u64) w A0 l0.length l0) (hc0 : l0.length ≤ c0) (h : rels_Unpack.f k l0 = some (r1, r2)) :
  Calls Try.prog 19 #[.slice A0 l0.length c0] w fun e w' => ∃ v0_ : Value, e = .returned (.tuple #[v0_, errW r2]) ∧ Kd.R (Kd.int .u64) 22 w' w.heap.size (fun _ => True) v0_ r1 ∧ Below w.heap.size w w' := by
 have hu29 := Try.underlying29; have hu49 := Try.underlying49; have HR0 := aM hr0; have HC0 := aM hc0; clear hr0 hc0; have HB := aM (Below.refl w.heap.size w); have H : (rels_Unpack.l0 k ([] : List Int) 0 l0 (l0.length : Int) 0) = some (r1, r2) := h; clear h; have H' := aM H; clear H
 go_enter Try.func19, Try.ntmps19
 go_wp2
 go_loopg [4, 5, 11] k (fun kq v4 v5 v11 w' => ∃ (x4_1 : List Int) (x5_1 : Int) (x11_1 : Int), v5 = .int .u64 x5_1 ∧ v11 = .int .i64 x11_1 ∧ Aside0 (rels_Unpack.l0 kq x4_1 x5_1 l0 (l0.length : Int) x11_1 = some (r1, r2)) ∧ Aside0 (kq ≤ k) ∧ Aside0 (Kd.R (Kd.int .u64) 22 w' w.heap.size (fun _ => True) v4 x4_1) ∧ Aside0 (Below w.heap.size w w'))
 case atStart => exact ⟨(([] : List Int)), (0), (0), (by first | rfl | (simp; done) | (simp [*]; done)), (by first | rfl | (simp; done) | (simp [*]; done)), H', ⟨Nat.le_refl _⟩, ⟨by first | exact Kd.R_nil _ _ _ _ _ | exact Kd.N_nil _ _ _ _ _ | exact Kd.V_nil _ _ _ _ _ | exact Kd.Q_nil _ _ _ _ _ | exact Kd.S_nil _ _ _ _ _⟩, ⟨by repeat (first | (with_reducible first | exact HB.out | apply bA | apply bN | apply bD) | exact HB.out)⟩⟩
 case round =>
  clear H'
  try clear c1
  obtain ⟨x4_1, x5_1, x11_1, rfl, rfl, HA, HK1, HO_4, HB⟩ := hrel
  cases gk with
  | zero => exact absurd HA.out (by simp [rels_Unpack.l0])
  | succ k1 =>
   have H := HA.out; clear HA; simp only [rels_Unpack.l0] at H
   by_cases c2 : x11_1 < (l0.length : Int)
   ·rw [if_pos c2] at H; have c2b0 : decide (x11_1 < (l0.length : Int)) = true := decide_eq_true c2; clear c2
    by_cases c3 : 0 ≤ x11_1
    ·rw [if_pos c3] at H; have c3b0 : decide (0 ≤ x11_1) = true := decide_eq_true c3; clear c3
     by_cases c4 : x11_1 < (l0.length : Int)
     ·rw [if_pos c4] at H; have c4b0 : decide (x11_1 < (l0.length : Int)) = true := decide_eq_true c4; clear c4
      by_cases c5 : (Go.bits .and .u64 (rd l0 x11_1) 1) = 0
      ·rw [if_pos c5] at H; have c5b0 : ((Go.bits .and .u64 (rd l0 x11_1) 1) == 0) = true := beq_iff_eq.mpr c5; have c5b1 : ((Go.bits .and .u64 (rd l0 x11_1) 1) != 0) = false := bne_eq_false_iff_eq.mpr c5; clear c5
       by_cases c6 : x4_1.length < 17592186044416
       ·rw [if_pos c6] at H; have LMc6 := aM c6; clear c6; obtain ⟨y102, hy102⟩ : ∃ y_ : List Int, y_ = (x4_1 ++ [rd l0 x11_1]) := ⟨_, rfl⟩
        replace H : (if (y102.length : Int) > 16384 then (some (([] : List Int), some 2)) else (rels_Unpack.l0 k1 y102 (IntKind.u64.wrap ((rd l0 x11_1) + 8)) l0 (l0.length : Int) (wrap64 (x11_1 + 1)))) = some (r1, r2) := by first | (rw [hy102]; with_reducible exact H) | (have H2_ := (Option.bind_some _ _).symm.trans H; rw [hy102]; with_reducible exact H2_) | (have H2_ := (Option.bind_some _ _).symm.trans H; with_reducible exact H2_) | with_reducible exact H | (rw [hy102]; exact H) | exact H
        have Ny102 := aM hy102; clear hy102
        by_cases c7 : (y102.length : Int) > 16384
        ·rw [if_pos c7] at H; have c7b0 : decide (16384 < (y102.length : Int)) = true := decide_eq_true c7; have c7b1 : decide (16384 < y102.length) = true := decide_eq_true (by omega); clear c7; simp only [Option.some.injEq, Prod.mk.injEq] at H; obtain ⟨rfl, rfl⟩ := H; have p101 : 0 ≤ (x11_1 : Int) := of_decide_eq_true (by first | (with_reducible assumption) | assumption); have q101 : x11_1 < (l0.length : Int) := of_decide_eq_true (by first | (with_reducible assumption) | assumption); obtain ⟨ad101, e101, hx101_0⟩ := Kd.at_int HR0.out x11_1 p101 q101
         cases e101
         replace hx101_0 := (HB.out.cell (World.block_lt_of_cell? w _ hx101_0)).trans hx101_0; replace p101 := eq_true p101; replace q101 := eq_true q101
         go_wp2_with (first | ((with_reducible refine gate_builtin (b := .append) (xs := #[.tmp 39, .tmp 41]) rfl ?_); at_builtin; refine Kd.R_append (Kd.int .u64) (w0 := w) w.heap.size rfl (.tmp 39) (.tmp 41) 37 22 (.int .u64 0) 8 rfl Try.underlying37 info22 rfl (by decide) (by omega) u4 x4_1 (rd l0 x11_1) [.int .u64 (rd l0 x11_1)] (fun _ => True) (fun _ => False) rfl rfl ?aP (fun _ hk => hk.elim) ?aF ?aO ?aB ?aS ?aL ?_; (case aP => exact rfl); (case aB => exact (by repeat (first | (with_reducible first | exact HB.out | apply bA | apply bN | apply bD) | exact HB.out))); (case aF => exact (fun _ _ => trivial)); (case aO => exact (by (with_reducible repeat (first | apply rA | apply rN | apply rD)); exact HO_4.out)); (case aS => exact (below_size (by repeat (first | (with_reducible first | exact HB.out | apply bA | apply bN | apply bD) | exact HB.out)))); (case aL => have := LMc6.out; omega); intro v103 w8 ho hb hg hat; rw [← Ny102.out] at ho; have n0_ := aM (hb); have n1_ := aM (ho); clear HB; clear HO_4; have HB := n0_; have HO104 := n1_; clear n0_ n1_; clear ho hb hg hat; obtain ⟨Ao9, co9, eo9⟩ := Kd.R_slice HO104.out; subst eo9))
         go_ret2
         exact ⟨_, by first | rfl | (simp [errW_none, errW_some] <;> rfl) | (simp [*, errW_none, errW_some] <;> rfl), by first | exact Kd.R_nil _ _ _ _ _ | exact Kd.N_nil _ _ _ _ _ | exact Kd.V_nil _ _ _ _ _ | exact Kd.Q_nil _ _ _ _ _ | exact Kd.S_nil _ _ _ _ _, by repeat (first | (with_reducible first | exact HB.out | apply bA | apply bN | apply bD) | exact HB.out)⟩
        ·rw [if_neg c7] at H; have c7b0 : decide (16384 < (y102.length : Int)) = false := decide_eq_false c7; have c7b1 : decide (16384 < y102.length) = false := decide_eq_false (by omega); clear c7; have H' := aM H; clear H; have p101 : 0 ≤ (x11_1 : Int) := of_decide_eq_true (by first | (with_reducible assumption) | assumption); have q101 : x11_1 < (l0.length : Int) := of_decide_eq_true (by first | (with_reducible assumption) | assumption); obtain ⟨ad101, e101, hx101_0⟩ := Kd.at_int HR0.out x11_1 p101 q101
         cases e101
         replace hx101_0 := (HB.out.cell (World.block_lt_of_cell? w _ hx101_0)).trans hx101_0; replace p101 := eq_true p101; replace q101 := eq_true q101
         go_wp2_with (first | ((with_reducible refine gate_builtin (b := .append) (xs := #[.tmp 39, .tmp 41]) rfl ?_); at_builtin; refine Kd.R_append (Kd.int .u64) (w0 := w) w.heap.size rfl (.tmp 39) (.tmp 41) 37 22 (.int .u64 0) 8 rfl Try.underlying37 info22 rfl (by decide) (by omega) u4 x4_1 (rd l0 x11_1) [.int .u64 (rd l0 x11_1)] (fun _ => True) (fun _ => False) rfl rfl ?aP (fun _ hk => hk.elim) ?aF ?aO ?aB ?aS ?aL ?_; (case aP => exact rfl); (case aB => exact (by repeat (first | (with_reducible first | exact HB.out | apply bA | apply bN | apply bD) | exact HB.out))); (case aF => exact (fun _ _ => trivial)); (case aO => exact (by (with_reducible repeat (first | apply rA | apply rN | apply rD)); exact HO_4.out)); (case aS => exact (below_size (by repeat (first | (with_reducible first | exact HB.out | apply bA | apply bN | apply bD) | exact HB.out)))); (case aL => have := LMc6.out; omega); intro v103 w10 ho hb hg hat; rw [← Ny102.out] at ho; have n0_ := aM (hb); have n1_ := aM (ho); clear HB; clear HO_4; have HB := n0_; have HO104 := n1_; clear n0_ n1_; clear ho hb hg hat; obtain ⟨Ao11, co11, eo11⟩ := Kd.R_slice HO104.out; subst eo11))
         go_roundg k1
         case measure => have := HK1.out; omega
         case rel => exact ⟨(y102), (IntKind.u64.wrap ((rd l0 x11_1) + 8)), (wrap64 (x11_1 + 1)), (by first | rfl | (simp; done) | (simp [*]; done)), (by first | rfl | (simp; done) | (simp [*]; done)), H', ⟨by have := HK1.out; omega⟩, ⟨by (with_reducible repeat (first | apply rA | apply rN | apply rD)); exact HO104.out⟩, ⟨by repeat (first | (with_reducible first | exact HB.out | apply bA | apply bN | apply bD) | exact HB.out)⟩⟩
       ·rw [if_neg c6] at H; exact absurd H (by simp)
      ·rw [if_neg c5] at H; have c5b0 : ((Go.bits .and .u64 (rd l0 x11_1) 1) == 0) = false := beq_eq_false_iff_ne.mpr c5; have c5b1 : ((Go.bits .and .u64 (rd l0 x11_1) 1) != 0) = true := bne_iff_ne.mpr c5
       by_cases c12 : x11_1 = 0
       ·rw [if_pos c12] at H; have c12b0 : (x11_1 == 0) = true := beq_iff_eq.mpr c12; have c12b1 : (x11_1 != 0) = false := bne_eq_false_iff_eq.mpr c12; clear c12; simp only [Option.some.injEq, Prod.mk.injEq] at H; obtain ⟨rfl, rfl⟩ := H; have p101 : 0 ≤ (x11_1 : Int) := of_decide_eq_true (by first | (with_reducible assumption) | assumption); have q101 : x11_1 < (l0.length : Int) := of_decide_eq_true (by first | (with_reducible assumption) | assumption); obtain ⟨ad101, e101, hx101_0⟩ := Kd.at_int HR0.out x11_1 p101 q101
        cases e101
        replace hx101_0 := (HB.out.cell (World.block_lt_of_cell? w _ hx101_0)).trans hx101_0; replace p101 := eq_true p101; replace q101 := eq_true q101
        go_wp2
        go_ret2
        exact ⟨_, by first | rfl | (simp [errW_none, errW_some] <;> rfl) | (simp [*, errW_none, errW_some] <;> rfl), by first | exact Kd.R_nil _ _ _ _ _ | exact Kd.N_nil _ _ _ _ _ | exact Kd.V_nil _ _ _ _ _ | exact Kd.Q_nil _ _ _ _ _ | exact Kd.S_nil _ _ _ _ _, by repeat (first | (with_reducible first | exact HB.out | apply bA | apply bN | apply bD) | exact HB.out)⟩
       ·rw [if_neg c12] at H; have c12b0 : (x11_1 == 0) = false := beq_eq_false_iff_ne.mpr c12; have c12b1 : (x11_1 != 0) = true := bne_iff_ne.mpr c12; have H' := aM H; clear H; have p101 : 0 ≤ (x11_1 : Int) := of_decide_eq_true (by first | (with_reducible assumption) | assumption); have q101 : x11_1 < (l0.length : Int) := of_decide_eq_true (by first | (with_reducible assumption) | assumption); obtain ⟨ad101, e101, hx101_0⟩ := Kd.at_int HR0.out x11_1 p101 q101
        cases e101
        replace hx101_0 := (HB.out.cell (World.block_lt_of_cell? w _ hx101_0)).trans hx101_0; replace p101 := eq_true p101; replace q101 := eq_true q101
        go_wp2
        go_loopg [4, 16] k1 (fun kq v4 v16 w' => ∃ (x4_2 : List Int) (x16_2 : Int), v16 = .int .u64 x16_2 ∧ Aside0 (rels_Unpack.l1 kq x4_2 x5_1 (rd l0 x11_1) l0 (l0.length : Int) x11_1 x16_2 = some (r1, r2)) ∧ Aside0 (kq ≤ k1) ∧ Aside0 (Kd.R (Kd.int .u64) 22 w' w.heap.size (fun _ => True) v4 x4_2) ∧ Aside0 (Below w.heap.size w w'))
        case atStart => exact ⟨(x4_1), (0), (by first | rfl | (simp; done) | (simp [*]; done)), H', ⟨Nat.le_refl _⟩, ⟨by (with_reducible repeat (first | apply rA | apply rN | apply rD)); exact HO_4.out⟩, ⟨by repeat (first | (with_reducible first | exact HB.out | apply bA | apply bN | apply bD) | exact HB.out)⟩⟩
        case round =>
         clear H'
         try clear c1
         try clear p1
         try clear q1
         try clear hx1
         try clear c2
         try clear c2b0
         try clear p2
         try clear c3
         try clear c3b0
         try clear c4
         try clear c4b0
         try clear c5
         try clear c5b0
         try clear c5b1
         try clear c6
         try clear p6
         try clear c7
         try clear c7b0
         try clear c7b1
         try clear p10
         try clear q10
         try clear hx10
         try clear c12
         try clear c12b0
         try clear c12b1
         try clear hx101_0
         try clear p101
         try clear q101
         obtain ⟨x4_2, x16_2, rfl, HA, HK2, HO_4, HB⟩ := hrel
         cases gk with
         | zero => exact absurd HA.out (by simp [rels_Unpack.l1])
         | succ k2 =>
          have H := HA.out; clear HA; simp only [rels_Unpack.l1] at H
          by_cases c13 : x16_2 < 63
          ·rw [if_pos c13] at H; have c13b0 : decide (x16_2 < 63) = true := decide_eq_true c13; clear c13; obtain ⟨ji14, hji14⟩ : ∃ j_ : Int, (IntKind.u64.wrap (x16_2 + 1)) = j_ := ⟨_, rfl⟩
           replace H : (if 0 ≤ (ji14) then (if (Go.bits .and .u64 (shr .u64 (rd l0 x11_1) (ji14)) 1) = 1 then (if x4_2.length < 17592186044416 then (rels_Unpack.l1 k2 (x4_2 ++ [IntKind.u64.wrap (x5_1 + (IntKind.u64.wrap (8 * x16_2)))]) x5_1 (rd l0 x11_1) l0 (l0.length : Int) x11_1 ji14) else (none)) else (rels_Unpack.l1 k2 x4_2 x5_1 (rd l0 x11_1) l0 (l0.length : Int) x11_1 ji14)) else (none)) = some (r1, r2) := by first | (rw [hji14] at H; exact H) | (simp only [hji14] at H ⊢; exact H)
           by_cases c15 : 0 ≤ (ji14)
           ·rw [if_pos c15] at H; have c15b0 := eq_true c15; have c15b1 : decide (0 ≤ (ji14)) = true := decide_eq_true c15; clear c15; obtain ⟨ji16, hji16⟩ : ∃ j_ : Int, (shr .u64 (rd l0 x11_1) (ji14)) = j_ := ⟨_, rfl⟩
            replace H : (if (Go.bits .and .u64 (ji16) 1) = 1 then (if x4_2.length < 17592186044416 then (rels_Unpack.l1 k2 (x4_2 ++ [IntKind.u64.wrap (x5_1 + (IntKind.u64.wrap (8 * x16_2)))]) x5_1 (rd l0 x11_1) l0 (l0.length : Int) x11_1 ji14) else (none)) else (rels_Unpack.l1 k2 x4_2 x5_1 (rd l0 x11_1) l0 (l0.length : Int) x11_1 ji14)) = some (r1, r2) := by first | (rw [hji16] at H; exact H) | (simp only [hji16] at H ⊢; exact H)
            have hji16_ : ((rd l0 x11_1) / 2 ^ min (ji14).toNat 64) = ji16 := hji16; have hji16z : (ji14) ≤ 64 → ((rd l0 x11_1) / 2 ^ (ji14).toNat) = ji16 := shr_small hji16
            by_cases c17 : (Go.bits .and .u64 (ji16) 1) = 1
            ·rw [if_pos c17] at H; have c17b0 : ((Go.bits .and .u64 (ji16) 1) == 1) = true := beq_iff_eq.mpr c17; have c17b1 : ((Go.bits .and .u64 (ji16) 1) != 1) = false := bne_eq_false_iff_eq.mpr c17; clear c17
             by_cases c18 : x4_2.length < 17592186044416
             ·rw [if_pos c18] at H; have LMc18 := aM c18; clear c18; obtain ⟨y105, hy105⟩ : ∃ y_ : List Int, y_ = (x4_2 ++ [IntKind.u64.wrap (x5_1 + (IntKind.u64.wrap (8 * x16_2)))]) := ⟨_, rfl⟩
              replace H : (rels_Unpack.l1 k2 y105 x5_1 (rd l0 x11_1) l0 (l0.length : Int) x11_1 ji14) = some (r1, r2) := by first | (rw [hy105]; with_reducible exact H) | (have H2_ := (Option.bind_some _ _).symm.trans H; rw [hy105]; with_reducible exact H2_) | (have H2_ := (Option.bind_some _ _).symm.trans H; with_reducible exact H2_) | with_reducible exact H | (rw [hy105]; exact H) | exact H
              have Ny105 := aM hy105; clear hy105; have H' := aM H; clear H
              go_wp2_with (first | ((with_reducible refine gate_builtin (b := .append) (xs := #[.tmp 25, .tmp 30]) rfl ?_); at_builtin; refine Kd.R_append (Kd.int .u64) (w0 := w) w.heap.size rfl (.tmp 25) (.tmp 30) 37 22 (.int .u64 0) 8 rfl Try.underlying37 info22 rfl (by decide) (by omega) u4 x4_2 (IntKind.u64.wrap (x5_1 + (IntKind.u64.wrap (8 * x16_2)))) [.int .u64 (IntKind.u64.wrap (x5_1 + (IntKind.u64.wrap (8 * x16_2))))] (fun _ => True) (fun _ => False) rfl rfl ?aP (fun _ hk => hk.elim) ?aF ?aO ?aB ?aS ?aL ?_; (case aP => exact rfl); (case aB => exact (by repeat (first | (with_reducible first | exact HB.out | apply bA | apply bN | apply bD) | exact HB.out))); (case aF => exact (fun _ _ => trivial)); (case aO => exact (by (with_reducible repeat (first | apply rA | apply rN | apply rD)); exact HO_4.out)); (case aS => exact (below_size (by repeat (first | (with_reducible first | exact HB.out | apply bA | apply bN | apply bD) | exact HB.out)))); (case aL => have := LMc18.out; omega); intro v106 w19 ho hb hg hat; rw [← Ny105.out] at ho; have n0_ := aM (hb); have n1_ := aM (ho); clear HB; clear HO_4; have HB := n0_; have HO107 := n1_; clear n0_ n1_; clear ho hb hg hat))
              go_roundg k2
              case measure => have := HK1.out; have := HK2.out; omega
              case rel => exact ⟨(y105), (ji14), (by first | rfl | (simp; done) | (simp only [← hji14] <;> (first | rfl | simp)) | (simp [*]; done)), H', ⟨by have := HK1.out; have := HK2.out; omega⟩, ⟨by (with_reducible repeat (first | apply rA | apply rN | apply rD)); exact HO107.out⟩, ⟨by repeat (first | (with_reducible first | exact HB.out | apply bA | apply bN | apply bD) | exact HB.out)⟩⟩
             ·rw [if_neg c18] at H; exact absurd H (by simp)
            ·rw [if_neg c17] at H; have c17b0 : ((Go.bits .and .u64 (ji16) 1) == 1) = false := beq_eq_false_iff_ne.mpr c17; have c17b1 : ((Go.bits .and .u64 (ji16) 1) != 1) = true := bne_iff_ne.mpr c17; have H' := aM H; clear H
             go_wp2
             go_roundg k2
             case measure => have := HK1.out; have := HK2.out; omega
             case rel => exact ⟨(x4_2), (ji14), (by first | rfl | (simp; done) | (simp only [← hji14] <;> (first | rfl | simp)) | (simp [*]; done)), H', ⟨by have := HK1.out; have := HK2.out; omega⟩, ⟨by (with_reducible repeat (first | apply rA | apply rN | apply rD)); exact HO_4.out⟩, ⟨by repeat (first | (with_reducible first | exact HB.out | apply bA | apply bN | apply bD) | exact HB.out)⟩⟩
           ·rw [if_neg c15] at H; exact absurd H (by simp)
          ·rw [if_neg c13] at H; have c13b0 : decide (x16_2 < 63) = false := decide_eq_false c13; clear c13
           by_cases c20 : (x4_2.length : Int) > 16384
           ·rw [if_pos c20] at H; have c20b0 : decide (16384 < (x4_2.length : Int)) = true := decide_eq_true c20; have c20b1 : decide (16384 < x4_2.length) = true := decide_eq_true (by omega); clear c20; simp only [Option.some.injEq, Prod.mk.injEq] at H; obtain ⟨rfl, rfl⟩ := H; obtain ⟨Ao21, co21, eo21⟩ := Kd.R_slice HO_4.out; subst eo21
            go_wp2
            go_ret2
            exact ⟨_, by first | rfl | (simp [errW_none, errW_some] <;> rfl) | (simp [*, errW_none, errW_some] <;> rfl), by first | exact Kd.R_nil _ _ _ _ _ | exact Kd.N_nil _ _ _ _ _ | exact Kd.V_nil _ _ _ _ _ | exact Kd.Q_nil _ _ _ _ _ | exact Kd.S_nil _ _ _ _ _, by repeat (first | (with_reducible first | exact HB.out | apply bA | apply bN | apply bD) | exact HB.out)⟩
           ·rw [if_neg c20] at H; have c20b0 : decide (16384 < (x4_2.length : Int)) = false := decide_eq_false c20; have c20b1 : decide (16384 < x4_2.length) = false := decide_eq_false (by omega); clear c20; have H' := aM H; clear H; obtain ⟨Ao22, co22, eo22⟩ := Kd.R_slice HO_4.out; subst eo22
            go_wp2
            go_roundg k2
            case measure => have := HK1.out; have := HK2.out; omega
            case rel => exact ⟨(x4_2), (IntKind.u64.wrap (x5_1 + 504)), (wrap64 (x11_1 + 1)), (by first | rfl | (simp; done) | (simp [*]; done)), (by first | rfl | (simp; done) | (simp [*]; done)), H', ⟨by have := HK1.out; have := HK2.out; omega⟩, ⟨by (with_reducible repeat (first | apply rA | apply rN | apply rD)); exact HO_4.out⟩, ⟨by repeat (first | (with_reducible first | exact HB.out | apply bA | apply bN | apply bD) | exact HB.out)⟩⟩
     ·rw [if_neg c4] at H; exact absurd H (by simp)
    ·rw [if_neg c3] at H; exact absurd H (by simp)
   ·rw [if_neg c2] at H; have c2b0 : decide (x11_1 < (l0.length : Int)) = false := decide_eq_false c2; clear c2; simp only [Option.some.injEq, Prod.mk.injEq] at H; obtain ⟨rfl, rfl⟩ := H
    go_wp2
    go_ret2
    exact ⟨_, by first | rfl | (simp [errW_none, errW_some] <;> rfl) | (simp [*, errW_none, errW_some] <;> rfl), by (with_reducible repeat (first | apply rA | apply rN | apply rD)); exact HO_4.out, by repeat (first | (with_reducible first | exact HB.out | apply bA | apply bN | apply bD) | exact HB.out)⟩

end Go.Proofs.Ythhlnhbmjkjmlaa.PRelsMade
