/- Printed by this session's own program (wip/tools: a turn of the kit's print) out of the translation: each Go function that the law reaches as a Lean function, and that the machine's call comes to what that function tells; no condition but what each theorem names. -/
import Derived.Test.YtpjilbhhhpikaaaPTlsLaysx0
namespace Go.Proofs.Ytpjilbhhhpikaaa.PTlsLays
open Go.RowKit Go.Proofs.YtpjilbhhhpikaaaW.PrintWords Go.Proofs.YtpjilbhhhpikaaaW.PrintLast Go.Proofs.YtpjilbhhhpikaaaW.PrintMore Go.Proofs.YtpjilbhhhpikaaaX
attribute [local go_sem] max2_int min2_int max_two min_two max_three min_three max_four min_four   -- for this text's walks alone
set_option linter.unusedVariables false
set_option linter.unusedSimpArgs false

/-! ### shackleref18_Layout: function 8 -/
mutual
def shackleref18_Layout.l0 : Nat → List (S37) → List Int → Int → Int → Int → Option (List Int × Int × Int × Int)
  | 0, _, _, _, _, _ => none
  | k + 1, x0, x6, x7, x8, x9 => if x9 < (x0.length : Int) then (if 0 ≤ x9 then (if ((rd_T37 x0 x9).f2) = 0 then (shackleref18_Layout.j1 k x0 x6 x7 x8 x9 1) else (shackleref18_Layout.j1 k x0 x6 x7 x8 x9 ((rd_T37 x0 x9).f2))) else (none)) else (some (x6, x7, x8, 0))
def shackleref18_Layout.j1 : Nat → List (S37) → List Int → Int → Int → Int → Int → Option (List Int × Int × Int × Int)
  | 0, _, _, _, _, _, _ => none
  | k + 1, x0, x6, x7, x8, x9, x10 => shackleref18_Layout.l1 k x0 x6 x7 x8 x9 x10 false 1
def shackleref18_Layout.l1 : Nat → List (S37) → List Int → Int → Int → Int → Int → Bool → Int → Option (List Int × Int × Int × Int)
  | 0, _, _, _, _, _, _, _, _ => none
  | k + 1, x0, x6, x7, x8, x9, x10, x11, x12 => if x12 ≤ 4096 then (if x11 = true then (shackleref18_Layout.l1 k x0 x6 x7 x8 x9 x10 true (IntKind.u64.wrap (2 * x12))) else (shackleref18_Layout.l1 k x0 x6 x7 x8 x9 x10 (x12 == x10) (IntKind.u64.wrap (2 * x12)))) else (if x11 = true then (if 0 ≤ x9 then (if x9 < (x0.length : Int) then (if (IntKind.u64.wrap ((((rd_T37 x0 x9).f0).length : Int))) > ((rd_T37 x0 x9).f1) then (shackleref18_Layout.j3 k x0 x6 x7 x8 x9 x10 true) else (shackleref18_Layout.j3 k x0 x6 x7 x8 x9 x10 (decide (((rd_T37 x0 x9).f1) > 1048576)))) else (none)) else (none)) else (shackleref18_Layout.j3 k x0 x6 x7 x8 x9 x10 true))
def shackleref18_Layout.j3 : Nat → List (S37) → List Int → Int → Int → Int → Int → Bool → Option (List Int × Int × Int × Int)
  | 0, _, _, _, _, _, _, _ => none
  | k + 1, x0, x6, x7, x8, x9, x10, x60 => if x60 = true then (some (([] : List Int), 0, 0, 21)) else (if 0 ≤ x9 then (if x9 < (x0.length : Int) then (shackleref18_Layout.l2 k x0 x6 (IntKind.u64.wrap (x7 + ((rd_T37 x0 x9).f1))) x8 x9 x10) else (none)) else (none))
def shackleref18_Layout.l2 : Nat → List (S37) → List Int → Int → Int → Int → Int → Option (List Int × Int × Int × Int)
  | 0, _, _, _, _, _, _ => none
  | k + 1, x0, x6, x7, x8, x9, x10 => if x10 = 0 then (none) else (if (Int.tmod x7 x10) = 0 then (if x7 > 1048576 then (some (([] : List Int), 0, 0, 21)) else (if x10 > x8 then (if x6.length < 17592186044416 then (shackleref18_Layout.l0 k x0 (x6 ++ [x7]) x7 x10 (wrap64 (x9 + 1))) else (none)) else (if x6.length < 17592186044416 then (shackleref18_Layout.l0 k x0 (x6 ++ [x7]) x7 x8 (wrap64 (x9 + 1))) else (none)))) else (shackleref18_Layout.l2 k x0 x6 (IntKind.u64.wrap (x7 + 1)) x8 x9 x10))
end
def shackleref18_Layout.f (k : Nat) (l0 : List (S37)) : Option (List Int × Int × Int × Int) := shackleref18_Layout.l0 k l0 ([] : List Int) 0 1 0
theorem shackleref18_Layout.mono_l : ∀ k, (∀ y0 y1 y2 y3 y4, LeO (shackleref18_Layout.l0 k y0 y1 y2 y3 y4) (shackleref18_Layout.l0 (k + 1) y0 y1 y2 y3 y4)) ∧ (∀ y0 y1 y2 y3 y4 y5, LeO (shackleref18_Layout.j1 k y0 y1 y2 y3 y4 y5) (shackleref18_Layout.j1 (k + 1) y0 y1 y2 y3 y4 y5)) ∧ (∀ y0 y1 y2 y3 y4 y5 y6 y7, LeO (shackleref18_Layout.l1 k y0 y1 y2 y3 y4 y5 y6 y7) (shackleref18_Layout.l1 (k + 1) y0 y1 y2 y3 y4 y5 y6 y7)) ∧ (∀ y0 y1 y2 y3 y4 y5 y6, LeO (shackleref18_Layout.j3 k y0 y1 y2 y3 y4 y5 y6) (shackleref18_Layout.j3 (k + 1) y0 y1 y2 y3 y4 y5 y6)) ∧ (∀ y0 y1 y2 y3 y4 y5, LeO (shackleref18_Layout.l2 k y0 y1 y2 y3 y4 y5) (shackleref18_Layout.l2 (k + 1) y0 y1 y2 y3 y4 y5))
  | 0 => ⟨fun _ _ _ _ _ r h => by simp [shackleref18_Layout.l0] at h, fun _ _ _ _ _ _ r h => by simp [shackleref18_Layout.j1] at h, fun _ _ _ _ _ _ _ _ r h => by simp [shackleref18_Layout.l1] at h, fun _ _ _ _ _ _ _ r h => by simp [shackleref18_Layout.j3] at h, fun _ _ _ _ _ _ r h => by simp [shackleref18_Layout.l2] at h⟩
  | k + 1 => by
    obtain ⟨ih0, ih1, ih2, ih3, ih4⟩ := shackleref18_Layout.mono_l k
    refine ⟨?_, ?_, ?_, ?_, ?_⟩
    · intro y0 y1 y2 y3 y4
      unfold shackleref18_Layout.l0
      repeat' first
      | (with_reducible exact ih0 _ _ _ _ _)
      | (with_reducible exact ih1 _ _ _ _ _ _)
      | (with_reducible exact ih2 _ _ _ _ _ _ _ _)
      | (with_reducible exact ih3 _ _ _ _ _ _ _)
      | (with_reducible exact ih4 _ _ _ _ _ _)
      | (with_reducible exact LeO.refl _)
      | (with_reducible exact LeO.none _)
      | (with_reducible refine LeO.ite ?_ ?_)
      | (with_reducible refine LeO.bind ?_ (fun _ => ?_))
      | exact ih0 _ _ _ _ _
      | exact ih1 _ _ _ _ _ _
      | exact ih2 _ _ _ _ _ _ _ _
      | exact ih3 _ _ _ _ _ _ _
      | exact ih4 _ _ _ _ _ _
      | exact LeO.none _
      | refine LeO.ite ?_ ?_
      | refine LeO.bind ?_ (fun _ => ?_)
    · intro y0 y1 y2 y3 y4 y5
      unfold shackleref18_Layout.j1
      repeat' first
      | (with_reducible exact ih0 _ _ _ _ _)
      | (with_reducible exact ih1 _ _ _ _ _ _)
      | (with_reducible exact ih2 _ _ _ _ _ _ _ _)
      | (with_reducible exact ih3 _ _ _ _ _ _ _)
      | (with_reducible exact ih4 _ _ _ _ _ _)
      | (with_reducible exact LeO.refl _)
      | (with_reducible exact LeO.none _)
      | (with_reducible refine LeO.ite ?_ ?_)
      | (with_reducible refine LeO.bind ?_ (fun _ => ?_))
      | exact ih0 _ _ _ _ _
      | exact ih1 _ _ _ _ _ _
      | exact ih2 _ _ _ _ _ _ _ _
      | exact ih3 _ _ _ _ _ _ _
      | exact ih4 _ _ _ _ _ _
      | exact LeO.none _
      | refine LeO.ite ?_ ?_
      | refine LeO.bind ?_ (fun _ => ?_)
    · intro y0 y1 y2 y3 y4 y5 y6 y7
      unfold shackleref18_Layout.l1
      repeat' first
      | (with_reducible exact ih0 _ _ _ _ _)
      | (with_reducible exact ih1 _ _ _ _ _ _)
      | (with_reducible exact ih2 _ _ _ _ _ _ _ _)
      | (with_reducible exact ih3 _ _ _ _ _ _ _)
      | (with_reducible exact ih4 _ _ _ _ _ _)
      | (with_reducible exact LeO.refl _)
      | (with_reducible exact LeO.none _)
      | (with_reducible refine LeO.ite ?_ ?_)
      | (with_reducible refine LeO.bind ?_ (fun _ => ?_))
      | exact ih0 _ _ _ _ _
      | exact ih1 _ _ _ _ _ _
      | exact ih2 _ _ _ _ _ _ _ _
      | exact ih3 _ _ _ _ _ _ _
      | exact ih4 _ _ _ _ _ _
      | exact LeO.none _
      | refine LeO.ite ?_ ?_
      | refine LeO.bind ?_ (fun _ => ?_)
    · intro y0 y1 y2 y3 y4 y5 y6
      unfold shackleref18_Layout.j3
      repeat' first
      | (with_reducible exact ih0 _ _ _ _ _)
      | (with_reducible exact ih1 _ _ _ _ _ _)
      | (with_reducible exact ih2 _ _ _ _ _ _ _ _)
      | (with_reducible exact ih3 _ _ _ _ _ _ _)
      | (with_reducible exact ih4 _ _ _ _ _ _)
      | (with_reducible exact LeO.refl _)
      | (with_reducible exact LeO.none _)
      | (with_reducible refine LeO.ite ?_ ?_)
      | (with_reducible refine LeO.bind ?_ (fun _ => ?_))
      | exact ih0 _ _ _ _ _
      | exact ih1 _ _ _ _ _ _
      | exact ih2 _ _ _ _ _ _ _ _
      | exact ih3 _ _ _ _ _ _ _
      | exact ih4 _ _ _ _ _ _
      | exact LeO.none _
      | refine LeO.ite ?_ ?_
      | refine LeO.bind ?_ (fun _ => ?_)
    · intro y0 y1 y2 y3 y4 y5
      unfold shackleref18_Layout.l2
      repeat' first
      | (with_reducible exact ih0 _ _ _ _ _)
      | (with_reducible exact ih1 _ _ _ _ _ _)
      | (with_reducible exact ih2 _ _ _ _ _ _ _ _)
      | (with_reducible exact ih3 _ _ _ _ _ _ _)
      | (with_reducible exact ih4 _ _ _ _ _ _)
      | (with_reducible exact LeO.refl _)
      | (with_reducible exact LeO.none _)
      | (with_reducible refine LeO.ite ?_ ?_)
      | (with_reducible refine LeO.bind ?_ (fun _ => ?_))
      | exact ih0 _ _ _ _ _
      | exact ih1 _ _ _ _ _ _
      | exact ih2 _ _ _ _ _ _ _ _
      | exact ih3 _ _ _ _ _ _ _
      | exact ih4 _ _ _ _ _ _
      | exact LeO.none _
      | refine LeO.ite ?_ ?_
      | refine LeO.bind ?_ (fun _ => ?_)
theorem shackleref18_Layout.mono : ∀ a0 k, LeO (shackleref18_Layout.f k a0) (shackleref18_Layout.f (k + 1) a0) := by
  intro a0 k
  obtain ⟨ih0, ih1, ih2, ih3, ih4⟩ := shackleref18_Layout.mono_l k
  unfold shackleref18_Layout.f
  repeat' first
      | (with_reducible exact ih0 _ _ _ _ _)
      | (with_reducible exact ih1 _ _ _ _ _ _)
      | (with_reducible exact ih2 _ _ _ _ _ _ _ _)
      | (with_reducible exact ih3 _ _ _ _ _ _ _)
      | (with_reducible exact ih4 _ _ _ _ _ _)
      | (with_reducible exact LeO.refl _)
      | (with_reducible exact LeO.none _)
      | (with_reducible refine LeO.ite ?_ ?_)
      | (with_reducible refine LeO.bind ?_ (fun _ => ?_))
      | exact ih0 _ _ _ _ _
      | exact ih1 _ _ _ _ _ _
      | exact ih2 _ _ _ _ _ _ _ _
      | exact ih3 _ _ _ _ _ _ _
      | exact ih4 _ _ _ _ _ _
      | exact LeO.none _
      | refine LeO.ite ?_ ?_
      | refine LeO.bind ?_ (fun _ => ?_)
set_option maxHeartbeats 8000000 in
set_option maxRecDepth 100000 in
theorem shackleref18_Layout.calls (k : Nat) (A0 : Option Addr) (c0 : Nat) (l0 : List (S37)) (r1 : List Int) (r2 : Int) (r3 : Int) (r4 : Int) (w : World) (hr0 : Kd.C k37 w A0 l0.length l0) (hc0 : l0.length ≤ c0) (h : shackleref18_Layout.f k l0 = some (r1, r2, r3, r4)) :
    Calls Try.prog 8 #[.slice A0 l0.length c0] w fun e w' => ∃ v0_ : Value, e = .returned (.tuple #[v0_, .int .u64 r2, .int .u64 r3, .int .i64 r4]) ∧ Kd.R (Kd.int .u64) 25 w' w.heap.size (fun _ => True) v0_ r1 ∧ Below w.heap.size w w' := by
  have HR0 := Aside0.mk hr0
  have HC0 := Aside0.mk hc0
  clear hr0 hc0
  have HB := Aside0.mk (Below.refl w.heap.size w)
  have H : (shackleref18_Layout.l0 k l0 ([] : List Int) 0 1 0) = some (r1, r2, r3, r4) := h
  clear h
  have H' := Aside0.mk H
  clear H
  go_enter Try.func8, Try.ntmps8
  go_wp2
  repeat (go_quiet (fail); try go_wp2)
  go_loopg [6, 7, 8, 9] k (fun kq v6 v7 v8 v9 w' => ∃ (x6_1 : List Int) (x7_1 : Int) (x8_1 : Int) (x9_1 : Int), v7 = .int .u64 x7_1 ∧ v8 = .int .u64 x8_1 ∧ v9 = .int .i64 x9_1 ∧ Aside0 (shackleref18_Layout.l0 kq l0 x6_1 x7_1 x8_1 x9_1 = some (r1, r2, r3, r4)) ∧ Aside0 (kq ≤ k) ∧ Aside0 (Kd.R (Kd.int .u64) 25 w' w.heap.size (fun _ => True) v6 x6_1) ∧ Aside0 (Below w.heap.size w w'))
  case atStart => exact ⟨(([] : List Int)), (0), (1), (0), (by first | rfl | (simp; done) | (simp [*]; done)), (by first | rfl | (simp; done) | (simp [*]; done)), (by first | rfl | (simp; done) | (simp [*]; done)), H', ⟨Nat.le_refl _⟩, ⟨by first | exact Kd.R_nil _ _ _ _ _ | exact Kd.N_nil _ _ _ _ _ | exact Kd.V_nil _ _ _ _ _ | exact Kd.Q_nil _ _ _ _ _ | exact Kd.S_nil _ _ _ _ _⟩, ⟨by repeat (first | (with_reducible first | exact HB.out | apply below_alloc | apply pw_below_drewN | apply below_drew1) | exact HB.out)⟩⟩
  case round =>
    clear H'
    obtain ⟨x6_1, x7_1, x8_1, x9_1, rfl, rfl, rfl, HA, HK1, HO_6, HB⟩ := hrel
    cases gk with
    | zero => exact absurd HA.out (by simp [shackleref18_Layout.l0])
    | succ k1 =>
      have H := HA.out
      clear HA
      simp only [shackleref18_Layout.l0] at H
      by_cases c2 : x9_1 < (l0.length : Int)
      · rw [if_pos c2] at H
        have c2b0 : decide (x9_1 < (l0.length : Int)) = true := decide_eq_true c2
        clear c2
        by_cases c3 : 0 ≤ x9_1
        · rw [if_pos c3] at H
          have c3b0 : decide (0 ≤ x9_1) = true := decide_eq_true c3
          clear c3
          have HC4 := Aside0.mk H
          clear H
          have p110 : 0 ≤ (x9_1 : Int) := of_decide_eq_true (by first | (with_reducible assumption) | assumption)
          have q110 : x9_1 < (l0.length : Int) := of_decide_eq_true (by first | (with_reducible assumption) | assumption)
          obtain ⟨ad110, A110_0, c110_0, e110, hx110_0, hx110_1, hx110_2, hl110_0, hi110_0⟩ := at_T37 HR0.out x9_1 p110 q110
          cases e110
          replace hx110_0 := (HB.out.cell (World.block_lt_of_cell? w _ hx110_0)).trans hx110_0
          replace hx110_1 := (HB.out.cell (World.block_lt_of_cell? w _ hx110_1)).trans hx110_1
          replace hx110_2 := (HB.out.cell (World.block_lt_of_cell? w _ hx110_2)).trans hx110_2
          have HR110_0 := Aside0.mk hi110_0
          have HC110_0 := Aside0.mk hl110_0
          clear hi110_0 hl110_0
          replace p110 := eq_true p110
          replace q110 := eq_true q110
          go_upto_if 25 with (fail)
          repeat (go_quiet (fail); go_upto_if 25 with (fail))
          go_cut [10] (fun v10 wc => ∃ (kq : Nat) (x10_3 : Int), v10 = .int .u64 x10_3 ∧ Aside0 (shackleref18_Layout.j1 kq l0 x6_1 x7_1 x8_1 x9_1 x10_3 = some (r1, r2, r3, r4)) ∧ Aside0 (kq ≤ k1) ∧ Aside0 (Kd.R (Kd.int .u64) 25 wc w.heap.size (fun _ => True) u6 x6_1) ∧ Aside0 (Below w.heap.size w wc))
          case first =>
            have H := HC4.out
            clear HC4
            by_cases c5 : ((rd_T37 l0 x9_1).f2) = 0
            · rw [if_pos c5] at H
              have c5b0 : (((rd_T37 l0 x9_1).f2) == 0) = true := beq_iff_eq.mpr c5
              have c5b1 : (((rd_T37 l0 x9_1).f2) != 0) = false := bne_eq_false_iff_eq.mpr c5
              clear c5
              (first | rw [c5b0] | (simp only [i64_w, i32_w]; rw [c5b0]) | skip)
              have H' := Aside0.mk H
              clear H
              go_wp2
              repeat (go_quiet (fail); try go_wp2)
              go_meet
              case rel => exact ⟨_, (1), (by first | rfl | (simp; done) | (simp [*]; done)), H', ⟨by have := HK1.out; first | omega | exact Nat.le_refl _⟩, ⟨by (with_reducible repeat (first | apply Kd.R_alloc | apply Kd.R_drewN | apply Kd.R_drew)); exact HO_6.out⟩, ⟨by repeat (first | (with_reducible first | exact HB.out | apply below_alloc | apply pw_below_drewN | apply below_drew1) | exact HB.out)⟩⟩
            · rw [if_neg c5] at H
              have c5b0 : (((rd_T37 l0 x9_1).f2) == 0) = false := beq_eq_false_iff_ne.mpr c5
              have c5b1 : (((rd_T37 l0 x9_1).f2) != 0) = true := bne_iff_ne.mpr c5
              (first | rw [c5b0] | (simp only [i64_w, i32_w]; rw [c5b0]) | skip)
              have H' := Aside0.mk H
              clear H
              go_wp2
              repeat (go_quiet (fail); try go_wp2)
              go_meet
              case rel => exact ⟨_, ((rd_T37 l0 x9_1).f2), (by first | rfl | (simp; done) | (simp [*]; done)), H', ⟨by have := HK1.out; first | omega | exact Nat.le_refl _⟩, ⟨by (with_reducible repeat (first | apply Kd.R_alloc | apply Kd.R_drewN | apply Kd.R_drew)); exact HO_6.out⟩, ⟨by repeat (first | (with_reducible first | exact HB.out | apply below_alloc | apply pw_below_drewN | apply below_drew1) | exact HB.out)⟩⟩
          case rest =>
            clear HC4
            try clear c1
            try clear p1
            try clear q1
            try clear hx1
            try clear c2
            try clear c2b0
            try clear p2
            try clear c3
            try clear c3b0
            try clear c5
            try clear c5b0
            try clear c5b1
            try clear hx110_0
            try clear hx110_1
            try clear hx110_2
            try clear p110
            try clear q110
            obtain ⟨kq, x10_3, rfl, HA, HJ3, HO_6, HB⟩ := hcut
            cases kq with
            | zero => exact absurd HA.out (by simp [shackleref18_Layout.j1])
            | succ kj3 =>
              have H := HA.out
              clear HA
              simp only [shackleref18_Layout.j1] at H
              have H' := Aside0.mk H
              clear H
              go_wp2
              repeat (go_quiet (fail); try go_wp2)
              go_loopg [11, 12] kj3 (fun kq v11 v12 w' => ∃ (x11_3 : Bool) (x12_3 : Int), v11 = .bool x11_3 ∧ v12 = .int .u64 x12_3 ∧ Aside0 (shackleref18_Layout.l1 kq l0 x6_1 x7_1 x8_1 x9_1 x10_3 x11_3 x12_3 = some (r1, r2, r3, r4)) ∧ Aside0 (kq ≤ kj3) ∧ Aside0 (Kd.R (Kd.int .u64) 25 w' w.heap.size (fun _ => True) u6 x6_1) ∧ Aside0 (Below w.heap.size w w'))
              case atStart => exact ⟨(false), (1), (by first | rfl | (simp; done) | (simp [*]; done)), (by first | rfl | (simp; done) | (simp [*]; done)), H', ⟨Nat.le_refl _⟩, ⟨by (with_reducible repeat (first | apply Kd.R_alloc | apply Kd.R_drewN | apply Kd.R_drew)); exact HO_6.out⟩, ⟨by repeat (first | (with_reducible first | exact HB.out | apply below_alloc | apply pw_below_drewN | apply below_drew1) | exact HB.out)⟩⟩
              case round =>
                clear H'
                try clear c1
                try clear p1
                try clear q1
                try clear hx1
                try clear c2
                try clear c2b0
                try clear p2
                try clear c3
                try clear c3b0
                try clear c5
                try clear c5b0
                try clear c5b1
                try clear hx110_0
                try clear hx110_1
                try clear hx110_2
                try clear p1
                try clear p110
                try clear p2
                try clear q1
                try clear q110
                obtain ⟨x11_3, x12_3, rfl, rfl, HA, HK3, HO_6, HB⟩ := hrel
                cases gk with
                | zero => exact absurd HA.out (by simp [shackleref18_Layout.l1])
                | succ k3 =>
                  have H := HA.out
                  clear HA
                  simp only [shackleref18_Layout.l1] at H
                  by_cases c6 : x12_3 ≤ 4096
                  · rw [if_pos c6] at H
                    have c6b0 : decide (x12_3 ≤ 4096) = true := decide_eq_true c6
                    clear c6
                    by_cases c7 : x11_3 = true
                    · subst c7
                      have H1 : (shackleref18_Layout.l1 k3 l0 x6_1 x7_1 x8_1 x9_1 x10_3 true (IntKind.u64.wrap (2 * x12_3))) = some (r1, r2, r3, r4) := by rw [if_pos rfl] at H; exact H
                      clear H
                      have H := H1
                      clear H1
                      have H' := Aside0.mk H
                      clear H
                      go_wp2
                      repeat (go_quiet (fail); try go_wp2)
                      go_roundg k3
                      case measure => have := HK1.out; have := HJ3.out; have := HK3.out; omega
                      case rel => exact ⟨(true), (IntKind.u64.wrap (2 * x12_3)), (by first | rfl | (simp; done) | (simp [*]; done)), (by first | rfl | (simp; done) | (simp [*]; done)), H', ⟨by have := HK1.out; have := HJ3.out; have := HK3.out; omega⟩, ⟨by (with_reducible repeat (first | apply Kd.R_alloc | apply Kd.R_drewN | apply Kd.R_drew)); exact HO_6.out⟩, ⟨by repeat (first | (with_reducible first | exact HB.out | apply below_alloc | apply pw_below_drewN | apply below_drew1) | exact HB.out)⟩⟩
                    · replace c7 := Bool.eq_false_iff.mpr c7
                      subst c7
                      have H1 : (shackleref18_Layout.l1 k3 l0 x6_1 x7_1 x8_1 x9_1 x10_3 (x12_3 == x10_3) (IntKind.u64.wrap (2 * x12_3))) = some (r1, r2, r3, r4) := by rw [if_neg (show ¬ (false = true) by decide)] at H; exact H
                      clear H
                      have H := H1
                      clear H1
                      have H' := Aside0.mk H
                      clear H
                      go_wp2
                      repeat (go_quiet (fail); try go_wp2)
                      go_roundg k3
                      case measure => have := HK1.out; have := HJ3.out; have := HK3.out; omega
                      case rel => exact ⟨((x12_3 == x10_3)), (IntKind.u64.wrap (2 * x12_3)), (by first | rfl | (simp; done) | (simp [*]; done)), (by first | rfl | (simp; done) | (simp [*]; done)), H', ⟨by have := HK1.out; have := HJ3.out; have := HK3.out; omega⟩, ⟨by (with_reducible repeat (first | apply Kd.R_alloc | apply Kd.R_drewN | apply Kd.R_drew)); exact HO_6.out⟩, ⟨by repeat (first | (with_reducible first | exact HB.out | apply below_alloc | apply pw_below_drewN | apply below_drew1) | exact HB.out)⟩⟩
                  · rw [if_neg c6] at H
                    have c6b0 : decide (x12_3 ≤ 4096) = false := decide_eq_false c6
                    clear c6
                    have HC8 := Aside0.mk H
                    clear H
                    go_upto_region 15 with (fail)
                    repeat (go_quiet (fail); go_upto_region 15 with (fail))
                    go_cut [60] (fun v60 wc => ∃ (kq : Nat) (x60_7 : Bool), v60 = .bool x60_7 ∧ Aside0 (shackleref18_Layout.j3 kq l0 x6_1 x7_1 x8_1 x9_1 x10_3 x60_7 = some (r1, r2, r3, r4)) ∧ Aside0 (kq ≤ k3) ∧ Aside0 (Kd.R (Kd.int .u64) 25 wc w.heap.size (fun _ => True) u6 x6_1) ∧ Aside0 (Below w.heap.size w wc))
                    case first =>
                      have H := HC8.out
                      clear HC8
                      by_cases c9 : x11_3 = true
                      · subst c9
                        have H1 : (if 0 ≤ x9_1 then (if x9_1 < (l0.length : Int) then (if (IntKind.u64.wrap ((((rd_T37 l0 x9_1).f0).length : Int))) > ((rd_T37 l0 x9_1).f1) then (shackleref18_Layout.j3 k3 l0 x6_1 x7_1 x8_1 x9_1 x10_3 true) else (shackleref18_Layout.j3 k3 l0 x6_1 x7_1 x8_1 x9_1 x10_3 (decide (((rd_T37 l0 x9_1).f1) > 1048576)))) else (none)) else (none)) = some (r1, r2, r3, r4) := by rw [if_pos rfl] at H; exact H
                        clear H
                        have H := H1
                        clear H1
                        by_cases c10 : 0 ≤ x9_1
                        · rw [if_pos c10] at H
                          have c10b0 : decide (0 ≤ x9_1) = true := decide_eq_true c10
                          clear c10
                          (first | rw [c10b0] | (simp only [i64_w, i32_w]; rw [c10b0]) | skip)
                          by_cases c11 : x9_1 < (l0.length : Int)
                          · rw [if_pos c11] at H
                            have c11b0 : decide (x9_1 < (l0.length : Int)) = true := decide_eq_true c11
                            clear c11
                            by_cases c12 : (IntKind.u64.wrap ((((rd_T37 l0 x9_1).f0).length : Int))) > ((rd_T37 l0 x9_1).f1)
                            · rw [if_pos c12] at H
                              have c12b0 : decide (((rd_T37 l0 x9_1).f1) < (IntKind.u64.wrap ((((rd_T37 l0 x9_1).f0).length : Int)))) = true := decide_eq_true c12
                              clear c12
                              have H' := Aside0.mk H
                              clear H
                              have p111 : 0 ≤ (x9_1 : Int) := of_decide_eq_true (by first | (with_reducible assumption) | assumption)
                              have q111 : x9_1 < (l0.length : Int) := of_decide_eq_true (by first | (with_reducible assumption) | assumption)
                              obtain ⟨ad111, A111_0, c111_0, e111, hx111_0, hx111_1, hx111_2, hl111_0, hi111_0⟩ := at_T37 HR0.out x9_1 p111 q111
                              obtain rfl : ad110 = ad111 := (by injection e111)
                              replace hx111_0 := (HB.out.cell (World.block_lt_of_cell? w _ hx111_0)).trans hx111_0
                              replace hx111_1 := (HB.out.cell (World.block_lt_of_cell? w _ hx111_1)).trans hx111_1
                              replace hx111_2 := (HB.out.cell (World.block_lt_of_cell? w _ hx111_2)).trans hx111_2
                              have HR111_0 := Aside0.mk hi111_0
                              have HC111_0 := Aside0.mk hl111_0
                              clear hi111_0 hl111_0
                              replace p111 := eq_true p111
                              replace q111 := eq_true q111
                              have p112 : 0 ≤ (x9_1 : Int) := of_decide_eq_true (by first | (with_reducible assumption) | assumption)
                              have q112 : x9_1 < (l0.length : Int) := of_decide_eq_true (by first | (with_reducible assumption) | assumption)
                              obtain ⟨ad112, A112_0, c112_0, e112, hx112_0, hx112_1, hx112_2, hl112_0, hi112_0⟩ := at_T37 HR0.out x9_1 p112 q112
                              obtain rfl : ad110 = ad112 := (by injection e112)
                              replace hx112_0 := (HB.out.cell (World.block_lt_of_cell? w _ hx112_0)).trans hx112_0
                              replace hx112_1 := (HB.out.cell (World.block_lt_of_cell? w _ hx112_1)).trans hx112_1
                              replace hx112_2 := (HB.out.cell (World.block_lt_of_cell? w _ hx112_2)).trans hx112_2
                              have HR112_0 := Aside0.mk hi112_0
                              have HC112_0 := Aside0.mk hl112_0
                              clear hi112_0 hl112_0
                              replace p112 := eq_true p112
                              replace q112 := eq_true q112
                              have ea_ := Option.some.inj (hx111_0.symm.trans hx112_0)
                              injection ea_ with ea_ en_ ec_
                              subst ea_
                              subst ec_
                              clear en_
                              go_wp2
                              repeat (go_quiet (fail); try go_wp2)
                              go_meet
                              case rel => exact ⟨_, (true), (by first | rfl | (simp; done) | (simp [*]; done)), H', ⟨by have := HK1.out; have := HJ3.out; have := HK3.out; first | omega | exact Nat.le_refl _⟩, ⟨by (with_reducible repeat (first | apply Kd.R_alloc | apply Kd.R_drewN | apply Kd.R_drew)); exact HO_6.out⟩, ⟨by repeat (first | (with_reducible first | exact HB.out | apply below_alloc | apply pw_below_drewN | apply below_drew1) | exact HB.out)⟩⟩
                            · rw [if_neg c12] at H
                              have c12b0 : decide (((rd_T37 l0 x9_1).f1) < (IntKind.u64.wrap ((((rd_T37 l0 x9_1).f0).length : Int)))) = false := decide_eq_false c12
                              clear c12
                              have H' := Aside0.mk H
                              clear H
                              have p111 : 0 ≤ (x9_1 : Int) := of_decide_eq_true (by first | (with_reducible assumption) | assumption)
                              have q111 : x9_1 < (l0.length : Int) := of_decide_eq_true (by first | (with_reducible assumption) | assumption)
                              obtain ⟨ad111, A111_0, c111_0, e111, hx111_0, hx111_1, hx111_2, hl111_0, hi111_0⟩ := at_T37 HR0.out x9_1 p111 q111
                              obtain rfl : ad110 = ad111 := (by injection e111)
                              replace hx111_0 := (HB.out.cell (World.block_lt_of_cell? w _ hx111_0)).trans hx111_0
                              replace hx111_1 := (HB.out.cell (World.block_lt_of_cell? w _ hx111_1)).trans hx111_1
                              replace hx111_2 := (HB.out.cell (World.block_lt_of_cell? w _ hx111_2)).trans hx111_2
                              have HR111_0 := Aside0.mk hi111_0
                              have HC111_0 := Aside0.mk hl111_0
                              clear hi111_0 hl111_0
                              replace p111 := eq_true p111
                              replace q111 := eq_true q111
                              have p112 : 0 ≤ (x9_1 : Int) := of_decide_eq_true (by first | (with_reducible assumption) | assumption)
                              have q112 : x9_1 < (l0.length : Int) := of_decide_eq_true (by first | (with_reducible assumption) | assumption)
                              obtain ⟨ad112, A112_0, c112_0, e112, hx112_0, hx112_1, hx112_2, hl112_0, hi112_0⟩ := at_T37 HR0.out x9_1 p112 q112
                              obtain rfl : ad110 = ad112 := (by injection e112)
                              replace hx112_0 := (HB.out.cell (World.block_lt_of_cell? w _ hx112_0)).trans hx112_0
                              replace hx112_1 := (HB.out.cell (World.block_lt_of_cell? w _ hx112_1)).trans hx112_1
                              replace hx112_2 := (HB.out.cell (World.block_lt_of_cell? w _ hx112_2)).trans hx112_2
                              have HR112_0 := Aside0.mk hi112_0
                              have HC112_0 := Aside0.mk hl112_0
                              clear hi112_0 hl112_0
                              replace p112 := eq_true p112
                              replace q112 := eq_true q112
                              have ea_ := Option.some.inj (hx111_0.symm.trans hx112_0)
                              injection ea_ with ea_ en_ ec_
                              subst ea_
                              subst ec_
                              clear en_
                              have p113 : 0 ≤ (x9_1 : Int) := of_decide_eq_true (by first | (with_reducible assumption) | assumption)
                              have q113 : x9_1 < (l0.length : Int) := of_decide_eq_true (by first | (with_reducible assumption) | assumption)
                              obtain ⟨ad113, A113_0, c113_0, e113, hx113_0, hx113_1, hx113_2, hl113_0, hi113_0⟩ := at_T37 HR0.out x9_1 p113 q113
                              obtain rfl : ad110 = ad113 := (by injection e113)
                              replace hx113_0 := (HB.out.cell (World.block_lt_of_cell? w _ hx113_0)).trans hx113_0
                              replace hx113_1 := (HB.out.cell (World.block_lt_of_cell? w _ hx113_1)).trans hx113_1
                              replace hx113_2 := (HB.out.cell (World.block_lt_of_cell? w _ hx113_2)).trans hx113_2
                              have HR113_0 := Aside0.mk hi113_0
                              have HC113_0 := Aside0.mk hl113_0
                              clear hi113_0 hl113_0
                              replace p113 := eq_true p113
                              replace q113 := eq_true q113
                              have ea_ := Option.some.inj (hx111_0.symm.trans hx113_0)
                              injection ea_ with ea_ en_ ec_
                              subst ea_
                              subst ec_
                              clear en_
                              go_wp2
                              repeat (go_quiet (fail); try go_wp2)
                              go_meet
                              case rel => exact ⟨_, (decide (((rd_T37 l0 x9_1).f1) > 1048576)), (by first | rfl | (simp; done) | (simp [*]; done)), H', ⟨by have := HK1.out; have := HJ3.out; have := HK3.out; first | omega | exact Nat.le_refl _⟩, ⟨by (with_reducible repeat (first | apply Kd.R_alloc | apply Kd.R_drewN | apply Kd.R_drew)); exact HO_6.out⟩, ⟨by repeat (first | (with_reducible first | exact HB.out | apply below_alloc | apply pw_below_drewN | apply below_drew1) | exact HB.out)⟩⟩
                          · rw [if_neg c11] at H
                            exact absurd H (by simp)
                        · rw [if_neg c10] at H
                          exact absurd H (by simp)
                      · replace c9 := Bool.eq_false_iff.mpr c9
                        subst c9
                        have H1 : (shackleref18_Layout.j3 k3 l0 x6_1 x7_1 x8_1 x9_1 x10_3 true) = some (r1, r2, r3, r4) := by rw [if_neg (show ¬ (false = true) by decide)] at H; exact H
                        clear H
                        have H := H1
                        clear H1
                        have H' := Aside0.mk H
                        clear H
                        go_wp2
                        repeat (go_quiet (fail); try go_wp2)
                        go_meet
                        case rel => exact ⟨_, (true), (by first | rfl | (simp; done) | (simp [*]; done)), H', ⟨by have := HK1.out; have := HJ3.out; have := HK3.out; first | omega | exact Nat.le_refl _⟩, ⟨by (with_reducible repeat (first | apply Kd.R_alloc | apply Kd.R_drewN | apply Kd.R_drew)); exact HO_6.out⟩, ⟨by repeat (first | (with_reducible first | exact HB.out | apply below_alloc | apply pw_below_drewN | apply below_drew1) | exact HB.out)⟩⟩
                    case rest =>
                      clear HC8
                      try clear c1
                      try clear p1
                      try clear q1
                      try clear hx1
                      try clear c2
                      try clear c2b0
                      try clear p2
                      try clear c3
                      try clear c3b0
                      try clear c5
                      try clear c5b0
                      try clear c5b1
                      try clear c6
                      try clear c6b0
                      try clear c7
                      try clear c8
                      try clear c9
                      try clear c10
                      try clear c10b0
                      try clear c11
                      try clear c11b0
                      try clear p11
                      try clear q11
                      try clear hx11
                      try clear c12
                      try clear c12b0
                      try clear hx110_0
                      try clear hx110_1
                      try clear hx110_2
                      try clear hx111_0
                      try clear hx111_1
                      try clear hx111_2
                      try clear hx112_0
                      try clear hx112_1
                      try clear hx112_2
                      try clear hx113_0
                      try clear hx113_1
                      try clear hx113_2
                      try clear p1
                      try clear p110
                      try clear p111
                      try clear p112
                      try clear p113
                      try clear p2
                      try clear q1
                      try clear q110
                      try clear q111
                      try clear q112
                      try clear q113
                      obtain ⟨kq, x60_7, rfl, HA, HJ7, HO_6, HB⟩ := hcut
                      cases kq with
                      | zero => exact absurd HA.out (by simp [shackleref18_Layout.j3])
                      | succ kj7 =>
                        have H := HA.out
                        clear HA
                        simp only [shackleref18_Layout.j3] at H
                        by_cases c13 : x60_7 = true
                        · subst c13
                          have H1 : (some (([] : List Int), 0, 0, 21)) = some (r1, r2, r3, r4) := by rw [if_pos rfl] at H; exact H
                          clear H
                          have H := H1
                          clear H1
                          simp only [Option.some.injEq, Prod.mk.injEq] at H
                          obtain ⟨rfl, rfl, rfl, rfl⟩ := H
                          go_wp2
                          repeat (go_quiet (fail); try go_wp2)
                          refine bodyPost_ret (results_list (rs := [.tmp 2, .tmp 3, .tmp 4, .tmp 5]) rfl (by simp) (.tmp (.tmp (.tmp (.tmp .nil))))) rfl ?_
                          exact ⟨_, by first | rfl | (simp [errW_none, errW_some] <;> rfl) | (simp [*, errW_none, errW_some] <;> rfl), by first | exact Kd.R_nil _ _ _ _ _ | exact Kd.N_nil _ _ _ _ _ | exact Kd.V_nil _ _ _ _ _ | exact Kd.Q_nil _ _ _ _ _ | exact Kd.S_nil _ _ _ _ _, by repeat (first | (with_reducible first | exact HB.out | apply below_alloc | apply pw_below_drewN | apply below_drew1) | exact HB.out)⟩
                        · replace c13 := Bool.eq_false_iff.mpr c13
                          subst c13
                          have H1 : (if 0 ≤ x9_1 then (if x9_1 < (l0.length : Int) then (shackleref18_Layout.l2 kj7 l0 x6_1 (IntKind.u64.wrap (x7_1 + ((rd_T37 l0 x9_1).f1))) x8_1 x9_1 x10_3) else (none)) else (none)) = some (r1, r2, r3, r4) := by rw [if_neg (show ¬ (false = true) by decide)] at H; exact H
                          clear H
                          have H := H1
                          clear H1
                          by_cases c14 : 0 ≤ x9_1
                          · rw [if_pos c14] at H
                            have c14b0 : decide (0 ≤ x9_1) = true := decide_eq_true c14
                            clear c14
                            by_cases c15 : x9_1 < (l0.length : Int)
                            · rw [if_pos c15] at H
                              have c15b0 : decide (x9_1 < (l0.length : Int)) = true := decide_eq_true c15
                              clear c15
                              have H' := Aside0.mk H
                              clear H
                              have p114 : 0 ≤ (x9_1 : Int) := of_decide_eq_true (by first | (with_reducible assumption) | assumption)
                              have q114 : x9_1 < (l0.length : Int) := of_decide_eq_true (by first | (with_reducible assumption) | assumption)
                              obtain ⟨ad114, A114_0, c114_0, e114, hx114_0, hx114_1, hx114_2, hl114_0, hi114_0⟩ := at_T37 HR0.out x9_1 p114 q114
                              obtain rfl : ad110 = ad114 := (by injection e114)
                              replace hx114_0 := (HB.out.cell (World.block_lt_of_cell? w _ hx114_0)).trans hx114_0
                              replace hx114_1 := (HB.out.cell (World.block_lt_of_cell? w _ hx114_1)).trans hx114_1
                              replace hx114_2 := (HB.out.cell (World.block_lt_of_cell? w _ hx114_2)).trans hx114_2
                              have HR114_0 := Aside0.mk hi114_0
                              have HC114_0 := Aside0.mk hl114_0
                              clear hi114_0 hl114_0
                              replace p114 := eq_true p114
                              replace q114 := eq_true q114
                              go_wp2
                              repeat (go_quiet (fail); try go_wp2)
                              go_loopg [7] kj7 (fun kq v7 w' => ∃ (x7_5 : Int), v7 = .int .u64 x7_5 ∧ Aside0 (shackleref18_Layout.l2 kq l0 x6_1 x7_5 x8_1 x9_1 x10_3 = some (r1, r2, r3, r4)) ∧ Aside0 (kq ≤ kj7) ∧ Aside0 (Kd.R (Kd.int .u64) 25 w' w.heap.size (fun _ => True) u6 x6_1) ∧ Aside0 (Below w.heap.size w w'))
                              case atStart => exact ⟨(IntKind.u64.wrap (x7_1 + ((rd_T37 l0 x9_1).f1))), (by first | rfl | (simp; done) | (simp [*]; done)), H', ⟨Nat.le_refl _⟩, ⟨by (with_reducible repeat (first | apply Kd.R_alloc | apply Kd.R_drewN | apply Kd.R_drew)); exact HO_6.out⟩, ⟨by repeat (first | (with_reducible first | exact HB.out | apply below_alloc | apply pw_below_drewN | apply below_drew1) | exact HB.out)⟩⟩
                              case round =>
                                clear H'
                                try clear c1
                                try clear p1
                                try clear q1
                                try clear hx1
                                try clear c2
                                try clear c2b0
                                try clear p2
                                try clear c3
                                try clear c3b0
                                try clear c5
                                try clear c5b0
                                try clear c5b1
                                try clear c6
                                try clear c6b0
                                try clear c7
                                try clear c8
                                try clear c9
                                try clear c10
                                try clear c10b0
                                try clear c11
                                try clear c11b0
                                try clear p11
                                try clear q11
                                try clear hx11
                                try clear c12
                                try clear c12b0
                                try clear c13
                                try clear c14
                                try clear c14b0
                                try clear c15
                                try clear c15b0
                                try clear hx110_0
                                try clear hx110_1
                                try clear hx110_2
                                try clear hx111_0
                                try clear hx111_1
                                try clear hx111_2
                                try clear hx112_0
                                try clear hx112_1
                                try clear hx112_2
                                try clear hx113_0
                                try clear hx113_1
                                try clear hx113_2
                                try clear hx114_0
                                try clear hx114_1
                                try clear hx114_2
                                try clear p1
                                try clear p11
                                try clear p110
                                try clear p111
                                try clear p112
                                try clear p113
                                try clear p114
                                try clear p2
                                try clear q1
                                try clear q11
                                try clear q110
                                try clear q111
                                try clear q112
                                try clear q113
                                try clear q114
                                obtain ⟨x7_5, rfl, HA, HK5, HO_6, HB⟩ := hrel
                                cases gk with
                                | zero => exact absurd HA.out (by simp [shackleref18_Layout.l2])
                                | succ k5 =>
                                  have H := HA.out
                                  clear HA
                                  simp only [shackleref18_Layout.l2] at H
                                  by_cases c16 : x10_3 = 0
                                  · rw [if_pos c16] at H
                                    exact absurd H (by simp)
                                  · rw [if_neg c16] at H
                                    have c16b0 : (x10_3 == 0) = false := beq_eq_false_iff_ne.mpr c16
                                    have c16b1 : (x10_3 != 0) = true := bne_iff_ne.mpr c16
                                    by_cases c17 : (Int.tmod x7_5 x10_3) = 0
                                    · rw [if_pos c17] at H
                                      have c17b0 : ((Int.tmod x7_5 x10_3) == 0) = true := beq_iff_eq.mpr c17
                                      have c17b1 : ((Int.tmod x7_5 x10_3) != 0) = false := bne_eq_false_iff_eq.mpr c17
                                      clear c17
                                      by_cases c18 : x7_5 > 1048576
                                      · rw [if_pos c18] at H
                                        have c18b0 : decide (1048576 < x7_5) = true := decide_eq_true c18
                                        clear c18
                                        simp only [Option.some.injEq, Prod.mk.injEq] at H
                                        obtain ⟨rfl, rfl, rfl, rfl⟩ := H
                                        go_wp2
                                        repeat (go_quiet (fail); try go_wp2)
                                        refine bodyPost_ret (results_list (rs := [.tmp 2, .tmp 3, .tmp 4, .tmp 5]) rfl (by simp) (.tmp (.tmp (.tmp (.tmp .nil))))) rfl ?_
                                        exact ⟨_, by first | rfl | (simp [errW_none, errW_some] <;> rfl) | (simp [*, errW_none, errW_some] <;> rfl), by first | exact Kd.R_nil _ _ _ _ _ | exact Kd.N_nil _ _ _ _ _ | exact Kd.V_nil _ _ _ _ _ | exact Kd.Q_nil _ _ _ _ _ | exact Kd.S_nil _ _ _ _ _, by repeat (first | (with_reducible first | exact HB.out | apply below_alloc | apply pw_below_drewN | apply below_drew1) | exact HB.out)⟩
                                      · rw [if_neg c18] at H
                                        have c18b0 : decide (1048576 < x7_5) = false := decide_eq_false c18
                                        clear c18
                                        by_cases c19 : x10_3 > x8_1
                                        · rw [if_pos c19] at H
                                          have c19b0 : decide (x8_1 < x10_3) = true := decide_eq_true c19
                                          clear c19
                                          by_cases c20 : x6_1.length < 17592186044416
                                          · rw [if_pos c20] at H
                                            have LMc20 := Aside0.mk c20
                                            clear c20
                                            obtain ⟨y115, hy115⟩ : ∃ y_ : List Int, y_ = (x6_1 ++ [x7_5]) := ⟨_, rfl⟩
                                            replace H : (shackleref18_Layout.l0 k5 l0 y115 x7_5 x10_3 (wrap64 (x9_1 + 1))) = some (r1, r2, r3, r4) := by first | (rw [hy115]; with_reducible exact H) | (have H2_ := (Option.bind_some _ _).symm.trans H; rw [hy115]; with_reducible exact H2_) | (have H2_ := (Option.bind_some _ _).symm.trans H; with_reducible exact H2_) | with_reducible exact H | (rw [hy115]; exact H) | exact H
                                            have Ny115 := Aside0.mk hy115
                                            clear hy115
                                            have H' := Aside0.mk H
                                            clear H
                                            go_wp2_with (first | ((with_reducible refine gate_builtin (b := .append) (xs := #[.tmp 80, .tmp 82]) rfl ?_); (try (refine gate_guard (by rfl) ?_; dsimp only)); at_builtin; refine Kd.R_append (Kd.int .u64) (w0 := w) w.heap.size rfl (.tmp 80) (.tmp 82) 24 25 (.int .u64 0) 8 rfl Try.underlying24 info25 rfl (by decide) (by omega) u6 x6_1 x7_5 [.int .u64 x7_5] (fun _ => True) (fun _ => False) rfl rfl ?aP (fun _ hk => hk.elim) ?aF ?aO ?aB ?aS ?aL ?_; (case aP => exact rfl); (case aB => exact (by repeat (first | (with_reducible first | exact HB.out | apply below_alloc | apply pw_below_drewN | apply below_drew1) | exact HB.out))); (case aF => exact (fun _ _ => trivial)); (case aO => exact (by (with_reducible repeat (first | apply Kd.R_alloc | apply Kd.R_drewN | apply Kd.R_drew)); exact HO_6.out)); (case aS => exact (below_size (by repeat (first | (with_reducible first | exact HB.out | apply below_alloc | apply pw_below_drewN | apply below_drew1) | exact HB.out)))); (case aL => have := LMc20.out; omega); intro v116 w21 ho hb hg hat; rw [← Ny115.out] at ho; have n0_ := Aside0.mk (hb); have n1_ := Aside0.mk (ho); clear HB; clear HO_6; have HB := n0_; have HO117 := n1_; clear n0_ n1_; clear ho hb hg hat))
                                            repeat (go_quiet (first | ((with_reducible refine gate_builtin (b := .append) (xs := #[.tmp 80, .tmp 82]) rfl ?_); (try (refine gate_guard (by rfl) ?_; dsimp only)); at_builtin; refine Kd.R_append (Kd.int .u64) (w0 := w) w.heap.size rfl (.tmp 80) (.tmp 82) 24 25 (.int .u64 0) 8 rfl Try.underlying24 info25 rfl (by decide) (by omega) u6 x6_1 x7_5 [.int .u64 x7_5] (fun _ => True) (fun _ => False) rfl rfl ?aP (fun _ hk => hk.elim) ?aF ?aO ?aB ?aS ?aL ?_; (case aP => exact rfl); (case aB => exact (by repeat (first | (with_reducible first | exact HB.out | apply below_alloc | apply pw_below_drewN | apply below_drew1) | exact HB.out))); (case aF => exact (fun _ _ => trivial)); (case aO => exact (by (with_reducible repeat (first | apply Kd.R_alloc | apply Kd.R_drewN | apply Kd.R_drew)); exact HO_6.out)); (case aS => exact (below_size (by repeat (first | (with_reducible first | exact HB.out | apply below_alloc | apply pw_below_drewN | apply below_drew1) | exact HB.out)))); (case aL => have := LMc20.out; omega); intro v116 w21 ho hb hg hat; rw [← Ny115.out] at ho; have n0_ := Aside0.mk (hb); have n1_ := Aside0.mk (ho); clear HB; clear HO_6; have HB := n0_; have HO117 := n1_; clear n0_ n1_; clear ho hb hg hat)); try go_wp2_with (first | ((with_reducible refine gate_builtin (b := .append) (xs := #[.tmp 80, .tmp 82]) rfl ?_); (try (refine gate_guard (by rfl) ?_; dsimp only)); at_builtin; refine Kd.R_append (Kd.int .u64) (w0 := w) w.heap.size rfl (.tmp 80) (.tmp 82) 24 25 (.int .u64 0) 8 rfl Try.underlying24 info25 rfl (by decide) (by omega) u6 x6_1 x7_5 [.int .u64 x7_5] (fun _ => True) (fun _ => False) rfl rfl ?aP (fun _ hk => hk.elim) ?aF ?aO ?aB ?aS ?aL ?_; (case aP => exact rfl); (case aB => exact (by repeat (first | (with_reducible first | exact HB.out | apply below_alloc | apply pw_below_drewN | apply below_drew1) | exact HB.out))); (case aF => exact (fun _ _ => trivial)); (case aO => exact (by (with_reducible repeat (first | apply Kd.R_alloc | apply Kd.R_drewN | apply Kd.R_drew)); exact HO_6.out)); (case aS => exact (below_size (by repeat (first | (with_reducible first | exact HB.out | apply below_alloc | apply pw_below_drewN | apply below_drew1) | exact HB.out)))); (case aL => have := LMc20.out; omega); intro v116 w21 ho hb hg hat; rw [← Ny115.out] at ho; have n0_ := Aside0.mk (hb); have n1_ := Aside0.mk (ho); clear HB; clear HO_6; have HB := n0_; have HO117 := n1_; clear n0_ n1_; clear ho hb hg hat)))
                                            go_roundg k5
                                            case measure => have := HK1.out; have := HJ3.out; have := HK3.out; have := HJ7.out; have := HK5.out; omega
                                            case rel => exact ⟨(y115), (x7_5), (x10_3), (wrap64 (x9_1 + 1)), (by first | rfl | (simp; done) | (simp [*]; done)), (by first | rfl | (simp; done) | (simp [*]; done)), (by first | rfl | (simp; done) | (simp [*]; done)), H', ⟨by have := HK1.out; have := HJ3.out; have := HK3.out; have := HJ7.out; have := HK5.out; omega⟩, ⟨by (with_reducible repeat (first | apply Kd.R_alloc | apply Kd.R_drewN | apply Kd.R_drew)); exact HO117.out⟩, ⟨by repeat (first | (with_reducible first | exact HB.out | apply below_alloc | apply pw_below_drewN | apply below_drew1) | exact HB.out)⟩⟩
                                          · rw [if_neg c20] at H
                                            exact absurd H (by simp)
                                        · rw [if_neg c19] at H
                                          have c19b0 : decide (x8_1 < x10_3) = false := decide_eq_false c19
                                          clear c19
                                          by_cases c22 : x6_1.length < 17592186044416
                                          · rw [if_pos c22] at H
                                            have LMc22 := Aside0.mk c22
                                            clear c22
                                            obtain ⟨y118, hy118⟩ : ∃ y_ : List Int, y_ = (x6_1 ++ [x7_5]) := ⟨_, rfl⟩
                                            replace H : (shackleref18_Layout.l0 k5 l0 y118 x7_5 x8_1 (wrap64 (x9_1 + 1))) = some (r1, r2, r3, r4) := by first | (rw [hy118]; with_reducible exact H) | (have H2_ := (Option.bind_some _ _).symm.trans H; rw [hy118]; with_reducible exact H2_) | (have H2_ := (Option.bind_some _ _).symm.trans H; with_reducible exact H2_) | with_reducible exact H | (rw [hy118]; exact H) | exact H
                                            have Ny118 := Aside0.mk hy118
                                            clear hy118
                                            have H' := Aside0.mk H
                                            clear H
                                            go_wp2_with (first | ((with_reducible refine gate_builtin (b := .append) (xs := #[.tmp 80, .tmp 82]) rfl ?_); (try (refine gate_guard (by rfl) ?_; dsimp only)); at_builtin; refine Kd.R_append (Kd.int .u64) (w0 := w) w.heap.size rfl (.tmp 80) (.tmp 82) 24 25 (.int .u64 0) 8 rfl Try.underlying24 info25 rfl (by decide) (by omega) u6 x6_1 x7_5 [.int .u64 x7_5] (fun _ => True) (fun _ => False) rfl rfl ?aP (fun _ hk => hk.elim) ?aF ?aO ?aB ?aS ?aL ?_; (case aP => exact rfl); (case aB => exact (by repeat (first | (with_reducible first | exact HB.out | apply below_alloc | apply pw_below_drewN | apply below_drew1) | exact HB.out))); (case aF => exact (fun _ _ => trivial)); (case aO => exact (by (with_reducible repeat (first | apply Kd.R_alloc | apply Kd.R_drewN | apply Kd.R_drew)); exact HO_6.out)); (case aS => exact (below_size (by repeat (first | (with_reducible first | exact HB.out | apply below_alloc | apply pw_below_drewN | apply below_drew1) | exact HB.out)))); (case aL => have := LMc22.out; omega); intro v119 w23 ho hb hg hat; rw [← Ny118.out] at ho; have n0_ := Aside0.mk (hb); have n1_ := Aside0.mk (ho); clear HB; clear HO_6; have HB := n0_; have HO120 := n1_; clear n0_ n1_; clear ho hb hg hat))
                                            repeat (go_quiet (first | ((with_reducible refine gate_builtin (b := .append) (xs := #[.tmp 80, .tmp 82]) rfl ?_); (try (refine gate_guard (by rfl) ?_; dsimp only)); at_builtin; refine Kd.R_append (Kd.int .u64) (w0 := w) w.heap.size rfl (.tmp 80) (.tmp 82) 24 25 (.int .u64 0) 8 rfl Try.underlying24 info25 rfl (by decide) (by omega) u6 x6_1 x7_5 [.int .u64 x7_5] (fun _ => True) (fun _ => False) rfl rfl ?aP (fun _ hk => hk.elim) ?aF ?aO ?aB ?aS ?aL ?_; (case aP => exact rfl); (case aB => exact (by repeat (first | (with_reducible first | exact HB.out | apply below_alloc | apply pw_below_drewN | apply below_drew1) | exact HB.out))); (case aF => exact (fun _ _ => trivial)); (case aO => exact (by (with_reducible repeat (first | apply Kd.R_alloc | apply Kd.R_drewN | apply Kd.R_drew)); exact HO_6.out)); (case aS => exact (below_size (by repeat (first | (with_reducible first | exact HB.out | apply below_alloc | apply pw_below_drewN | apply below_drew1) | exact HB.out)))); (case aL => have := LMc22.out; omega); intro v119 w23 ho hb hg hat; rw [← Ny118.out] at ho; have n0_ := Aside0.mk (hb); have n1_ := Aside0.mk (ho); clear HB; clear HO_6; have HB := n0_; have HO120 := n1_; clear n0_ n1_; clear ho hb hg hat)); try go_wp2_with (first | ((with_reducible refine gate_builtin (b := .append) (xs := #[.tmp 80, .tmp 82]) rfl ?_); (try (refine gate_guard (by rfl) ?_; dsimp only)); at_builtin; refine Kd.R_append (Kd.int .u64) (w0 := w) w.heap.size rfl (.tmp 80) (.tmp 82) 24 25 (.int .u64 0) 8 rfl Try.underlying24 info25 rfl (by decide) (by omega) u6 x6_1 x7_5 [.int .u64 x7_5] (fun _ => True) (fun _ => False) rfl rfl ?aP (fun _ hk => hk.elim) ?aF ?aO ?aB ?aS ?aL ?_; (case aP => exact rfl); (case aB => exact (by repeat (first | (with_reducible first | exact HB.out | apply below_alloc | apply pw_below_drewN | apply below_drew1) | exact HB.out))); (case aF => exact (fun _ _ => trivial)); (case aO => exact (by (with_reducible repeat (first | apply Kd.R_alloc | apply Kd.R_drewN | apply Kd.R_drew)); exact HO_6.out)); (case aS => exact (below_size (by repeat (first | (with_reducible first | exact HB.out | apply below_alloc | apply pw_below_drewN | apply below_drew1) | exact HB.out)))); (case aL => have := LMc22.out; omega); intro v119 w23 ho hb hg hat; rw [← Ny118.out] at ho; have n0_ := Aside0.mk (hb); have n1_ := Aside0.mk (ho); clear HB; clear HO_6; have HB := n0_; have HO120 := n1_; clear n0_ n1_; clear ho hb hg hat)))
                                            go_roundg k5
                                            case measure => have := HK1.out; have := HJ3.out; have := HK3.out; have := HJ7.out; have := HK5.out; omega
                                            case rel => exact ⟨(y118), (x7_5), (x8_1), (wrap64 (x9_1 + 1)), (by first | rfl | (simp; done) | (simp [*]; done)), (by first | rfl | (simp; done) | (simp [*]; done)), (by first | rfl | (simp; done) | (simp [*]; done)), H', ⟨by have := HK1.out; have := HJ3.out; have := HK3.out; have := HJ7.out; have := HK5.out; omega⟩, ⟨by (with_reducible repeat (first | apply Kd.R_alloc | apply Kd.R_drewN | apply Kd.R_drew)); exact HO120.out⟩, ⟨by repeat (first | (with_reducible first | exact HB.out | apply below_alloc | apply pw_below_drewN | apply below_drew1) | exact HB.out)⟩⟩
                                          · rw [if_neg c22] at H
                                            exact absurd H (by simp)
                                    · rw [if_neg c17] at H
                                      have c17b0 : ((Int.tmod x7_5 x10_3) == 0) = false := beq_eq_false_iff_ne.mpr c17
                                      have c17b1 : ((Int.tmod x7_5 x10_3) != 0) = true := bne_iff_ne.mpr c17
                                      have H' := Aside0.mk H
                                      clear H
                                      go_wp2
                                      repeat (go_quiet (fail); try go_wp2)
                                      go_roundg k5
                                      case measure => have := HK1.out; have := HJ3.out; have := HK3.out; have := HJ7.out; have := HK5.out; omega
                                      case rel => exact ⟨(IntKind.u64.wrap (x7_5 + 1)), (by first | rfl | (simp; done) | (simp [*]; done)), H', ⟨by have := HK1.out; have := HJ3.out; have := HK3.out; have := HJ7.out; have := HK5.out; omega⟩, ⟨by (with_reducible repeat (first | apply Kd.R_alloc | apply Kd.R_drewN | apply Kd.R_drew)); exact HO_6.out⟩, ⟨by repeat (first | (with_reducible first | exact HB.out | apply below_alloc | apply pw_below_drewN | apply below_drew1) | exact HB.out)⟩⟩
                            · rw [if_neg c15] at H
                              exact absurd H (by simp)
                          · rw [if_neg c14] at H
                            exact absurd H (by simp)
        · rw [if_neg c3] at H
          exact absurd H (by simp)
      · rw [if_neg c2] at H
        have c2b0 : decide (x9_1 < (l0.length : Int)) = false := decide_eq_false c2
        clear c2
        simp only [Option.some.injEq, Prod.mk.injEq] at H
        obtain ⟨rfl, rfl, rfl, rfl⟩ := H
        go_wp2
        repeat (go_quiet (fail); try go_wp2)
        refine bodyPost_ret (results_list (rs := [.tmp 2, .tmp 3, .tmp 4, .tmp 5]) rfl (by simp) (.tmp (.tmp (.tmp (.tmp .nil))))) rfl ?_
        exact ⟨_, by first | rfl | (simp [errW_none, errW_some] <;> rfl) | (simp [*, errW_none, errW_some] <;> rfl), by (with_reducible repeat (first | apply Kd.R_alloc | apply Kd.R_drewN | apply Kd.R_drew)); exact HO_6.out, by repeat (first | (with_reducible first | exact HB.out | apply below_alloc | apply pw_below_drewN | apply below_drew1) | exact HB.out)⟩

/-! ### shackleref18_Same: function 9 -/
def shackleref18_Same.l0 : Nat → List Int → List Int → Int → Option (Bool)
  | 0, _, _, _ => none
  | k + 1, x0, x1, x5 => if x5 < (x0.length : Int) then (if 0 ≤ x5 then (if x5 < (x1.length : Int) then (if (rd x0 x5) = (rd x1 x5) then (shackleref18_Same.l0 k x0 x1 (wrap64 (x5 + 1))) else (some false)) else (none)) else (none)) else (some true)
def shackleref18_Same.f (k : Nat) (l0 : List Int) (l1 : List Int) : Option (Bool) := if (l0.length : Int) = (l1.length : Int) then (shackleref18_Same.l0 k l0 l1 0) else (some false)
theorem shackleref18_Same.mono_l : ∀ k, (∀ y0 y1 y2, LeO (shackleref18_Same.l0 k y0 y1 y2) (shackleref18_Same.l0 (k + 1) y0 y1 y2))
  | 0 => fun _ _ _ r h => by simp [shackleref18_Same.l0] at h
  | k + 1 => by
    have ih0 := shackleref18_Same.mono_l k
    · intro y0 y1 y2
      unfold shackleref18_Same.l0
      repeat' first
      | (with_reducible exact ih0 _ _ _)
      | (with_reducible exact LeO.refl _)
      | (with_reducible exact LeO.none _)
      | (with_reducible refine LeO.ite ?_ ?_)
      | (with_reducible refine LeO.bind ?_ (fun _ => ?_))
      | exact ih0 _ _ _
      | exact LeO.none _
      | refine LeO.ite ?_ ?_
      | refine LeO.bind ?_ (fun _ => ?_)
theorem shackleref18_Same.mono : ∀ a0 a1 k, LeO (shackleref18_Same.f k a0 a1) (shackleref18_Same.f (k + 1) a0 a1) := by
  intro a0 a1 k
  have ih0 := shackleref18_Same.mono_l k
  unfold shackleref18_Same.f
  repeat' first
      | (with_reducible exact ih0 _ _ _)
      | (with_reducible exact LeO.refl _)
      | (with_reducible exact LeO.none _)
      | (with_reducible refine LeO.ite ?_ ?_)
      | (with_reducible refine LeO.bind ?_ (fun _ => ?_))
      | exact ih0 _ _ _
      | exact LeO.none _
      | refine LeO.ite ?_ ?_
      | refine LeO.bind ?_ (fun _ => ?_)
set_option maxHeartbeats 8000000 in
set_option maxRecDepth 100000 in
theorem shackleref18_Same.calls (k : Nat) (A0 : Option Addr) (c0 : Nat) (l0 : List Int) (A1 : Option Addr) (c1 : Nat) (l1 : List Int) (r : Bool) (w : World) (hr0 : Kd.C (Kd.int .u64) w A0 l0.length l0) (hc0 : l0.length ≤ c0) (hr1 : Kd.C (Kd.int .u64) w A1 l1.length l1) (hc1 : l1.length ≤ c1) (h : shackleref18_Same.f k l0 l1 = some r) :
    Calls Try.prog 9 #[.slice A0 l0.length c0, .slice A1 l1.length c1] w fun e w' => e = .returned (.bool r) ∧ Drawn0 w w' := by
  have HR0 := Aside0.mk hr0
  have HC0 := Aside0.mk hc0
  clear hr0 hc0
  have HR1 := Aside0.mk hr1
  have HC1 := Aside0.mk hc1
  clear hr1 hc1
  have H : (if (l0.length : Int) = (l1.length : Int) then (shackleref18_Same.l0 k l0 l1 0) else (some false)) = some r := h
  clear h
  by_cases c3 : (l0.length : Int) = (l1.length : Int)
  · rw [if_pos c3] at H
    have c3b0 : ((l0.length : Int) == (l1.length : Int)) = true := beq_iff_eq.mpr c3
    have c3b1 : ((l0.length : Int) != (l1.length : Int)) = false := bne_eq_false_iff_eq.mpr c3
    have c3b2 : (l0.length == l1.length) = true := by first | simpa using c3 | (simp at c3 ⊢; omega)
    clear c3
    have H' := Aside0.mk H
    clear H
    go_enter Try.func9, Try.ntmps9
    go_wp2
    repeat (go_quiet (fail); try go_wp2)
    go_loopg [5] k (fun kq v5 w' => ∃ (x5_1 : Int), v5 = .int .i64 x5_1 ∧ Aside0 (shackleref18_Same.l0 kq l0 l1 x5_1 = some r) ∧ Aside0 (kq ≤ k) ∧ Drawn0 w w')
    case atStart => exact ⟨(0), (by first | rfl | (simp; done) | (simp [*]; done)), H', ⟨Nat.le_refl _⟩, by repeat (first | exact Drawn0.refl _ | apply Drawn0.step)⟩
    case round =>
      clear H'
      try clear c1
      try clear p2
      try clear c3
      try clear c3b0
      try clear c3b1
      try clear c3b2
      obtain ⟨x5_1, rfl, HA, HK1, ⟨m1, rfl⟩⟩ := hrel
      cases gk with
      | zero => exact absurd HA.out (by simp [shackleref18_Same.l0])
      | succ k1 =>
        have H := HA.out
        clear HA
        simp only [shackleref18_Same.l0] at H
        by_cases c4 : x5_1 < (l0.length : Int)
        · rw [if_pos c4] at H
          have c4b0 : decide (x5_1 < (l0.length : Int)) = true := decide_eq_true c4
          clear c4
          by_cases c5 : 0 ≤ x5_1
          · rw [if_pos c5] at H
            have c5b0 : decide (0 ≤ x5_1) = true := decide_eq_true c5
            clear c5
            by_cases c6 : x5_1 < (l1.length : Int)
            · rw [if_pos c6] at H
              have c6b0 : decide (x5_1 < (l1.length : Int)) = true := decide_eq_true c6
              clear c6
              by_cases c7 : (rd l0 x5_1) = (rd l1 x5_1)
              · rw [if_pos c7] at H
                have c7b0 : ((rd l0 x5_1) == (rd l1 x5_1)) = true := beq_iff_eq.mpr c7
                have c7b1 : ((rd l0 x5_1) != (rd l1 x5_1)) = false := bne_eq_false_iff_eq.mpr c7
                clear c7
                have H' := Aside0.mk H
                clear H
                have p121 : 0 ≤ (x5_1 : Int) := of_decide_eq_true (by first | (with_reducible assumption) | assumption)
                have q121 : x5_1 < (l0.length : Int) := of_decide_eq_true (by first | (with_reducible assumption) | assumption)
                obtain ⟨ad121, e121, hx121_0⟩ := Kd.at_int HR0.out x5_1 p121 q121
                cases e121
                replace p121 := eq_true p121
                replace q121 := eq_true q121
                have p122 : 0 ≤ (x5_1 : Int) := of_decide_eq_true (by first | (with_reducible assumption) | assumption)
                have q122 : x5_1 < (l1.length : Int) := of_decide_eq_true (by first | (with_reducible assumption) | assumption)
                obtain ⟨ad122, e122, hx122_0⟩ := Kd.at_int HR1.out x5_1 p122 q122
                cases e122
                replace p122 := eq_true p122
                replace q122 := eq_true q122
                go_wp2
                repeat (go_quiet (fail); try go_wp2)
                go_roundg k1
                case measure => have := HK1.out; omega
                case rel => exact ⟨(wrap64 (x5_1 + 1)), (by first | rfl | (simp; done) | (simp [*]; done)), H', ⟨by have := HK1.out; omega⟩, by repeat (first | exact Drawn0.refl _ | apply Drawn0.step)⟩
              · rw [if_neg c7] at H
                have c7b0 : ((rd l0 x5_1) == (rd l1 x5_1)) = false := beq_eq_false_iff_ne.mpr c7
                have c7b1 : ((rd l0 x5_1) != (rd l1 x5_1)) = true := bne_iff_ne.mpr c7
                obtain rfl := Option.some.inj H
                have p121 : 0 ≤ (x5_1 : Int) := of_decide_eq_true (by first | (with_reducible assumption) | assumption)
                have q121 : x5_1 < (l0.length : Int) := of_decide_eq_true (by first | (with_reducible assumption) | assumption)
                obtain ⟨ad121, e121, hx121_0⟩ := Kd.at_int HR0.out x5_1 p121 q121
                cases e121
                replace p121 := eq_true p121
                replace q121 := eq_true q121
                have p122 : 0 ≤ (x5_1 : Int) := of_decide_eq_true (by first | (with_reducible assumption) | assumption)
                have q122 : x5_1 < (l1.length : Int) := of_decide_eq_true (by first | (with_reducible assumption) | assumption)
                obtain ⟨ad122, e122, hx122_0⟩ := Kd.at_int HR1.out x5_1 p122 q122
                cases e122
                replace p122 := eq_true p122
                replace q122 := eq_true q122
                go_wp2
                repeat (go_quiet (fail); try go_wp2)
                go_ret
                exact ⟨by first | rfl | (simp; done) | (simp [*]; done), by repeat (first | exact Drawn0.refl _ | apply Drawn0.step)⟩
            · rw [if_neg c6] at H
              exact absurd H (by simp)
          · rw [if_neg c5] at H
            exact absurd H (by simp)
        · rw [if_neg c4] at H
          have c4b0 : decide (x5_1 < (l0.length : Int)) = false := decide_eq_false c4
          clear c4
          obtain rfl := Option.some.inj H
          go_wp2
          repeat (go_quiet (fail); try go_wp2)
          go_ret
          exact ⟨by first | rfl | (simp; done) | (simp [*]; done), by repeat (first | exact Drawn0.refl _ | apply Drawn0.step)⟩
  · rw [if_neg c3] at H
    have c3b0 : ((l0.length : Int) == (l1.length : Int)) = false := beq_eq_false_iff_ne.mpr c3
    have c3b1 : ((l0.length : Int) != (l1.length : Int)) = true := bne_iff_ne.mpr c3
    have c3b2 : (l0.length == l1.length) = false := by first | simpa using c3 | (simp at c3 ⊢; omega)
    obtain rfl := Option.some.inj H
    go_enter Try.func9, Try.ntmps9
    go_wp2
    repeat (go_quiet (fail); try go_wp2)
    go_ret
    exact ⟨by first | rfl | (simp; done) | (simp [*]; done), by repeat (first | exact Drawn0.refl _ | apply Drawn0.step)⟩

end Go.Proofs.Ytpjilbhhhpikaaa.PTlsLays
