/- Printed by this session's own program (wip/tools: a turn of the kit's print) out of the translation: each Go function that the law reaches as a Lean function, and that the machine's call comes to what that function tells; no condition but what each theorem names. -/
import Derived.Test.YtpjilbhhhpikaaaPTlsStepsx0
import Derived.Test.YtpjilbhhhpikaaaPTlsStepsx1
namespace Go.Proofs.Ytpjilbhhhpikaaa.PTlsSteps
open Go.RowKit Go.Proofs.YtpjilbhhhpikaaaW.PrintWords Go.Proofs.YtpjilbhhhpikaaaW.PrintLast Go.Proofs.YtpjilbhhhpikaaaW.PrintMore Go.Proofs.YtpjilbhhhpikaaaX
attribute [local go_sem] max2_int min2_int max_two min_two max_three min_three max_four min_four   -- for this text's walks alone
set_option linter.unusedVariables false
set_option linter.unusedSimpArgs false

/-! ### shacklelaw18_TlsSteps: function 4 -/
def shacklelaw18_TlsSteps.l0 : Nat → List (S37) → Int → Bool → List Int → Int → Int → Int → Int → Option (Bool)
  | 0, _, _, _, _, _, _, _, _ => none
  | k + 1, x0, x1, x5, x6, x7, x8, x10, x11 => if x11 < (x0.length : Int) then (if 0 ≤ x11 then (if ((rd_T37 x0 x11).f2) = 0 then (if x11 < (x6.length : Int) then (if (Int.tmod (rd x6 x11) 1) = 0 then (if (rd x6 x11) < (IntKind.u64.wrap (x10 + ((rd_T37 x0 x11).f1))) then (some false) else (if (rd x6 x11) ≥ (IntKind.u64.wrap ((IntKind.u64.wrap (x10 + ((rd_T37 x0 x11).f1))) + 1)) then (some false) else (if (Int.tmod x8 1) = 0 then (shacklelaw18_TlsSteps.l0 k x0 x1 x5 x6 x7 x8 (rd x6 x11) (wrap64 (x11 + 1))) else (some false)))) else (some false)) else (none)) else (if x11 < (x6.length : Int) then (if (Int.tmod (rd x6 x11) ((rd_T37 x0 x11).f2)) = 0 then (if (rd x6 x11) < (IntKind.u64.wrap (x10 + ((rd_T37 x0 x11).f1))) then (some false) else (if (rd x6 x11) ≥ (IntKind.u64.wrap ((IntKind.u64.wrap (x10 + ((rd_T37 x0 x11).f1))) + ((rd_T37 x0 x11).f2))) then (some false) else (if (Int.tmod x8 ((rd_T37 x0 x11).f2)) = 0 then (shacklelaw18_TlsSteps.l0 k x0 x1 x5 x6 x7 x8 (rd x6 x11) (wrap64 (x11 + 1))) else (some false)))) else (some false)) else (none))) else (none)) else (if x10 = x7 then ((shacklelaw18_pick.f x1 (wrap64 ((x0.length : Int) + 1))).bind fun t133 => (if 0 ≤ t133 then (if t133 ≤ (x0.length : Int) then ((tls_Layout.f k (x0.take (t133 : Int).toNat)).bind fun bt138 => (if t133 ≤ (x6.length : Int) then ((shackleref18_Same.f k bt138.1 (x6.take (t133 : Int).toNat)).bind fun t148 => (if x5 = true then (if bt138.2.2.2.isNone = true then (some t148) else (some false)) else (some false))) else (none))) else (none)) else (none))) else (some false))
def shacklelaw18_TlsSteps.f (k : Nat) (l0 : List (S37)) (a1 : Int) : Option (Bool) := (shacklelaw18_up.f).bind fun t112 => ((tls_Layout.f k l0).bind fun bt113 => (if bt113.2.2.2.isNone = true then (if (bt113.1.length : Int) = (l0.length : Int) then (shacklelaw18_TlsSteps.l0 k l0 a1 t112 bt113.1 bt113.2.1 bt113.2.2.1 0 0) else (some false)) else (if t112 = true then (if (bt113.1.length : Int) = 0 then (if bt113.2.1 = 0 then (some (bt113.2.2.1 == 0)) else (some false)) else (some false)) else (some false))))
theorem shacklelaw18_TlsSteps.mono_l : ∀ k, (∀ y0 y1 y2 y3 y4 y5 y6 y7, LeO (shacklelaw18_TlsSteps.l0 k y0 y1 y2 y3 y4 y5 y6 y7) (shacklelaw18_TlsSteps.l0 (k + 1) y0 y1 y2 y3 y4 y5 y6 y7))
  | 0 => fun _ _ _ _ _ _ _ _ r h => by simp [shacklelaw18_TlsSteps.l0] at h
  | k + 1 => by
    have ih0 := shacklelaw18_TlsSteps.mono_l k
    · intro y0 y1 y2 y3 y4 y5 y6 y7
      unfold shacklelaw18_TlsSteps.l0
      repeat' first
      | (with_reducible exact ih0 _ _ _ _ _ _ _ _)
      | (with_reducible exact shackleref18_Same.mono _ _ _)
      | (with_reducible exact tls_Layout.mono _ _)
      | (with_reducible exact LeO.refl _)
      | (with_reducible exact LeO.none _)
      | (with_reducible refine LeO.ite ?_ ?_)
      | (with_reducible refine LeO.bind ?_ (fun _ => ?_))
      | exact ih0 _ _ _ _ _ _ _ _
      | exact shackleref18_Same.mono _ _ _
      | exact tls_Layout.mono _ _
      | exact LeO.none _
      | refine LeO.ite ?_ ?_
      | refine LeO.bind ?_ (fun _ => ?_)
theorem shacklelaw18_TlsSteps.mono : ∀ a0 a1 k, LeO (shacklelaw18_TlsSteps.f k a0 a1) (shacklelaw18_TlsSteps.f (k + 1) a0 a1) := by
  intro a0 a1 k
  have ih0 := shacklelaw18_TlsSteps.mono_l k
  unfold shacklelaw18_TlsSteps.f
  repeat' first
      | (with_reducible exact ih0 _ _ _ _ _ _ _ _)
      | (with_reducible exact shackleref18_Same.mono _ _ _)
      | (with_reducible exact tls_Layout.mono _ _)
      | (with_reducible exact LeO.refl _)
      | (with_reducible exact LeO.none _)
      | (with_reducible refine LeO.ite ?_ ?_)
      | (with_reducible refine LeO.bind ?_ (fun _ => ?_))
      | exact ih0 _ _ _ _ _ _ _ _
      | exact shackleref18_Same.mono _ _ _
      | exact tls_Layout.mono _ _
      | exact LeO.none _
      | refine LeO.ite ?_ ?_
      | refine LeO.bind ?_ (fun _ => ?_)
set_option maxHeartbeats 8000000 in
set_option maxRecDepth 100000 in
theorem shacklelaw18_TlsSteps.calls (k : Nat) (A0 : Option Addr) (c0 : Nat) (l0 : List (S37)) (a1 : Int) (r : Bool) (w : World) (hr0 : Kd.C k37 w A0 l0.length l0) (hc0 : l0.length ≤ c0) (h : shacklelaw18_TlsSteps.f k l0 a1 = some r) :
    Calls Try.prog 4 #[.slice A0 l0.length c0, .int .i64 a1] w fun e w' => e = .returned (.bool r) ∧ Below w.heap.size w w' := by
  have hu27 := Try.underlying27
  have hu62 := Try.underlying62
  have HR0 := Aside0.mk hr0
  have HC0 := Aside0.mk hc0
  clear hr0 hc0
  have HB := Aside0.mk (Below.refl w.heap.size w)
  have H : ((shacklelaw18_up.f).bind fun t112 => ((tls_Layout.f k l0).bind fun bt113 => (if bt113.2.2.2.isNone = true then (if (bt113.1.length : Int) = (l0.length : Int) then (shacklelaw18_TlsSteps.l0 k l0 a1 t112 bt113.1 bt113.2.1 bt113.2.2.1 0 0) else (some false)) else (if t112 = true then (if (bt113.1.length : Int) = 0 then (if bt113.2.1 = 0 then (some (bt113.2.2.1 == 0)) else (some false)) else (some false)) else (some false))))) = some r := h
  clear h
  replace H := Option.bind_eq_some_iff.mp H
  obtain ⟨t112, A30, H⟩ := H
  replace H : ((tls_Layout.f k l0).bind fun bt113 => (if bt113.2.2.2.isNone = true then (if (bt113.1.length : Int) = (l0.length : Int) then (shacklelaw18_TlsSteps.l0 k l0 a1 t112 bt113.1 bt113.2.1 bt113.2.2.1 0 0) else (some false)) else (if t112 = true then (if (bt113.1.length : Int) = 0 then (if bt113.2.1 = 0 then (some (bt113.2.2.1 == 0)) else (some false)) else (some false)) else (some false)))) = some r := H
  have A3 := Aside0.mk A30
  clear A30
  replace H := Option.bind_eq_some_iff.mp H
  obtain ⟨⟨t113, t114, t115, t116⟩, A40, H⟩ := H
  replace H : (if t116.isNone = true then (if (t113.length : Int) = (l0.length : Int) then (shacklelaw18_TlsSteps.l0 k l0 a1 t112 t113 t114 t115 0 0) else (some false)) else (if t112 = true then (if (t113.length : Int) = 0 then (if t114 = 0 then (some (t115 == 0)) else (some false)) else (some false)) else (some false))) = some r := H
  have A4 := Aside0.mk A40
  clear A40
  rcases t116 with _ | q119
  · have H1 : (if (t113.length : Int) = (l0.length : Int) then (shacklelaw18_TlsSteps.l0 k l0 a1 t112 t113 t114 t115 0 0) else (some false)) = some r := by rw [if_pos (show (none : Option Int).isNone = true by rfl)] at H; exact H
    clear H
    have H := H1
    clear H1
    try simp only [errW_none, errW_some]
    by_cases c5 : (t113.length : Int) = (l0.length : Int)
    · rw [if_pos c5] at H
      have c5b0 : ((t113.length : Int) == (l0.length : Int)) = true := beq_iff_eq.mpr c5
      have c5b1 : ((t113.length : Int) != (l0.length : Int)) = false := bne_eq_false_iff_eq.mpr c5
      have c5b2 : (t113.length == l0.length) = true := by first | simpa using c5 | (simp at c5 ⊢; omega)
      clear c5
      have H' := Aside0.mk H
      clear H
      go_enter Try.func4, Try.ntmps4
      go_wp2_with (first | (go_at_call 6; (with_reducible refine (shacklelaw18_up.calls  t112 _ A3.out).mono ?_); rintro e w6 ⟨rfl, hb⟩; have n0_ := Aside0.mk (below_step (by repeat (first | (with_reducible first | exact HB.out | apply below_alloc | apply pw_below_drewN | apply below_drew1) | exact HB.out)) hb); clear HB; have HB := n0_; clear n0_; (try clear hb); (try clear hb2); (try clear hk); (try clear hi)) | (go_at_call 7; (with_reducible refine (tls_Layout.calls k _ _ l0 t113 t114 t115 none _ ?side1 ?side2 A4.out).mono ?_); (case side1 => repeat (first | exact (Kd.C_below HR0.out HB.out) | (with_reducible refine Kd.C_alloc ?_ _) | (with_reducible refine Kd.C_drewN ?_ _) | (with_reducible refine Kd.C_drew ?_))); (case side2 => exact HC0.out); rintro e w7 ⟨v117, rfl, ho0, hb⟩; have n0_ := Aside0.mk (Kd.R_lower ho0 (below_size (by repeat (first | (with_reducible first | exact HB.out | apply below_alloc | apply pw_below_drewN | apply below_drew1) | exact HB.out)))); have n1_ := Aside0.mk (below_step (by repeat (first | (with_reducible first | exact HB.out | apply below_alloc | apply pw_below_drewN | apply below_drew1) | exact HB.out)) hb); clear HB; have HO118 := n0_; have HB := n1_; clear n0_ n1_; (try clear hb); (try clear hb2); (try clear hk); (try clear hi); (try clear ho0); (try simp only [errW_none, errW_some]); obtain ⟨Ao8, co8, eo8⟩ := Kd.R_slice HO118.out; subst eo8))
      repeat (go_quiet (fail); try go_wp2_with (first | (go_at_call 6; (with_reducible refine (shacklelaw18_up.calls  t112 _ A3.out).mono ?_); rintro e w6 ⟨rfl, hb⟩; have n0_ := Aside0.mk (below_step (by repeat (first | (with_reducible first | exact HB.out | apply below_alloc | apply pw_below_drewN | apply below_drew1) | exact HB.out)) hb); clear HB; have HB := n0_; clear n0_; (try clear hb); (try clear hb2); (try clear hk); (try clear hi)) | (go_at_call 7; (with_reducible refine (tls_Layout.calls k _ _ l0 t113 t114 t115 none _ ?side1 ?side2 A4.out).mono ?_); (case side1 => repeat (first | exact (Kd.C_below HR0.out HB.out) | (with_reducible refine Kd.C_alloc ?_ _) | (with_reducible refine Kd.C_drewN ?_ _) | (with_reducible refine Kd.C_drew ?_))); (case side2 => exact HC0.out); rintro e w7 ⟨v117, rfl, ho0, hb⟩; have n0_ := Aside0.mk (Kd.R_lower ho0 (below_size (by repeat (first | (with_reducible first | exact HB.out | apply below_alloc | apply pw_below_drewN | apply below_drew1) | exact HB.out)))); have n1_ := Aside0.mk (below_step (by repeat (first | (with_reducible first | exact HB.out | apply below_alloc | apply pw_below_drewN | apply below_drew1) | exact HB.out)) hb); clear HB; have HO118 := n0_; have HB := n1_; clear n0_ n1_; (try clear hb); (try clear hb2); (try clear hk); (try clear hi); (try clear ho0); (try simp only [errW_none, errW_some]); obtain ⟨Ao8, co8, eo8⟩ := Kd.R_slice HO118.out; subst eo8)))
      go_loopg [10, 11] k (fun kq v10 v11 w' => ∃ (x10_1 : Int) (x11_1 : Int), v10 = .int .u64 x10_1 ∧ v11 = .int .i64 x11_1 ∧ Aside0 (shacklelaw18_TlsSteps.l0 kq l0 a1 t112 t113 t114 t115 x10_1 x11_1 = some r) ∧ Aside0 (kq ≤ k) ∧ Aside0 (Kd.R (Kd.int .u64) 25 w' w.heap.size (fun _ => True) (.slice Ao8 t113.length co8) t113) ∧ Aside0 (Below w.heap.size w w'))
      case atStart => exact ⟨(0), (0), (by first | rfl | (simp; done) | (simp [*]; done)), (by first | rfl | (simp; done) | (simp [*]; done)), H', ⟨Nat.le_refl _⟩, ⟨by (with_reducible repeat (first | apply Kd.R_alloc | apply Kd.R_drewN | apply Kd.R_drew)); exact HO118.out⟩, ⟨by repeat (first | (with_reducible first | exact HB.out | apply below_alloc | apply pw_below_drewN | apply below_drew1) | exact HB.out)⟩⟩
      case round =>
        clear H'
        try clear q1
        try clear p2
        try clear c4
        try clear c5
        try clear c5b0
        try clear c5b1
        try clear c5b2
        try clear q119
        obtain ⟨x10_1, x11_1, rfl, rfl, HA, HK1, HO_6, HB⟩ := hrel
        cases gk with
        | zero => exact absurd HA.out (by simp [shacklelaw18_TlsSteps.l0])
        | succ k1 =>
          have H := HA.out
          clear HA
          simp only [shacklelaw18_TlsSteps.l0] at H
          by_cases c9 : x11_1 < (l0.length : Int)
          · rw [if_pos c9] at H
            have c9b0 : decide (x11_1 < (l0.length : Int)) = true := decide_eq_true c9
            clear c9
            by_cases c10 : 0 ≤ x11_1
            · rw [if_pos c10] at H
              have c10b0 : decide (0 ≤ x11_1) = true := decide_eq_true c10
              clear c10
              by_cases c11 : ((rd_T37 l0 x11_1).f2) = 0
              · rw [if_pos c11] at H
                have c11b0 : (((rd_T37 l0 x11_1).f2) == 0) = true := beq_iff_eq.mpr c11
                have c11b1 : (((rd_T37 l0 x11_1).f2) != 0) = false := bne_eq_false_iff_eq.mpr c11
                clear c11
                by_cases c12 : x11_1 < (t113.length : Int)
                · rw [if_pos c12] at H
                  have c12b0 : decide (x11_1 < (t113.length : Int)) = true := decide_eq_true c12
                  clear c12
                  by_cases c13 : (Int.tmod (rd t113 x11_1) 1) = 0
                  · rw [if_pos c13] at H
                    have c13b0 : ((Int.tmod (rd t113 x11_1) 1) == 0) = true := beq_iff_eq.mpr c13
                    have c13b1 : ((Int.tmod (rd t113 x11_1) 1) != 0) = false := bne_eq_false_iff_eq.mpr c13
                    clear c13
                    by_cases c14 : (rd t113 x11_1) < (IntKind.u64.wrap (x10_1 + ((rd_T37 l0 x11_1).f1)))
                    · rw [if_pos c14] at H
                      have c14b0 : decide ((rd t113 x11_1) < (IntKind.u64.wrap (x10_1 + ((rd_T37 l0 x11_1).f1)))) = true := decide_eq_true c14
                      clear c14
                      obtain rfl := Option.some.inj H
                      have p120 : 0 ≤ (x11_1 : Int) := of_decide_eq_true (by first | (with_reducible assumption) | assumption)
                      have q120 : x11_1 < (l0.length : Int) := of_decide_eq_true (by first | (with_reducible assumption) | assumption)
                      obtain ⟨ad120, A120_0, c120_0, e120, hx120_0, hx120_1, hx120_2, hl120_0, hi120_0⟩ := at_T37 HR0.out x11_1 p120 q120
                      cases e120
                      replace hx120_0 := (HB.out.cell (World.block_lt_of_cell? w _ hx120_0)).trans hx120_0
                      replace hx120_1 := (HB.out.cell (World.block_lt_of_cell? w _ hx120_1)).trans hx120_1
                      replace hx120_2 := (HB.out.cell (World.block_lt_of_cell? w _ hx120_2)).trans hx120_2
                      have HR120_0 := Aside0.mk hi120_0
                      have HC120_0 := Aside0.mk hl120_0
                      clear hi120_0 hl120_0
                      replace p120 := eq_true p120
                      replace q120 := eq_true q120
                      have p121 : 0 ≤ (x11_1 : Int) := of_decide_eq_true (by first | (with_reducible assumption) | assumption)
                      have q121 : x11_1 < (t113.length : Int) := of_decide_eq_true (by first | (with_reducible assumption) | assumption)
                      obtain ⟨ad121, e121, hx121_0⟩ := Kd.at_int (Kd.R_reads' HO_6.out).2.2 x11_1 p121 q121
                      cases e121
                      replace p121 := eq_true p121
                      replace q121 := eq_true q121
                      have p122 : 0 ≤ (x11_1 : Int) := of_decide_eq_true (by first | (with_reducible assumption) | assumption)
                      have q122 : x11_1 < (t113.length : Int) := of_decide_eq_true (by first | (with_reducible assumption) | assumption)
                      obtain ⟨ad122, e122, hx122_0⟩ := Kd.at_int (Kd.R_reads' HO_6.out).2.2 x11_1 p122 q122
                      obtain rfl : ad121 = ad122 := (by injection e122)
                      replace p122 := eq_true p122
                      replace q122 := eq_true q122
                      have p123 : 0 ≤ (x11_1 : Int) := of_decide_eq_true (by first | (with_reducible assumption) | assumption)
                      have q123 : x11_1 < (l0.length : Int) := of_decide_eq_true (by first | (with_reducible assumption) | assumption)
                      obtain ⟨ad123, A123_0, c123_0, e123, hx123_0, hx123_1, hx123_2, hl123_0, hi123_0⟩ := at_T37 HR0.out x11_1 p123 q123
                      obtain rfl : ad120 = ad123 := (by injection e123)
                      replace hx123_0 := (HB.out.cell (World.block_lt_of_cell? w _ hx123_0)).trans hx123_0
                      replace hx123_1 := (HB.out.cell (World.block_lt_of_cell? w _ hx123_1)).trans hx123_1
                      replace hx123_2 := (HB.out.cell (World.block_lt_of_cell? w _ hx123_2)).trans hx123_2
                      have HR123_0 := Aside0.mk hi123_0
                      have HC123_0 := Aside0.mk hl123_0
                      clear hi123_0 hl123_0
                      replace p123 := eq_true p123
                      replace q123 := eq_true q123
                      have ea_ := Option.some.inj (hx120_0.symm.trans hx123_0)
                      injection ea_ with ea_ en_ ec_
                      subst ea_
                      subst ec_
                      clear en_
                      go_wp2
                      repeat (go_quiet (fail); try go_wp2)
                      go_ret
                      exact ⟨by first | rfl | (simp [errW_none, errW_some] <;> rfl) | (simp [*, errW_none, errW_some] <;> rfl), by repeat (first | (with_reducible first | exact HB.out | apply below_alloc | apply pw_below_drewN | apply below_drew1) | exact HB.out)⟩
                    · rw [if_neg c14] at H
                      have c14b0 : decide ((rd t113 x11_1) < (IntKind.u64.wrap (x10_1 + ((rd_T37 l0 x11_1).f1)))) = false := decide_eq_false c14
                      clear c14
                      by_cases c15 : (rd t113 x11_1) ≥ (IntKind.u64.wrap ((IntKind.u64.wrap (x10_1 + ((rd_T37 l0 x11_1).f1))) + 1))
                      · rw [if_pos c15] at H
                        have c15b0 : decide ((IntKind.u64.wrap ((IntKind.u64.wrap (x10_1 + ((rd_T37 l0 x11_1).f1))) + 1)) ≤ (rd t113 x11_1)) = true := decide_eq_true c15
                        clear c15
                        obtain rfl := Option.some.inj H
                        have p120 : 0 ≤ (x11_1 : Int) := of_decide_eq_true (by first | (with_reducible assumption) | assumption)
                        have q120 : x11_1 < (l0.length : Int) := of_decide_eq_true (by first | (with_reducible assumption) | assumption)
                        obtain ⟨ad120, A120_0, c120_0, e120, hx120_0, hx120_1, hx120_2, hl120_0, hi120_0⟩ := at_T37 HR0.out x11_1 p120 q120
                        cases e120
                        replace hx120_0 := (HB.out.cell (World.block_lt_of_cell? w _ hx120_0)).trans hx120_0
                        replace hx120_1 := (HB.out.cell (World.block_lt_of_cell? w _ hx120_1)).trans hx120_1
                        replace hx120_2 := (HB.out.cell (World.block_lt_of_cell? w _ hx120_2)).trans hx120_2
                        have HR120_0 := Aside0.mk hi120_0
                        have HC120_0 := Aside0.mk hl120_0
                        clear hi120_0 hl120_0
                        replace p120 := eq_true p120
                        replace q120 := eq_true q120
                        have p121 : 0 ≤ (x11_1 : Int) := of_decide_eq_true (by first | (with_reducible assumption) | assumption)
                        have q121 : x11_1 < (t113.length : Int) := of_decide_eq_true (by first | (with_reducible assumption) | assumption)
                        obtain ⟨ad121, e121, hx121_0⟩ := Kd.at_int (Kd.R_reads' HO_6.out).2.2 x11_1 p121 q121
                        cases e121
                        replace p121 := eq_true p121
                        replace q121 := eq_true q121
                        have p122 : 0 ≤ (x11_1 : Int) := of_decide_eq_true (by first | (with_reducible assumption) | assumption)
                        have q122 : x11_1 < (t113.length : Int) := of_decide_eq_true (by first | (with_reducible assumption) | assumption)
                        obtain ⟨ad122, e122, hx122_0⟩ := Kd.at_int (Kd.R_reads' HO_6.out).2.2 x11_1 p122 q122
                        obtain rfl : ad121 = ad122 := (by injection e122)
                        replace p122 := eq_true p122
                        replace q122 := eq_true q122
                        have p123 : 0 ≤ (x11_1 : Int) := of_decide_eq_true (by first | (with_reducible assumption) | assumption)
                        have q123 : x11_1 < (l0.length : Int) := of_decide_eq_true (by first | (with_reducible assumption) | assumption)
                        obtain ⟨ad123, A123_0, c123_0, e123, hx123_0, hx123_1, hx123_2, hl123_0, hi123_0⟩ := at_T37 HR0.out x11_1 p123 q123
                        obtain rfl : ad120 = ad123 := (by injection e123)
                        replace hx123_0 := (HB.out.cell (World.block_lt_of_cell? w _ hx123_0)).trans hx123_0
                        replace hx123_1 := (HB.out.cell (World.block_lt_of_cell? w _ hx123_1)).trans hx123_1
                        replace hx123_2 := (HB.out.cell (World.block_lt_of_cell? w _ hx123_2)).trans hx123_2
                        have HR123_0 := Aside0.mk hi123_0
                        have HC123_0 := Aside0.mk hl123_0
                        clear hi123_0 hl123_0
                        replace p123 := eq_true p123
                        replace q123 := eq_true q123
                        have ea_ := Option.some.inj (hx120_0.symm.trans hx123_0)
                        injection ea_ with ea_ en_ ec_
                        subst ea_
                        subst ec_
                        clear en_
                        have p124 : 0 ≤ (x11_1 : Int) := of_decide_eq_true (by first | (with_reducible assumption) | assumption)
                        have q124 : x11_1 < (t113.length : Int) := of_decide_eq_true (by first | (with_reducible assumption) | assumption)
                        obtain ⟨ad124, e124, hx124_0⟩ := Kd.at_int (Kd.R_reads' HO_6.out).2.2 x11_1 p124 q124
                        obtain rfl : ad121 = ad124 := (by injection e124)
                        replace p124 := eq_true p124
                        replace q124 := eq_true q124
                        have p125 : 0 ≤ (x11_1 : Int) := of_decide_eq_true (by first | (with_reducible assumption) | assumption)
                        have q125 : x11_1 < (l0.length : Int) := of_decide_eq_true (by first | (with_reducible assumption) | assumption)
                        obtain ⟨ad125, A125_0, c125_0, e125, hx125_0, hx125_1, hx125_2, hl125_0, hi125_0⟩ := at_T37 HR0.out x11_1 p125 q125
                        obtain rfl : ad120 = ad125 := (by injection e125)
                        replace hx125_0 := (HB.out.cell (World.block_lt_of_cell? w _ hx125_0)).trans hx125_0
                        replace hx125_1 := (HB.out.cell (World.block_lt_of_cell? w _ hx125_1)).trans hx125_1
                        replace hx125_2 := (HB.out.cell (World.block_lt_of_cell? w _ hx125_2)).trans hx125_2
                        have HR125_0 := Aside0.mk hi125_0
                        have HC125_0 := Aside0.mk hl125_0
                        clear hi125_0 hl125_0
                        replace p125 := eq_true p125
                        replace q125 := eq_true q125
                        have ea_ := Option.some.inj (hx120_0.symm.trans hx125_0)
                        injection ea_ with ea_ en_ ec_
                        subst ea_
                        subst ec_
                        clear en_
                        go_wp2
                        repeat (go_quiet (fail); try go_wp2)
                        go_ret
                        exact ⟨by first | rfl | (simp [errW_none, errW_some] <;> rfl) | (simp [*, errW_none, errW_some] <;> rfl), by repeat (first | (with_reducible first | exact HB.out | apply below_alloc | apply pw_below_drewN | apply below_drew1) | exact HB.out)⟩
                      · rw [if_neg c15] at H
                        have c15b0 : decide ((IntKind.u64.wrap ((IntKind.u64.wrap (x10_1 + ((rd_T37 l0 x11_1).f1))) + 1)) ≤ (rd t113 x11_1)) = false := decide_eq_false c15
                        clear c15
                        by_cases c16 : (Int.tmod t115 1) = 0
                        · rw [if_pos c16] at H
                          have c16b0 : ((Int.tmod t115 1) == 0) = true := beq_iff_eq.mpr c16
                          have c16b1 : ((Int.tmod t115 1) != 0) = false := bne_eq_false_iff_eq.mpr c16
                          clear c16
                          have H' := Aside0.mk H
                          clear H
                          have p120 : 0 ≤ (x11_1 : Int) := of_decide_eq_true (by first | (with_reducible assumption) | assumption)
                          have q120 : x11_1 < (l0.length : Int) := of_decide_eq_true (by first | (with_reducible assumption) | assumption)
                          obtain ⟨ad120, A120_0, c120_0, e120, hx120_0, hx120_1, hx120_2, hl120_0, hi120_0⟩ := at_T37 HR0.out x11_1 p120 q120
                          cases e120
                          replace hx120_0 := (HB.out.cell (World.block_lt_of_cell? w _ hx120_0)).trans hx120_0
                          replace hx120_1 := (HB.out.cell (World.block_lt_of_cell? w _ hx120_1)).trans hx120_1
                          replace hx120_2 := (HB.out.cell (World.block_lt_of_cell? w _ hx120_2)).trans hx120_2
                          have HR120_0 := Aside0.mk hi120_0
                          have HC120_0 := Aside0.mk hl120_0
                          clear hi120_0 hl120_0
                          replace p120 := eq_true p120
                          replace q120 := eq_true q120
                          have p121 : 0 ≤ (x11_1 : Int) := of_decide_eq_true (by first | (with_reducible assumption) | assumption)
                          have q121 : x11_1 < (t113.length : Int) := of_decide_eq_true (by first | (with_reducible assumption) | assumption)
                          obtain ⟨ad121, e121, hx121_0⟩ := Kd.at_int (Kd.R_reads' HO_6.out).2.2 x11_1 p121 q121
                          cases e121
                          replace p121 := eq_true p121
                          replace q121 := eq_true q121
                          have p122 : 0 ≤ (x11_1 : Int) := of_decide_eq_true (by first | (with_reducible assumption) | assumption)
                          have q122 : x11_1 < (t113.length : Int) := of_decide_eq_true (by first | (with_reducible assumption) | assumption)
                          obtain ⟨ad122, e122, hx122_0⟩ := Kd.at_int (Kd.R_reads' HO_6.out).2.2 x11_1 p122 q122
                          obtain rfl : ad121 = ad122 := (by injection e122)
                          replace p122 := eq_true p122
                          replace q122 := eq_true q122
                          have p123 : 0 ≤ (x11_1 : Int) := of_decide_eq_true (by first | (with_reducible assumption) | assumption)
                          have q123 : x11_1 < (l0.length : Int) := of_decide_eq_true (by first | (with_reducible assumption) | assumption)
                          obtain ⟨ad123, A123_0, c123_0, e123, hx123_0, hx123_1, hx123_2, hl123_0, hi123_0⟩ := at_T37 HR0.out x11_1 p123 q123
                          obtain rfl : ad120 = ad123 := (by injection e123)
                          replace hx123_0 := (HB.out.cell (World.block_lt_of_cell? w _ hx123_0)).trans hx123_0
                          replace hx123_1 := (HB.out.cell (World.block_lt_of_cell? w _ hx123_1)).trans hx123_1
                          replace hx123_2 := (HB.out.cell (World.block_lt_of_cell? w _ hx123_2)).trans hx123_2
                          have HR123_0 := Aside0.mk hi123_0
                          have HC123_0 := Aside0.mk hl123_0
                          clear hi123_0 hl123_0
                          replace p123 := eq_true p123
                          replace q123 := eq_true q123
                          have ea_ := Option.some.inj (hx120_0.symm.trans hx123_0)
                          injection ea_ with ea_ en_ ec_
                          subst ea_
                          subst ec_
                          clear en_
                          have p124 : 0 ≤ (x11_1 : Int) := of_decide_eq_true (by first | (with_reducible assumption) | assumption)
                          have q124 : x11_1 < (t113.length : Int) := of_decide_eq_true (by first | (with_reducible assumption) | assumption)
                          obtain ⟨ad124, e124, hx124_0⟩ := Kd.at_int (Kd.R_reads' HO_6.out).2.2 x11_1 p124 q124
                          obtain rfl : ad121 = ad124 := (by injection e124)
                          replace p124 := eq_true p124
                          replace q124 := eq_true q124
                          have p125 : 0 ≤ (x11_1 : Int) := of_decide_eq_true (by first | (with_reducible assumption) | assumption)
                          have q125 : x11_1 < (l0.length : Int) := of_decide_eq_true (by first | (with_reducible assumption) | assumption)
                          obtain ⟨ad125, A125_0, c125_0, e125, hx125_0, hx125_1, hx125_2, hl125_0, hi125_0⟩ := at_T37 HR0.out x11_1 p125 q125
                          obtain rfl : ad120 = ad125 := (by injection e125)
                          replace hx125_0 := (HB.out.cell (World.block_lt_of_cell? w _ hx125_0)).trans hx125_0
                          replace hx125_1 := (HB.out.cell (World.block_lt_of_cell? w _ hx125_1)).trans hx125_1
                          replace hx125_2 := (HB.out.cell (World.block_lt_of_cell? w _ hx125_2)).trans hx125_2
                          have HR125_0 := Aside0.mk hi125_0
                          have HC125_0 := Aside0.mk hl125_0
                          clear hi125_0 hl125_0
                          replace p125 := eq_true p125
                          replace q125 := eq_true q125
                          have ea_ := Option.some.inj (hx120_0.symm.trans hx125_0)
                          injection ea_ with ea_ en_ ec_
                          subst ea_
                          subst ec_
                          clear en_
                          have p126 : 0 ≤ (x11_1 : Int) := of_decide_eq_true (by first | (with_reducible assumption) | assumption)
                          have q126 : x11_1 < (t113.length : Int) := of_decide_eq_true (by first | (with_reducible assumption) | assumption)
                          obtain ⟨ad126, e126, hx126_0⟩ := Kd.at_int (Kd.R_reads' HO_6.out).2.2 x11_1 p126 q126
                          obtain rfl : ad121 = ad126 := (by injection e126)
                          replace p126 := eq_true p126
                          replace q126 := eq_true q126
                          go_wp2
                          repeat (go_quiet (fail); try go_wp2)
                          go_roundg k1
                          case measure => have := HK1.out; omega
                          case rel => exact ⟨(rd t113 x11_1), (wrap64 (x11_1 + 1)), (by first | rfl | (simp; done) | (simp [*]; done)), (by first | rfl | (simp; done) | (simp [*]; done)), H', ⟨by have := HK1.out; omega⟩, ⟨by (with_reducible repeat (first | apply Kd.R_alloc | apply Kd.R_drewN | apply Kd.R_drew)); exact HO_6.out⟩, ⟨by repeat (first | (with_reducible first | exact HB.out | apply below_alloc | apply pw_below_drewN | apply below_drew1) | exact HB.out)⟩⟩
                        · exact absurd (Int.tmod_one _) c16
                  · exact absurd (Int.tmod_one _) c13
                · rw [if_neg c12] at H
                  exact absurd H (by simp)
              · rw [if_neg c11] at H
                have c11b0 : (((rd_T37 l0 x11_1).f2) == 0) = false := beq_eq_false_iff_ne.mpr c11
                have c11b1 : (((rd_T37 l0 x11_1).f2) != 0) = true := bne_iff_ne.mpr c11
                by_cases c17 : x11_1 < (t113.length : Int)
                · rw [if_pos c17] at H
                  have c17b0 : decide (x11_1 < (t113.length : Int)) = true := decide_eq_true c17
                  clear c17
                  by_cases c18 : (Int.tmod (rd t113 x11_1) ((rd_T37 l0 x11_1).f2)) = 0
                  · rw [if_pos c18] at H
                    have c18b0 : ((Int.tmod (rd t113 x11_1) ((rd_T37 l0 x11_1).f2)) == 0) = true := beq_iff_eq.mpr c18
                    have c18b1 : ((Int.tmod (rd t113 x11_1) ((rd_T37 l0 x11_1).f2)) != 0) = false := bne_eq_false_iff_eq.mpr c18
                    clear c18
                    by_cases c19 : (rd t113 x11_1) < (IntKind.u64.wrap (x10_1 + ((rd_T37 l0 x11_1).f1)))
                    · rw [if_pos c19] at H
                      have c19b0 : decide ((rd t113 x11_1) < (IntKind.u64.wrap (x10_1 + ((rd_T37 l0 x11_1).f1)))) = true := decide_eq_true c19
                      clear c19
                      obtain rfl := Option.some.inj H
                      have p120 : 0 ≤ (x11_1 : Int) := of_decide_eq_true (by first | (with_reducible assumption) | assumption)
                      have q120 : x11_1 < (l0.length : Int) := of_decide_eq_true (by first | (with_reducible assumption) | assumption)
                      obtain ⟨ad120, A120_0, c120_0, e120, hx120_0, hx120_1, hx120_2, hl120_0, hi120_0⟩ := at_T37 HR0.out x11_1 p120 q120
                      cases e120
                      replace hx120_0 := (HB.out.cell (World.block_lt_of_cell? w _ hx120_0)).trans hx120_0
                      replace hx120_1 := (HB.out.cell (World.block_lt_of_cell? w _ hx120_1)).trans hx120_1
                      replace hx120_2 := (HB.out.cell (World.block_lt_of_cell? w _ hx120_2)).trans hx120_2
                      have HR120_0 := Aside0.mk hi120_0
                      have HC120_0 := Aside0.mk hl120_0
                      clear hi120_0 hl120_0
                      replace p120 := eq_true p120
                      replace q120 := eq_true q120
                      have p127 : 0 ≤ (x11_1 : Int) := of_decide_eq_true (by first | (with_reducible assumption) | assumption)
                      have q127 : x11_1 < (t113.length : Int) := of_decide_eq_true (by first | (with_reducible assumption) | assumption)
                      obtain ⟨ad127, e127, hx127_0⟩ := Kd.at_int (Kd.R_reads' HO_6.out).2.2 x11_1 p127 q127
                      cases e127
                      replace p127 := eq_true p127
                      replace q127 := eq_true q127
                      have p128 : 0 ≤ (x11_1 : Int) := of_decide_eq_true (by first | (with_reducible assumption) | assumption)
                      have q128 : x11_1 < (t113.length : Int) := of_decide_eq_true (by first | (with_reducible assumption) | assumption)
                      obtain ⟨ad128, e128, hx128_0⟩ := Kd.at_int (Kd.R_reads' HO_6.out).2.2 x11_1 p128 q128
                      obtain rfl : ad127 = ad128 := (by injection e128)
                      replace p128 := eq_true p128
                      replace q128 := eq_true q128
                      have p129 : 0 ≤ (x11_1 : Int) := of_decide_eq_true (by first | (with_reducible assumption) | assumption)
                      have q129 : x11_1 < (l0.length : Int) := of_decide_eq_true (by first | (with_reducible assumption) | assumption)
                      obtain ⟨ad129, A129_0, c129_0, e129, hx129_0, hx129_1, hx129_2, hl129_0, hi129_0⟩ := at_T37 HR0.out x11_1 p129 q129
                      obtain rfl : ad120 = ad129 := (by injection e129)
                      replace hx129_0 := (HB.out.cell (World.block_lt_of_cell? w _ hx129_0)).trans hx129_0
                      replace hx129_1 := (HB.out.cell (World.block_lt_of_cell? w _ hx129_1)).trans hx129_1
                      replace hx129_2 := (HB.out.cell (World.block_lt_of_cell? w _ hx129_2)).trans hx129_2
                      have HR129_0 := Aside0.mk hi129_0
                      have HC129_0 := Aside0.mk hl129_0
                      clear hi129_0 hl129_0
                      replace p129 := eq_true p129
                      replace q129 := eq_true q129
                      have ea_ := Option.some.inj (hx120_0.symm.trans hx129_0)
                      injection ea_ with ea_ en_ ec_
                      subst ea_
                      subst ec_
                      clear en_
                      go_wp2
                      repeat (go_quiet (fail); try go_wp2)
                      go_ret
                      exact ⟨by first | rfl | (simp [errW_none, errW_some] <;> rfl) | (simp [*, errW_none, errW_some] <;> rfl), by repeat (first | (with_reducible first | exact HB.out | apply below_alloc | apply pw_below_drewN | apply below_drew1) | exact HB.out)⟩
                    · rw [if_neg c19] at H
                      have c19b0 : decide ((rd t113 x11_1) < (IntKind.u64.wrap (x10_1 + ((rd_T37 l0 x11_1).f1)))) = false := decide_eq_false c19
                      clear c19
                      by_cases c20 : (rd t113 x11_1) ≥ (IntKind.u64.wrap ((IntKind.u64.wrap (x10_1 + ((rd_T37 l0 x11_1).f1))) + ((rd_T37 l0 x11_1).f2)))
                      · rw [if_pos c20] at H
                        have c20b0 : decide ((IntKind.u64.wrap ((IntKind.u64.wrap (x10_1 + ((rd_T37 l0 x11_1).f1))) + ((rd_T37 l0 x11_1).f2))) ≤ (rd t113 x11_1)) = true := decide_eq_true c20
                        clear c20
                        obtain rfl := Option.some.inj H
                        have p120 : 0 ≤ (x11_1 : Int) := of_decide_eq_true (by first | (with_reducible assumption) | assumption)
                        have q120 : x11_1 < (l0.length : Int) := of_decide_eq_true (by first | (with_reducible assumption) | assumption)
                        obtain ⟨ad120, A120_0, c120_0, e120, hx120_0, hx120_1, hx120_2, hl120_0, hi120_0⟩ := at_T37 HR0.out x11_1 p120 q120
                        cases e120
                        replace hx120_0 := (HB.out.cell (World.block_lt_of_cell? w _ hx120_0)).trans hx120_0
                        replace hx120_1 := (HB.out.cell (World.block_lt_of_cell? w _ hx120_1)).trans hx120_1
                        replace hx120_2 := (HB.out.cell (World.block_lt_of_cell? w _ hx120_2)).trans hx120_2
                        have HR120_0 := Aside0.mk hi120_0
                        have HC120_0 := Aside0.mk hl120_0
                        clear hi120_0 hl120_0
                        replace p120 := eq_true p120
                        replace q120 := eq_true q120
                        have p127 : 0 ≤ (x11_1 : Int) := of_decide_eq_true (by first | (with_reducible assumption) | assumption)
                        have q127 : x11_1 < (t113.length : Int) := of_decide_eq_true (by first | (with_reducible assumption) | assumption)
                        obtain ⟨ad127, e127, hx127_0⟩ := Kd.at_int (Kd.R_reads' HO_6.out).2.2 x11_1 p127 q127
                        cases e127
                        replace p127 := eq_true p127
                        replace q127 := eq_true q127
                        have p128 : 0 ≤ (x11_1 : Int) := of_decide_eq_true (by first | (with_reducible assumption) | assumption)
                        have q128 : x11_1 < (t113.length : Int) := of_decide_eq_true (by first | (with_reducible assumption) | assumption)
                        obtain ⟨ad128, e128, hx128_0⟩ := Kd.at_int (Kd.R_reads' HO_6.out).2.2 x11_1 p128 q128
                        obtain rfl : ad127 = ad128 := (by injection e128)
                        replace p128 := eq_true p128
                        replace q128 := eq_true q128
                        have p129 : 0 ≤ (x11_1 : Int) := of_decide_eq_true (by first | (with_reducible assumption) | assumption)
                        have q129 : x11_1 < (l0.length : Int) := of_decide_eq_true (by first | (with_reducible assumption) | assumption)
                        obtain ⟨ad129, A129_0, c129_0, e129, hx129_0, hx129_1, hx129_2, hl129_0, hi129_0⟩ := at_T37 HR0.out x11_1 p129 q129
                        obtain rfl : ad120 = ad129 := (by injection e129)
                        replace hx129_0 := (HB.out.cell (World.block_lt_of_cell? w _ hx129_0)).trans hx129_0
                        replace hx129_1 := (HB.out.cell (World.block_lt_of_cell? w _ hx129_1)).trans hx129_1
                        replace hx129_2 := (HB.out.cell (World.block_lt_of_cell? w _ hx129_2)).trans hx129_2
                        have HR129_0 := Aside0.mk hi129_0
                        have HC129_0 := Aside0.mk hl129_0
                        clear hi129_0 hl129_0
                        replace p129 := eq_true p129
                        replace q129 := eq_true q129
                        have ea_ := Option.some.inj (hx120_0.symm.trans hx129_0)
                        injection ea_ with ea_ en_ ec_
                        subst ea_
                        subst ec_
                        clear en_
                        have p130 : 0 ≤ (x11_1 : Int) := of_decide_eq_true (by first | (with_reducible assumption) | assumption)
                        have q130 : x11_1 < (t113.length : Int) := of_decide_eq_true (by first | (with_reducible assumption) | assumption)
                        obtain ⟨ad130, e130, hx130_0⟩ := Kd.at_int (Kd.R_reads' HO_6.out).2.2 x11_1 p130 q130
                        obtain rfl : ad127 = ad130 := (by injection e130)
                        replace p130 := eq_true p130
                        replace q130 := eq_true q130
                        have p131 : 0 ≤ (x11_1 : Int) := of_decide_eq_true (by first | (with_reducible assumption) | assumption)
                        have q131 : x11_1 < (l0.length : Int) := of_decide_eq_true (by first | (with_reducible assumption) | assumption)
                        obtain ⟨ad131, A131_0, c131_0, e131, hx131_0, hx131_1, hx131_2, hl131_0, hi131_0⟩ := at_T37 HR0.out x11_1 p131 q131
                        obtain rfl : ad120 = ad131 := (by injection e131)
                        replace hx131_0 := (HB.out.cell (World.block_lt_of_cell? w _ hx131_0)).trans hx131_0
                        replace hx131_1 := (HB.out.cell (World.block_lt_of_cell? w _ hx131_1)).trans hx131_1
                        replace hx131_2 := (HB.out.cell (World.block_lt_of_cell? w _ hx131_2)).trans hx131_2
                        have HR131_0 := Aside0.mk hi131_0
                        have HC131_0 := Aside0.mk hl131_0
                        clear hi131_0 hl131_0
                        replace p131 := eq_true p131
                        replace q131 := eq_true q131
                        have ea_ := Option.some.inj (hx120_0.symm.trans hx131_0)
                        injection ea_ with ea_ en_ ec_
                        subst ea_
                        subst ec_
                        clear en_
                        go_wp2
                        repeat (go_quiet (fail); try go_wp2)
                        go_ret
                        exact ⟨by first | rfl | (simp [errW_none, errW_some] <;> rfl) | (simp [*, errW_none, errW_some] <;> rfl), by repeat (first | (with_reducible first | exact HB.out | apply below_alloc | apply pw_below_drewN | apply below_drew1) | exact HB.out)⟩
                      · rw [if_neg c20] at H
                        have c20b0 : decide ((IntKind.u64.wrap ((IntKind.u64.wrap (x10_1 + ((rd_T37 l0 x11_1).f1))) + ((rd_T37 l0 x11_1).f2))) ≤ (rd t113 x11_1)) = false := decide_eq_false c20
                        clear c20
                        by_cases c21 : (Int.tmod t115 ((rd_T37 l0 x11_1).f2)) = 0
                        · rw [if_pos c21] at H
                          have c21b0 : ((Int.tmod t115 ((rd_T37 l0 x11_1).f2)) == 0) = true := beq_iff_eq.mpr c21
                          have c21b1 : ((Int.tmod t115 ((rd_T37 l0 x11_1).f2)) != 0) = false := bne_eq_false_iff_eq.mpr c21
                          clear c21
                          have H' := Aside0.mk H
                          clear H
                          have p120 : 0 ≤ (x11_1 : Int) := of_decide_eq_true (by first | (with_reducible assumption) | assumption)
                          have q120 : x11_1 < (l0.length : Int) := of_decide_eq_true (by first | (with_reducible assumption) | assumption)
                          obtain ⟨ad120, A120_0, c120_0, e120, hx120_0, hx120_1, hx120_2, hl120_0, hi120_0⟩ := at_T37 HR0.out x11_1 p120 q120
                          cases e120
                          replace hx120_0 := (HB.out.cell (World.block_lt_of_cell? w _ hx120_0)).trans hx120_0
                          replace hx120_1 := (HB.out.cell (World.block_lt_of_cell? w _ hx120_1)).trans hx120_1
                          replace hx120_2 := (HB.out.cell (World.block_lt_of_cell? w _ hx120_2)).trans hx120_2
                          have HR120_0 := Aside0.mk hi120_0
                          have HC120_0 := Aside0.mk hl120_0
                          clear hi120_0 hl120_0
                          replace p120 := eq_true p120
                          replace q120 := eq_true q120
                          have p127 : 0 ≤ (x11_1 : Int) := of_decide_eq_true (by first | (with_reducible assumption) | assumption)
                          have q127 : x11_1 < (t113.length : Int) := of_decide_eq_true (by first | (with_reducible assumption) | assumption)
                          obtain ⟨ad127, e127, hx127_0⟩ := Kd.at_int (Kd.R_reads' HO_6.out).2.2 x11_1 p127 q127
                          cases e127
                          replace p127 := eq_true p127
                          replace q127 := eq_true q127
                          have p128 : 0 ≤ (x11_1 : Int) := of_decide_eq_true (by first | (with_reducible assumption) | assumption)
                          have q128 : x11_1 < (t113.length : Int) := of_decide_eq_true (by first | (with_reducible assumption) | assumption)
                          obtain ⟨ad128, e128, hx128_0⟩ := Kd.at_int (Kd.R_reads' HO_6.out).2.2 x11_1 p128 q128
                          obtain rfl : ad127 = ad128 := (by injection e128)
                          replace p128 := eq_true p128
                          replace q128 := eq_true q128
                          have p129 : 0 ≤ (x11_1 : Int) := of_decide_eq_true (by first | (with_reducible assumption) | assumption)
                          have q129 : x11_1 < (l0.length : Int) := of_decide_eq_true (by first | (with_reducible assumption) | assumption)
                          obtain ⟨ad129, A129_0, c129_0, e129, hx129_0, hx129_1, hx129_2, hl129_0, hi129_0⟩ := at_T37 HR0.out x11_1 p129 q129
                          obtain rfl : ad120 = ad129 := (by injection e129)
                          replace hx129_0 := (HB.out.cell (World.block_lt_of_cell? w _ hx129_0)).trans hx129_0
                          replace hx129_1 := (HB.out.cell (World.block_lt_of_cell? w _ hx129_1)).trans hx129_1
                          replace hx129_2 := (HB.out.cell (World.block_lt_of_cell? w _ hx129_2)).trans hx129_2
                          have HR129_0 := Aside0.mk hi129_0
                          have HC129_0 := Aside0.mk hl129_0
                          clear hi129_0 hl129_0
                          replace p129 := eq_true p129
                          replace q129 := eq_true q129
                          have ea_ := Option.some.inj (hx120_0.symm.trans hx129_0)
                          injection ea_ with ea_ en_ ec_
                          subst ea_
                          subst ec_
                          clear en_
                          have p130 : 0 ≤ (x11_1 : Int) := of_decide_eq_true (by first | (with_reducible assumption) | assumption)
                          have q130 : x11_1 < (t113.length : Int) := of_decide_eq_true (by first | (with_reducible assumption) | assumption)
                          obtain ⟨ad130, e130, hx130_0⟩ := Kd.at_int (Kd.R_reads' HO_6.out).2.2 x11_1 p130 q130
                          obtain rfl : ad127 = ad130 := (by injection e130)
                          replace p130 := eq_true p130
                          replace q130 := eq_true q130
                          have p131 : 0 ≤ (x11_1 : Int) := of_decide_eq_true (by first | (with_reducible assumption) | assumption)
                          have q131 : x11_1 < (l0.length : Int) := of_decide_eq_true (by first | (with_reducible assumption) | assumption)
                          obtain ⟨ad131, A131_0, c131_0, e131, hx131_0, hx131_1, hx131_2, hl131_0, hi131_0⟩ := at_T37 HR0.out x11_1 p131 q131
                          obtain rfl : ad120 = ad131 := (by injection e131)
                          replace hx131_0 := (HB.out.cell (World.block_lt_of_cell? w _ hx131_0)).trans hx131_0
                          replace hx131_1 := (HB.out.cell (World.block_lt_of_cell? w _ hx131_1)).trans hx131_1
                          replace hx131_2 := (HB.out.cell (World.block_lt_of_cell? w _ hx131_2)).trans hx131_2
                          have HR131_0 := Aside0.mk hi131_0
                          have HC131_0 := Aside0.mk hl131_0
                          clear hi131_0 hl131_0
                          replace p131 := eq_true p131
                          replace q131 := eq_true q131
                          have ea_ := Option.some.inj (hx120_0.symm.trans hx131_0)
                          injection ea_ with ea_ en_ ec_
                          subst ea_
                          subst ec_
                          clear en_
                          have p132 : 0 ≤ (x11_1 : Int) := of_decide_eq_true (by first | (with_reducible assumption) | assumption)
                          have q132 : x11_1 < (t113.length : Int) := of_decide_eq_true (by first | (with_reducible assumption) | assumption)
                          obtain ⟨ad132, e132, hx132_0⟩ := Kd.at_int (Kd.R_reads' HO_6.out).2.2 x11_1 p132 q132
                          obtain rfl : ad127 = ad132 := (by injection e132)
                          replace p132 := eq_true p132
                          replace q132 := eq_true q132
                          go_wp2
                          repeat (go_quiet (fail); try go_wp2)
                          go_roundg k1
                          case measure => have := HK1.out; omega
                          case rel => exact ⟨(rd t113 x11_1), (wrap64 (x11_1 + 1)), (by first | rfl | (simp; done) | (simp [*]; done)), (by first | rfl | (simp; done) | (simp [*]; done)), H', ⟨by have := HK1.out; omega⟩, ⟨by (with_reducible repeat (first | apply Kd.R_alloc | apply Kd.R_drewN | apply Kd.R_drew)); exact HO_6.out⟩, ⟨by repeat (first | (with_reducible first | exact HB.out | apply below_alloc | apply pw_below_drewN | apply below_drew1) | exact HB.out)⟩⟩
                        · rw [if_neg c21] at H
                          have c21b0 : ((Int.tmod t115 ((rd_T37 l0 x11_1).f2)) == 0) = false := beq_eq_false_iff_ne.mpr c21
                          have c21b1 : ((Int.tmod t115 ((rd_T37 l0 x11_1).f2)) != 0) = true := bne_iff_ne.mpr c21
                          obtain rfl := Option.some.inj H
                          have p120 : 0 ≤ (x11_1 : Int) := of_decide_eq_true (by first | (with_reducible assumption) | assumption)
                          have q120 : x11_1 < (l0.length : Int) := of_decide_eq_true (by first | (with_reducible assumption) | assumption)
                          obtain ⟨ad120, A120_0, c120_0, e120, hx120_0, hx120_1, hx120_2, hl120_0, hi120_0⟩ := at_T37 HR0.out x11_1 p120 q120
                          cases e120
                          replace hx120_0 := (HB.out.cell (World.block_lt_of_cell? w _ hx120_0)).trans hx120_0
                          replace hx120_1 := (HB.out.cell (World.block_lt_of_cell? w _ hx120_1)).trans hx120_1
                          replace hx120_2 := (HB.out.cell (World.block_lt_of_cell? w _ hx120_2)).trans hx120_2
                          have HR120_0 := Aside0.mk hi120_0
                          have HC120_0 := Aside0.mk hl120_0
                          clear hi120_0 hl120_0
                          replace p120 := eq_true p120
                          replace q120 := eq_true q120
                          have p127 : 0 ≤ (x11_1 : Int) := of_decide_eq_true (by first | (with_reducible assumption) | assumption)
                          have q127 : x11_1 < (t113.length : Int) := of_decide_eq_true (by first | (with_reducible assumption) | assumption)
                          obtain ⟨ad127, e127, hx127_0⟩ := Kd.at_int (Kd.R_reads' HO_6.out).2.2 x11_1 p127 q127
                          cases e127
                          replace p127 := eq_true p127
                          replace q127 := eq_true q127
                          have p128 : 0 ≤ (x11_1 : Int) := of_decide_eq_true (by first | (with_reducible assumption) | assumption)
                          have q128 : x11_1 < (t113.length : Int) := of_decide_eq_true (by first | (with_reducible assumption) | assumption)
                          obtain ⟨ad128, e128, hx128_0⟩ := Kd.at_int (Kd.R_reads' HO_6.out).2.2 x11_1 p128 q128
                          obtain rfl : ad127 = ad128 := (by injection e128)
                          replace p128 := eq_true p128
                          replace q128 := eq_true q128
                          have p129 : 0 ≤ (x11_1 : Int) := of_decide_eq_true (by first | (with_reducible assumption) | assumption)
                          have q129 : x11_1 < (l0.length : Int) := of_decide_eq_true (by first | (with_reducible assumption) | assumption)
                          obtain ⟨ad129, A129_0, c129_0, e129, hx129_0, hx129_1, hx129_2, hl129_0, hi129_0⟩ := at_T37 HR0.out x11_1 p129 q129
                          obtain rfl : ad120 = ad129 := (by injection e129)
                          replace hx129_0 := (HB.out.cell (World.block_lt_of_cell? w _ hx129_0)).trans hx129_0
                          replace hx129_1 := (HB.out.cell (World.block_lt_of_cell? w _ hx129_1)).trans hx129_1
                          replace hx129_2 := (HB.out.cell (World.block_lt_of_cell? w _ hx129_2)).trans hx129_2
                          have HR129_0 := Aside0.mk hi129_0
                          have HC129_0 := Aside0.mk hl129_0
                          clear hi129_0 hl129_0
                          replace p129 := eq_true p129
                          replace q129 := eq_true q129
                          have ea_ := Option.some.inj (hx120_0.symm.trans hx129_0)
                          injection ea_ with ea_ en_ ec_
                          subst ea_
                          subst ec_
                          clear en_
                          have p130 : 0 ≤ (x11_1 : Int) := of_decide_eq_true (by first | (with_reducible assumption) | assumption)
                          have q130 : x11_1 < (t113.length : Int) := of_decide_eq_true (by first | (with_reducible assumption) | assumption)
                          obtain ⟨ad130, e130, hx130_0⟩ := Kd.at_int (Kd.R_reads' HO_6.out).2.2 x11_1 p130 q130
                          obtain rfl : ad127 = ad130 := (by injection e130)
                          replace p130 := eq_true p130
                          replace q130 := eq_true q130
                          have p131 : 0 ≤ (x11_1 : Int) := of_decide_eq_true (by first | (with_reducible assumption) | assumption)
                          have q131 : x11_1 < (l0.length : Int) := of_decide_eq_true (by first | (with_reducible assumption) | assumption)
                          obtain ⟨ad131, A131_0, c131_0, e131, hx131_0, hx131_1, hx131_2, hl131_0, hi131_0⟩ := at_T37 HR0.out x11_1 p131 q131
                          obtain rfl : ad120 = ad131 := (by injection e131)
                          replace hx131_0 := (HB.out.cell (World.block_lt_of_cell? w _ hx131_0)).trans hx131_0
                          replace hx131_1 := (HB.out.cell (World.block_lt_of_cell? w _ hx131_1)).trans hx131_1
                          replace hx131_2 := (HB.out.cell (World.block_lt_of_cell? w _ hx131_2)).trans hx131_2
                          have HR131_0 := Aside0.mk hi131_0
                          have HC131_0 := Aside0.mk hl131_0
                          clear hi131_0 hl131_0
                          replace p131 := eq_true p131
                          replace q131 := eq_true q131
                          have ea_ := Option.some.inj (hx120_0.symm.trans hx131_0)
                          injection ea_ with ea_ en_ ec_
                          subst ea_
                          subst ec_
                          clear en_
                          go_wp2
                          repeat (go_quiet (fail); try go_wp2)
                          go_ret
                          exact ⟨by first | rfl | (simp [errW_none, errW_some] <;> rfl) | (simp [*, errW_none, errW_some] <;> rfl), by repeat (first | (with_reducible first | exact HB.out | apply below_alloc | apply pw_below_drewN | apply below_drew1) | exact HB.out)⟩
                  · rw [if_neg c18] at H
                    have c18b0 : ((Int.tmod (rd t113 x11_1) ((rd_T37 l0 x11_1).f2)) == 0) = false := beq_eq_false_iff_ne.mpr c18
                    have c18b1 : ((Int.tmod (rd t113 x11_1) ((rd_T37 l0 x11_1).f2)) != 0) = true := bne_iff_ne.mpr c18
                    obtain rfl := Option.some.inj H
                    have p120 : 0 ≤ (x11_1 : Int) := of_decide_eq_true (by first | (with_reducible assumption) | assumption)
                    have q120 : x11_1 < (l0.length : Int) := of_decide_eq_true (by first | (with_reducible assumption) | assumption)
                    obtain ⟨ad120, A120_0, c120_0, e120, hx120_0, hx120_1, hx120_2, hl120_0, hi120_0⟩ := at_T37 HR0.out x11_1 p120 q120
                    cases e120
                    replace hx120_0 := (HB.out.cell (World.block_lt_of_cell? w _ hx120_0)).trans hx120_0
                    replace hx120_1 := (HB.out.cell (World.block_lt_of_cell? w _ hx120_1)).trans hx120_1
                    replace hx120_2 := (HB.out.cell (World.block_lt_of_cell? w _ hx120_2)).trans hx120_2
                    have HR120_0 := Aside0.mk hi120_0
                    have HC120_0 := Aside0.mk hl120_0
                    clear hi120_0 hl120_0
                    replace p120 := eq_true p120
                    replace q120 := eq_true q120
                    have p127 : 0 ≤ (x11_1 : Int) := of_decide_eq_true (by first | (with_reducible assumption) | assumption)
                    have q127 : x11_1 < (t113.length : Int) := of_decide_eq_true (by first | (with_reducible assumption) | assumption)
                    obtain ⟨ad127, e127, hx127_0⟩ := Kd.at_int (Kd.R_reads' HO_6.out).2.2 x11_1 p127 q127
                    cases e127
                    replace p127 := eq_true p127
                    replace q127 := eq_true q127
                    go_wp2
                    repeat (go_quiet (fail); try go_wp2)
                    go_ret
                    exact ⟨by first | rfl | (simp [errW_none, errW_some] <;> rfl) | (simp [*, errW_none, errW_some] <;> rfl), by repeat (first | (with_reducible first | exact HB.out | apply below_alloc | apply pw_below_drewN | apply below_drew1) | exact HB.out)⟩
                · rw [if_neg c17] at H
                  exact absurd H (by simp)
            · rw [if_neg c10] at H
              exact absurd H (by simp)
          · rw [if_neg c9] at H
            have c9b0 : decide (x11_1 < (l0.length : Int)) = false := decide_eq_false c9
            clear c9
            by_cases c22 : x10_1 = t114
            · rw [if_pos c22] at H
              have c22b0 : (x10_1 == t114) = true := beq_iff_eq.mpr c22
              have c22b1 : (x10_1 != t114) = false := bne_eq_false_iff_eq.mpr c22
              clear c22
              replace H := Option.bind_eq_some_iff.mp H
              obtain ⟨t133, A230, H⟩ := H
              replace H : (if 0 ≤ t133 then (if t133 ≤ (l0.length : Int) then ((tls_Layout.f k1 (l0.take (t133 : Int).toNat)).bind fun bt138 => (if t133 ≤ (t113.length : Int) then ((shackleref18_Same.f k1 bt138.1 (t113.take (t133 : Int).toNat)).bind fun t148 => (if t112 = true then (if bt138.2.2.2.isNone = true then (some t148) else (some false)) else (some false))) else (none))) else (none)) else (none)) = some r := H
              have A23 := Aside0.mk A230
              clear A230
              by_cases c24 : 0 ≤ t133
              · rw [if_pos c24] at H
                have c24b0 := eq_true c24
                have c24b1 : decide (0 ≤ t133) = true := decide_eq_true c24
                clear c24
                by_cases c25 : t133 ≤ (l0.length : Int)
                · rw [if_pos c25] at H
                  have c25b0 := eq_true c25
                  have c25b1 : decide (t133 ≤ (l0.length : Int)) = true := decide_eq_true c25
                  clear c25
                  obtain ⟨y134, hy134⟩ : ∃ y_ : List (S37), y_ = (l0.take (t133 : Int).toNat) := ⟨_, rfl⟩
                  replace H : ((tls_Layout.f k1 y134).bind fun bt138 => (if t133 ≤ (t113.length : Int) then ((shackleref18_Same.f k1 bt138.1 (t113.take (t133 : Int).toNat)).bind fun t148 => (if t112 = true then (if bt138.2.2.2.isNone = true then (some t148) else (some false)) else (some false))) else (none))) = some r := by first | (rw [hy134]; with_reducible exact H) | (have H2_ := (Option.bind_some _ _).symm.trans H; rw [hy134]; with_reducible exact H2_) | (have H2_ := (Option.bind_some _ _).symm.trans H; with_reducible exact H2_) | with_reducible exact H | (rw [hy134]; exact H) | exact H
                  have Ny134 := Aside0.mk hy134
                  clear hy134
                  replace H := Option.bind_eq_some_iff.mp H
                  obtain ⟨⟨t138, t139, t140, t141⟩, A260, H⟩ := H
                  replace H : (if t133 ≤ (t113.length : Int) then ((shackleref18_Same.f k1 t138 (t113.take (t133 : Int).toNat)).bind fun t148 => (if t112 = true then (if t141.isNone = true then (some t148) else (some false)) else (some false))) else (none)) = some r := H
                  have A26 := Aside0.mk A260
                  clear A260
                  have c27b0 := eq_true (of_decide_eq_true (by first | (with_reducible assumption) | assumption) : 0 ≤ t133)
                  by_cases c28 : t133 ≤ (t113.length : Int)
                  · rw [if_pos c28] at H
                    have c28b0 := eq_true c28
                    have c28b1 : decide (t133 ≤ (t113.length : Int)) = true := decide_eq_true c28
                    clear c28
                    obtain ⟨y144, hy144⟩ : ∃ y_ : List Int, y_ = (t113.take (t133 : Int).toNat) := ⟨_, rfl⟩
                    replace H : ((shackleref18_Same.f k1 t138 y144).bind fun t148 => (if t112 = true then (if t141.isNone = true then (some t148) else (some false)) else (some false))) = some r := by first | (rw [hy144]; with_reducible exact H) | (have H2_ := (Option.bind_some _ _).symm.trans H; rw [hy144]; with_reducible exact H2_) | (have H2_ := (Option.bind_some _ _).symm.trans H; with_reducible exact H2_) | with_reducible exact H | (rw [hy144]; exact H) | exact H
                    have Ny144 := Aside0.mk hy144
                    clear hy144
                    replace H := Option.bind_eq_some_iff.mp H
                    obtain ⟨t148, A290, H⟩ := H
                    replace H : (if t112 = true then (if t141.isNone = true then (some t148) else (some false)) else (some false)) = some r := H
                    have A29 := Aside0.mk A290
                    clear A290
                    by_cases c30 : t112 = true
                    · subst c30
                      have H1 : (if t141.isNone = true then (some t148) else (some false)) = some r := by rw [if_pos rfl] at H; exact H
                      clear H
                      have H := H1
                      clear H1
                      rcases t141 with _ | q149
                      · have H1 : (some t148) = some r := by rw [if_pos (show (none : Option Int).isNone = true by rfl)] at H; exact H
                        clear H
                        have H := H1
                        clear H1
                        try simp only [errW_none, errW_some]
                        obtain rfl := Option.some.inj H
                        go_wp2_with (first | (go_at_call 11; (with_reducible refine (shacklelaw18_pick.calls a1 (wrap64 ((l0.length : Int) + 1)) t133 _ A23.out).mono ?_); rintro e w' ⟨rfl, ⟨nd, rfl⟩⟩; (try first | exact ⟨rfl, _, World.drewN_drewN _ _ _⟩ | exact ⟨rfl, _, Eq.trans (World.drewN_drewN _ _ _) (congrArg (World.drewN _) (Nat.add_assoc _ _ _))⟩); have q31 : (t133 : Int) ≤ ((l0.length : Int) : Int) := of_decide_eq_true (by first | (with_reducible assumption) | assumption); obtain ⟨i031, hi031, _, hsz31, _⟩ := info_parts info37; have hroom31 : l0.length ≤ c0 := HC0.out; have hC31 : Kd.C k37 _ A0 l0.length l0 := HR0.out; have hcut31 := cut_to (P := Try.prog) 22 37 .i64 Try.underlying22 hi031 A0 l0.length c0 t133 (of_decide_eq_true (by first | (with_reducible assumption) | assumption)) q31 hroom31; have hr31 := Kd.C_take (m := (t133 : Int).toNat) hC31 (by omega); have hy31 : y134.length = (t133 : Int).toNat := (by rw [Ny134.out, List.length_take]; omega); rw [← Ny134.out] at hr31; rw [← hy31] at hcut31; have HR137 := Aside0.mk hr31; have HC137 := Aside0.mk (show y134.length ≤ c0 from by omega); clear hr31 hC31 hroom31 hi031 hsz31; have KY31 := Aside0.mk hy31; clear hy31; replace q31 := eq_true q31) | (go_at_call 7; (with_reducible refine (tls_Layout.calls k1 _ _ y134 t138 t139 t140 none _ ?side1 ?side2 A26.out).mono ?_); (case side1 => repeat (first | exact (Kd.C_below HR137.out (by repeat (first | (with_reducible first | exact HB.out | apply below_alloc | apply pw_below_drewN | apply below_drew1) | exact HB.out))) | (with_reducible refine Kd.C_alloc ?_ _) | (with_reducible refine Kd.C_drewN ?_ _) | (with_reducible refine Kd.C_drew ?_))); (case side2 => exact HC137.out); rintro e w32 ⟨v142, rfl, ho0, hb⟩; have n0_ := Aside0.mk (Kd.R_elder' (by (with_reducible repeat (first | apply Kd.R_alloc | apply Kd.R_drewN | apply Kd.R_drew)); exact HO_6.out) (Kd.R_base ho0) hb); have n1_ := Aside0.mk (Kd.R_lower (Kd.R_new' ho0 (Kd.R_lt (by (with_reducible repeat (first | apply Kd.R_alloc | apply Kd.R_drewN | apply Kd.R_drew)); exact HO_6.out))) (below_size (by repeat (first | (with_reducible first | exact HB.out | apply below_alloc | apply pw_below_drewN | apply below_drew1) | exact HB.out)))); have n2_ := Aside0.mk (below_step (by repeat (first | (with_reducible first | exact HB.out | apply below_alloc | apply pw_below_drewN | apply below_drew1) | exact HB.out)) hb); clear HO_6; clear HB; have HO_6 := n0_; have HO143 := n1_; have HB := n2_; clear n0_ n1_ n2_; (try clear hb); (try clear hb2); (try clear hk); (try clear hi); (try clear ho0); (try simp only [errW_none, errW_some]); have q33 : (t133 : Int) ≤ ((t113.length : Int) : Int) := of_decide_eq_true (by first | (with_reducible assumption) | assumption); obtain ⟨i033, hi033, _, hsz33, _⟩ := info_parts info25; have hroom33 : t113.length ≤ co8 := (Kd.R_reads' HO_6.out).2.1; have hC33 : Kd.C (Kd.int .u64) _ Ao8 t113.length t113 := (Kd.R_reads' HO_6.out).2.2; have hcut33 := cut_to (P := Try.prog) 24 25 .i64 Try.underlying24 hi033 Ao8 t113.length co8 t133 (of_decide_eq_true (by first | (with_reducible assumption) | assumption)) q33 hroom33; have hr33 := Kd.C_take (m := (t133 : Int).toNat) hC33 (by omega); have hy33 : y144.length = (t133 : Int).toNat := (by rw [Ny144.out, List.length_take]; omega); rw [← Ny144.out] at hr33; rw [← hy33] at hcut33; have HR147 := Aside0.mk hr33; have HC147 := Aside0.mk (show y144.length ≤ co8 from by omega); clear hr33 hC33 hroom33 hi033 hsz33; have KY33 := Aside0.mk hy33; clear hy33; have KL33 := Aside0.mk (show (t133 : Int).toNat ≤ t113.length from by omega); replace q33 := eq_true q33; obtain ⟨Ao34, co34, eo34⟩ := Kd.R_slice HO143.out; subst eo34) | (go_at_call 9; (with_reducible refine (shackleref18_Same.calls k1 _ _ t138 _ _ y144 t148 _ ?side1 ?side2 ?side3 ?side4 A29.out).mono ?_); (case side1 => repeat (first | exact (Kd.R_reads' HO143.out).2.2 | (with_reducible refine Kd.C_alloc ?_ _) | (with_reducible refine Kd.C_drewN ?_ _) | (with_reducible refine Kd.C_drew ?_))); (case side2 => exact (Kd.R_reads' HO143.out).2.1); (case side3 => repeat (first | exact (by repeat (first | (with_reducible exact HR147.out) | (with_reducible refine Kd.C_alloc ?_ _) | (with_reducible refine Kd.C_drewN ?_ _) | (with_reducible refine Kd.C_drew ?_) | exact HR147.out)) | (with_reducible refine Kd.C_alloc ?_ _) | (with_reducible refine Kd.C_drewN ?_ _) | (with_reducible refine Kd.C_drew ?_))); (case side4 => exact HC147.out); rintro e w' ⟨rfl, ⟨nd, rfl⟩⟩; (try first | exact ⟨rfl, _, World.drewN_drewN _ _ _⟩ | exact ⟨rfl, _, Eq.trans (World.drewN_drewN _ _ _) (congrArg (World.drewN _) (Nat.add_assoc _ _ _))⟩)))
                        repeat (go_quiet (fail); try go_wp2_with (first | (go_at_call 11; (with_reducible refine (shacklelaw18_pick.calls a1 (wrap64 ((l0.length : Int) + 1)) t133 _ A23.out).mono ?_); rintro e w' ⟨rfl, ⟨nd, rfl⟩⟩; (try first | exact ⟨rfl, _, World.drewN_drewN _ _ _⟩ | exact ⟨rfl, _, Eq.trans (World.drewN_drewN _ _ _) (congrArg (World.drewN _) (Nat.add_assoc _ _ _))⟩); have q31 : (t133 : Int) ≤ ((l0.length : Int) : Int) := of_decide_eq_true (by first | (with_reducible assumption) | assumption); obtain ⟨i031, hi031, _, hsz31, _⟩ := info_parts info37; have hroom31 : l0.length ≤ c0 := HC0.out; have hC31 : Kd.C k37 _ A0 l0.length l0 := HR0.out; have hcut31 := cut_to (P := Try.prog) 22 37 .i64 Try.underlying22 hi031 A0 l0.length c0 t133 (of_decide_eq_true (by first | (with_reducible assumption) | assumption)) q31 hroom31; have hr31 := Kd.C_take (m := (t133 : Int).toNat) hC31 (by omega); have hy31 : y134.length = (t133 : Int).toNat := (by rw [Ny134.out, List.length_take]; omega); rw [← Ny134.out] at hr31; rw [← hy31] at hcut31; have HR137 := Aside0.mk hr31; have HC137 := Aside0.mk (show y134.length ≤ c0 from by omega); clear hr31 hC31 hroom31 hi031 hsz31; have KY31 := Aside0.mk hy31; clear hy31; replace q31 := eq_true q31) | (go_at_call 7; (with_reducible refine (tls_Layout.calls k1 _ _ y134 t138 t139 t140 none _ ?side1 ?side2 A26.out).mono ?_); (case side1 => repeat (first | exact (Kd.C_below HR137.out (by repeat (first | (with_reducible first | exact HB.out | apply below_alloc | apply pw_below_drewN | apply below_drew1) | exact HB.out))) | (with_reducible refine Kd.C_alloc ?_ _) | (with_reducible refine Kd.C_drewN ?_ _) | (with_reducible refine Kd.C_drew ?_))); (case side2 => exact HC137.out); rintro e w32 ⟨v142, rfl, ho0, hb⟩; have n0_ := Aside0.mk (Kd.R_elder' (by (with_reducible repeat (first | apply Kd.R_alloc | apply Kd.R_drewN | apply Kd.R_drew)); exact HO_6.out) (Kd.R_base ho0) hb); have n1_ := Aside0.mk (Kd.R_lower (Kd.R_new' ho0 (Kd.R_lt (by (with_reducible repeat (first | apply Kd.R_alloc | apply Kd.R_drewN | apply Kd.R_drew)); exact HO_6.out))) (below_size (by repeat (first | (with_reducible first | exact HB.out | apply below_alloc | apply pw_below_drewN | apply below_drew1) | exact HB.out)))); have n2_ := Aside0.mk (below_step (by repeat (first | (with_reducible first | exact HB.out | apply below_alloc | apply pw_below_drewN | apply below_drew1) | exact HB.out)) hb); clear HO_6; clear HB; have HO_6 := n0_; have HO143 := n1_; have HB := n2_; clear n0_ n1_ n2_; (try clear hb); (try clear hb2); (try clear hk); (try clear hi); (try clear ho0); (try simp only [errW_none, errW_some]); have q33 : (t133 : Int) ≤ ((t113.length : Int) : Int) := of_decide_eq_true (by first | (with_reducible assumption) | assumption); obtain ⟨i033, hi033, _, hsz33, _⟩ := info_parts info25; have hroom33 : t113.length ≤ co8 := (Kd.R_reads' HO_6.out).2.1; have hC33 : Kd.C (Kd.int .u64) _ Ao8 t113.length t113 := (Kd.R_reads' HO_6.out).2.2; have hcut33 := cut_to (P := Try.prog) 24 25 .i64 Try.underlying24 hi033 Ao8 t113.length co8 t133 (of_decide_eq_true (by first | (with_reducible assumption) | assumption)) q33 hroom33; have hr33 := Kd.C_take (m := (t133 : Int).toNat) hC33 (by omega); have hy33 : y144.length = (t133 : Int).toNat := (by rw [Ny144.out, List.length_take]; omega); rw [← Ny144.out] at hr33; rw [← hy33] at hcut33; have HR147 := Aside0.mk hr33; have HC147 := Aside0.mk (show y144.length ≤ co8 from by omega); clear hr33 hC33 hroom33 hi033 hsz33; have KY33 := Aside0.mk hy33; clear hy33; have KL33 := Aside0.mk (show (t133 : Int).toNat ≤ t113.length from by omega); replace q33 := eq_true q33; obtain ⟨Ao34, co34, eo34⟩ := Kd.R_slice HO143.out; subst eo34) | (go_at_call 9; (with_reducible refine (shackleref18_Same.calls k1 _ _ t138 _ _ y144 t148 _ ?side1 ?side2 ?side3 ?side4 A29.out).mono ?_); (case side1 => repeat (first | exact (Kd.R_reads' HO143.out).2.2 | (with_reducible refine Kd.C_alloc ?_ _) | (with_reducible refine Kd.C_drewN ?_ _) | (with_reducible refine Kd.C_drew ?_))); (case side2 => exact (Kd.R_reads' HO143.out).2.1); (case side3 => repeat (first | exact (by repeat (first | (with_reducible exact HR147.out) | (with_reducible refine Kd.C_alloc ?_ _) | (with_reducible refine Kd.C_drewN ?_ _) | (with_reducible refine Kd.C_drew ?_) | exact HR147.out)) | (with_reducible refine Kd.C_alloc ?_ _) | (with_reducible refine Kd.C_drewN ?_ _) | (with_reducible refine Kd.C_drew ?_))); (case side4 => exact HC147.out); rintro e w' ⟨rfl, ⟨nd, rfl⟩⟩; (try first | exact ⟨rfl, _, World.drewN_drewN _ _ _⟩ | exact ⟨rfl, _, Eq.trans (World.drewN_drewN _ _ _) (congrArg (World.drewN _) (Nat.add_assoc _ _ _))⟩))))
                        go_ret
                        exact ⟨by first | rfl | (simp [errW_none, errW_some] <;> rfl) | (simp [*, errW_none, errW_some] <;> rfl), by repeat (first | (with_reducible first | exact HB.out | apply below_alloc | apply pw_below_drewN | apply below_drew1) | exact HB.out)⟩
                      · have H1 : (some false) = some r := by rw [if_neg (show ¬ (some q149).isNone = true by simp)] at H; exact H
                        clear H
                        have H := H1
                        clear H1
                        try simp only [errW_none, errW_some]
                        obtain rfl := Option.some.inj H
                        go_wp2_with (first | (go_at_call 11; (with_reducible refine (shacklelaw18_pick.calls a1 (wrap64 ((l0.length : Int) + 1)) t133 _ A23.out).mono ?_); rintro e w' ⟨rfl, ⟨nd, rfl⟩⟩; (try first | exact ⟨rfl, _, World.drewN_drewN _ _ _⟩ | exact ⟨rfl, _, Eq.trans (World.drewN_drewN _ _ _) (congrArg (World.drewN _) (Nat.add_assoc _ _ _))⟩); have q35 : (t133 : Int) ≤ ((l0.length : Int) : Int) := of_decide_eq_true (by first | (with_reducible assumption) | assumption); obtain ⟨i035, hi035, _, hsz35, _⟩ := info_parts info37; have hroom35 : l0.length ≤ c0 := HC0.out; have hC35 : Kd.C k37 _ A0 l0.length l0 := HR0.out; have hcut35 := cut_to (P := Try.prog) 22 37 .i64 Try.underlying22 hi035 A0 l0.length c0 t133 (of_decide_eq_true (by first | (with_reducible assumption) | assumption)) q35 hroom35; have hr35 := Kd.C_take (m := (t133 : Int).toNat) hC35 (by omega); have hy35 : y134.length = (t133 : Int).toNat := (by rw [Ny134.out, List.length_take]; omega); rw [← Ny134.out] at hr35; rw [← hy35] at hcut35; have HR137 := Aside0.mk hr35; have HC137 := Aside0.mk (show y134.length ≤ c0 from by omega); clear hr35 hC35 hroom35 hi035 hsz35; have KY35 := Aside0.mk hy35; clear hy35; replace q35 := eq_true q35) | (go_at_call 7; (with_reducible refine (tls_Layout.calls k1 _ _ y134 t138 t139 t140 (some q149) _ ?side1 ?side2 A26.out).mono ?_); (case side1 => repeat (first | exact (Kd.C_below HR137.out (by repeat (first | (with_reducible first | exact HB.out | apply below_alloc | apply pw_below_drewN | apply below_drew1) | exact HB.out))) | (with_reducible refine Kd.C_alloc ?_ _) | (with_reducible refine Kd.C_drewN ?_ _) | (with_reducible refine Kd.C_drew ?_))); (case side2 => exact HC137.out); rintro e w36 ⟨v142, rfl, ho0, hb⟩; have n0_ := Aside0.mk (Kd.R_elder' (by (with_reducible repeat (first | apply Kd.R_alloc | apply Kd.R_drewN | apply Kd.R_drew)); exact HO_6.out) (Kd.R_base ho0) hb); have n1_ := Aside0.mk (Kd.R_lower (Kd.R_new' ho0 (Kd.R_lt (by (with_reducible repeat (first | apply Kd.R_alloc | apply Kd.R_drewN | apply Kd.R_drew)); exact HO_6.out))) (below_size (by repeat (first | (with_reducible first | exact HB.out | apply below_alloc | apply pw_below_drewN | apply below_drew1) | exact HB.out)))); have n2_ := Aside0.mk (below_step (by repeat (first | (with_reducible first | exact HB.out | apply below_alloc | apply pw_below_drewN | apply below_drew1) | exact HB.out)) hb); clear HO_6; clear HB; have HO_6 := n0_; have HO143 := n1_; have HB := n2_; clear n0_ n1_ n2_; (try clear hb); (try clear hb2); (try clear hk); (try clear hi); (try clear ho0); (try simp only [errW_none, errW_some]); have q37 : (t133 : Int) ≤ ((t113.length : Int) : Int) := of_decide_eq_true (by first | (with_reducible assumption) | assumption); obtain ⟨i037, hi037, _, hsz37, _⟩ := info_parts info25; have hroom37 : t113.length ≤ co8 := (Kd.R_reads' HO_6.out).2.1; have hC37 : Kd.C (Kd.int .u64) _ Ao8 t113.length t113 := (Kd.R_reads' HO_6.out).2.2; have hcut37 := cut_to (P := Try.prog) 24 25 .i64 Try.underlying24 hi037 Ao8 t113.length co8 t133 (of_decide_eq_true (by first | (with_reducible assumption) | assumption)) q37 hroom37; have hr37 := Kd.C_take (m := (t133 : Int).toNat) hC37 (by omega); have hy37 : y144.length = (t133 : Int).toNat := (by rw [Ny144.out, List.length_take]; omega); rw [← Ny144.out] at hr37; rw [← hy37] at hcut37; have HR147 := Aside0.mk hr37; have HC147 := Aside0.mk (show y144.length ≤ co8 from by omega); clear hr37 hC37 hroom37 hi037 hsz37; have KY37 := Aside0.mk hy37; clear hy37; have KL37 := Aside0.mk (show (t133 : Int).toNat ≤ t113.length from by omega); replace q37 := eq_true q37; obtain ⟨Ao38, co38, eo38⟩ := Kd.R_slice HO143.out; subst eo38) | (go_at_call 9; (with_reducible refine (shackleref18_Same.calls k1 _ _ t138 _ _ y144 t148 _ ?side1 ?side2 ?side3 ?side4 A29.out).mono ?_); (case side1 => repeat (first | exact (Kd.R_reads' HO143.out).2.2 | (with_reducible refine Kd.C_alloc ?_ _) | (with_reducible refine Kd.C_drewN ?_ _) | (with_reducible refine Kd.C_drew ?_))); (case side2 => exact (Kd.R_reads' HO143.out).2.1); (case side3 => repeat (first | exact (by repeat (first | (with_reducible exact HR147.out) | (with_reducible refine Kd.C_alloc ?_ _) | (with_reducible refine Kd.C_drewN ?_ _) | (with_reducible refine Kd.C_drew ?_) | exact HR147.out)) | (with_reducible refine Kd.C_alloc ?_ _) | (with_reducible refine Kd.C_drewN ?_ _) | (with_reducible refine Kd.C_drew ?_))); (case side4 => exact HC147.out); rintro e w' ⟨rfl, ⟨nd, rfl⟩⟩; (try first | exact ⟨rfl, _, World.drewN_drewN _ _ _⟩ | exact ⟨rfl, _, Eq.trans (World.drewN_drewN _ _ _) (congrArg (World.drewN _) (Nat.add_assoc _ _ _))⟩)))
                        repeat (go_quiet (fail); try go_wp2_with (first | (go_at_call 11; (with_reducible refine (shacklelaw18_pick.calls a1 (wrap64 ((l0.length : Int) + 1)) t133 _ A23.out).mono ?_); rintro e w' ⟨rfl, ⟨nd, rfl⟩⟩; (try first | exact ⟨rfl, _, World.drewN_drewN _ _ _⟩ | exact ⟨rfl, _, Eq.trans (World.drewN_drewN _ _ _) (congrArg (World.drewN _) (Nat.add_assoc _ _ _))⟩); have q35 : (t133 : Int) ≤ ((l0.length : Int) : Int) := of_decide_eq_true (by first | (with_reducible assumption) | assumption); obtain ⟨i035, hi035, _, hsz35, _⟩ := info_parts info37; have hroom35 : l0.length ≤ c0 := HC0.out; have hC35 : Kd.C k37 _ A0 l0.length l0 := HR0.out; have hcut35 := cut_to (P := Try.prog) 22 37 .i64 Try.underlying22 hi035 A0 l0.length c0 t133 (of_decide_eq_true (by first | (with_reducible assumption) | assumption)) q35 hroom35; have hr35 := Kd.C_take (m := (t133 : Int).toNat) hC35 (by omega); have hy35 : y134.length = (t133 : Int).toNat := (by rw [Ny134.out, List.length_take]; omega); rw [← Ny134.out] at hr35; rw [← hy35] at hcut35; have HR137 := Aside0.mk hr35; have HC137 := Aside0.mk (show y134.length ≤ c0 from by omega); clear hr35 hC35 hroom35 hi035 hsz35; have KY35 := Aside0.mk hy35; clear hy35; replace q35 := eq_true q35) | (go_at_call 7; (with_reducible refine (tls_Layout.calls k1 _ _ y134 t138 t139 t140 (some q149) _ ?side1 ?side2 A26.out).mono ?_); (case side1 => repeat (first | exact (Kd.C_below HR137.out (by repeat (first | (with_reducible first | exact HB.out | apply below_alloc | apply pw_below_drewN | apply below_drew1) | exact HB.out))) | (with_reducible refine Kd.C_alloc ?_ _) | (with_reducible refine Kd.C_drewN ?_ _) | (with_reducible refine Kd.C_drew ?_))); (case side2 => exact HC137.out); rintro e w36 ⟨v142, rfl, ho0, hb⟩; have n0_ := Aside0.mk (Kd.R_elder' (by (with_reducible repeat (first | apply Kd.R_alloc | apply Kd.R_drewN | apply Kd.R_drew)); exact HO_6.out) (Kd.R_base ho0) hb); have n1_ := Aside0.mk (Kd.R_lower (Kd.R_new' ho0 (Kd.R_lt (by (with_reducible repeat (first | apply Kd.R_alloc | apply Kd.R_drewN | apply Kd.R_drew)); exact HO_6.out))) (below_size (by repeat (first | (with_reducible first | exact HB.out | apply below_alloc | apply pw_below_drewN | apply below_drew1) | exact HB.out)))); have n2_ := Aside0.mk (below_step (by repeat (first | (with_reducible first | exact HB.out | apply below_alloc | apply pw_below_drewN | apply below_drew1) | exact HB.out)) hb); clear HO_6; clear HB; have HO_6 := n0_; have HO143 := n1_; have HB := n2_; clear n0_ n1_ n2_; (try clear hb); (try clear hb2); (try clear hk); (try clear hi); (try clear ho0); (try simp only [errW_none, errW_some]); have q37 : (t133 : Int) ≤ ((t113.length : Int) : Int) := of_decide_eq_true (by first | (with_reducible assumption) | assumption); obtain ⟨i037, hi037, _, hsz37, _⟩ := info_parts info25; have hroom37 : t113.length ≤ co8 := (Kd.R_reads' HO_6.out).2.1; have hC37 : Kd.C (Kd.int .u64) _ Ao8 t113.length t113 := (Kd.R_reads' HO_6.out).2.2; have hcut37 := cut_to (P := Try.prog) 24 25 .i64 Try.underlying24 hi037 Ao8 t113.length co8 t133 (of_decide_eq_true (by first | (with_reducible assumption) | assumption)) q37 hroom37; have hr37 := Kd.C_take (m := (t133 : Int).toNat) hC37 (by omega); have hy37 : y144.length = (t133 : Int).toNat := (by rw [Ny144.out, List.length_take]; omega); rw [← Ny144.out] at hr37; rw [← hy37] at hcut37; have HR147 := Aside0.mk hr37; have HC147 := Aside0.mk (show y144.length ≤ co8 from by omega); clear hr37 hC37 hroom37 hi037 hsz37; have KY37 := Aside0.mk hy37; clear hy37; have KL37 := Aside0.mk (show (t133 : Int).toNat ≤ t113.length from by omega); replace q37 := eq_true q37; obtain ⟨Ao38, co38, eo38⟩ := Kd.R_slice HO143.out; subst eo38) | (go_at_call 9; (with_reducible refine (shackleref18_Same.calls k1 _ _ t138 _ _ y144 t148 _ ?side1 ?side2 ?side3 ?side4 A29.out).mono ?_); (case side1 => repeat (first | exact (Kd.R_reads' HO143.out).2.2 | (with_reducible refine Kd.C_alloc ?_ _) | (with_reducible refine Kd.C_drewN ?_ _) | (with_reducible refine Kd.C_drew ?_))); (case side2 => exact (Kd.R_reads' HO143.out).2.1); (case side3 => repeat (first | exact (by repeat (first | (with_reducible exact HR147.out) | (with_reducible refine Kd.C_alloc ?_ _) | (with_reducible refine Kd.C_drewN ?_ _) | (with_reducible refine Kd.C_drew ?_) | exact HR147.out)) | (with_reducible refine Kd.C_alloc ?_ _) | (with_reducible refine Kd.C_drewN ?_ _) | (with_reducible refine Kd.C_drew ?_))); (case side4 => exact HC147.out); rintro e w' ⟨rfl, ⟨nd, rfl⟩⟩; (try first | exact ⟨rfl, _, World.drewN_drewN _ _ _⟩ | exact ⟨rfl, _, Eq.trans (World.drewN_drewN _ _ _) (congrArg (World.drewN _) (Nat.add_assoc _ _ _))⟩))))
                        go_ret
                        exact ⟨by first | rfl | (simp [errW_none, errW_some] <;> rfl) | (simp [*, errW_none, errW_some] <;> rfl), by repeat (first | (with_reducible first | exact HB.out | apply below_alloc | apply pw_below_drewN | apply below_drew1) | exact HB.out)⟩
                    · replace c30 := Bool.eq_false_iff.mpr c30
                      subst c30
                      have H1 : (some false) = some r := by rw [if_neg (show ¬ (false = true) by decide)] at H; exact H
                      clear H
                      have H := H1
                      clear H1
                      obtain rfl := Option.some.inj H
                      go_wp2_with (first | (go_at_call 11; (with_reducible refine (shacklelaw18_pick.calls a1 (wrap64 ((l0.length : Int) + 1)) t133 _ A23.out).mono ?_); rintro e w' ⟨rfl, ⟨nd, rfl⟩⟩; (try first | exact ⟨rfl, _, World.drewN_drewN _ _ _⟩ | exact ⟨rfl, _, Eq.trans (World.drewN_drewN _ _ _) (congrArg (World.drewN _) (Nat.add_assoc _ _ _))⟩); have q39 : (t133 : Int) ≤ ((l0.length : Int) : Int) := of_decide_eq_true (by first | (with_reducible assumption) | assumption); obtain ⟨i039, hi039, _, hsz39, _⟩ := info_parts info37; have hroom39 : l0.length ≤ c0 := HC0.out; have hC39 : Kd.C k37 _ A0 l0.length l0 := HR0.out; have hcut39 := cut_to (P := Try.prog) 22 37 .i64 Try.underlying22 hi039 A0 l0.length c0 t133 (of_decide_eq_true (by first | (with_reducible assumption) | assumption)) q39 hroom39; have hr39 := Kd.C_take (m := (t133 : Int).toNat) hC39 (by omega); have hy39 : y134.length = (t133 : Int).toNat := (by rw [Ny134.out, List.length_take]; omega); rw [← Ny134.out] at hr39; rw [← hy39] at hcut39; have HR137 := Aside0.mk hr39; have HC137 := Aside0.mk (show y134.length ≤ c0 from by omega); clear hr39 hC39 hroom39 hi039 hsz39; have KY39 := Aside0.mk hy39; clear hy39; replace q39 := eq_true q39) | (go_at_call 7; (with_reducible refine (tls_Layout.calls k1 _ _ y134 t138 t139 t140 t141 _ ?side1 ?side2 A26.out).mono ?_); (case side1 => repeat (first | exact (Kd.C_below HR137.out (by repeat (first | (with_reducible first | exact HB.out | apply below_alloc | apply pw_below_drewN | apply below_drew1) | exact HB.out))) | (with_reducible refine Kd.C_alloc ?_ _) | (with_reducible refine Kd.C_drewN ?_ _) | (with_reducible refine Kd.C_drew ?_))); (case side2 => exact HC137.out); rintro e w40 ⟨v142, rfl, ho0, hb⟩; have n0_ := Aside0.mk (Kd.R_elder' (by (with_reducible repeat (first | apply Kd.R_alloc | apply Kd.R_drewN | apply Kd.R_drew)); exact HO_6.out) (Kd.R_base ho0) hb); have n1_ := Aside0.mk (Kd.R_lower (Kd.R_new' ho0 (Kd.R_lt (by (with_reducible repeat (first | apply Kd.R_alloc | apply Kd.R_drewN | apply Kd.R_drew)); exact HO_6.out))) (below_size (by repeat (first | (with_reducible first | exact HB.out | apply below_alloc | apply pw_below_drewN | apply below_drew1) | exact HB.out)))); have n2_ := Aside0.mk (below_step (by repeat (first | (with_reducible first | exact HB.out | apply below_alloc | apply pw_below_drewN | apply below_drew1) | exact HB.out)) hb); clear HO_6; clear HB; have HO_6 := n0_; have HO143 := n1_; have HB := n2_; clear n0_ n1_ n2_; (try clear hb); (try clear hb2); (try clear hk); (try clear hi); (try clear ho0); (try simp only [errW_none, errW_some]); have q41 : (t133 : Int) ≤ ((t113.length : Int) : Int) := of_decide_eq_true (by first | (with_reducible assumption) | assumption); obtain ⟨i041, hi041, _, hsz41, _⟩ := info_parts info25; have hroom41 : t113.length ≤ co8 := (Kd.R_reads' HO_6.out).2.1; have hC41 : Kd.C (Kd.int .u64) _ Ao8 t113.length t113 := (Kd.R_reads' HO_6.out).2.2; have hcut41 := cut_to (P := Try.prog) 24 25 .i64 Try.underlying24 hi041 Ao8 t113.length co8 t133 (of_decide_eq_true (by first | (with_reducible assumption) | assumption)) q41 hroom41; have hr41 := Kd.C_take (m := (t133 : Int).toNat) hC41 (by omega); have hy41 : y144.length = (t133 : Int).toNat := (by rw [Ny144.out, List.length_take]; omega); rw [← Ny144.out] at hr41; rw [← hy41] at hcut41; have HR147 := Aside0.mk hr41; have HC147 := Aside0.mk (show y144.length ≤ co8 from by omega); clear hr41 hC41 hroom41 hi041 hsz41; have KY41 := Aside0.mk hy41; clear hy41; have KL41 := Aside0.mk (show (t133 : Int).toNat ≤ t113.length from by omega); replace q41 := eq_true q41; obtain ⟨Ao42, co42, eo42⟩ := Kd.R_slice HO143.out; subst eo42) | (go_at_call 9; (with_reducible refine (shackleref18_Same.calls k1 _ _ t138 _ _ y144 t148 _ ?side1 ?side2 ?side3 ?side4 A29.out).mono ?_); (case side1 => repeat (first | exact (Kd.R_reads' HO143.out).2.2 | (with_reducible refine Kd.C_alloc ?_ _) | (with_reducible refine Kd.C_drewN ?_ _) | (with_reducible refine Kd.C_drew ?_))); (case side2 => exact (Kd.R_reads' HO143.out).2.1); (case side3 => repeat (first | exact (by repeat (first | (with_reducible exact HR147.out) | (with_reducible refine Kd.C_alloc ?_ _) | (with_reducible refine Kd.C_drewN ?_ _) | (with_reducible refine Kd.C_drew ?_) | exact HR147.out)) | (with_reducible refine Kd.C_alloc ?_ _) | (with_reducible refine Kd.C_drewN ?_ _) | (with_reducible refine Kd.C_drew ?_))); (case side4 => exact HC147.out); rintro e w' ⟨rfl, ⟨nd, rfl⟩⟩; (try first | exact ⟨rfl, _, World.drewN_drewN _ _ _⟩ | exact ⟨rfl, _, Eq.trans (World.drewN_drewN _ _ _) (congrArg (World.drewN _) (Nat.add_assoc _ _ _))⟩)))
                      repeat (go_quiet (fail); try go_wp2_with (first | (go_at_call 11; (with_reducible refine (shacklelaw18_pick.calls a1 (wrap64 ((l0.length : Int) + 1)) t133 _ A23.out).mono ?_); rintro e w' ⟨rfl, ⟨nd, rfl⟩⟩; (try first | exact ⟨rfl, _, World.drewN_drewN _ _ _⟩ | exact ⟨rfl, _, Eq.trans (World.drewN_drewN _ _ _) (congrArg (World.drewN _) (Nat.add_assoc _ _ _))⟩); have q39 : (t133 : Int) ≤ ((l0.length : Int) : Int) := of_decide_eq_true (by first | (with_reducible assumption) | assumption); obtain ⟨i039, hi039, _, hsz39, _⟩ := info_parts info37; have hroom39 : l0.length ≤ c0 := HC0.out; have hC39 : Kd.C k37 _ A0 l0.length l0 := HR0.out; have hcut39 := cut_to (P := Try.prog) 22 37 .i64 Try.underlying22 hi039 A0 l0.length c0 t133 (of_decide_eq_true (by first | (with_reducible assumption) | assumption)) q39 hroom39; have hr39 := Kd.C_take (m := (t133 : Int).toNat) hC39 (by omega); have hy39 : y134.length = (t133 : Int).toNat := (by rw [Ny134.out, List.length_take]; omega); rw [← Ny134.out] at hr39; rw [← hy39] at hcut39; have HR137 := Aside0.mk hr39; have HC137 := Aside0.mk (show y134.length ≤ c0 from by omega); clear hr39 hC39 hroom39 hi039 hsz39; have KY39 := Aside0.mk hy39; clear hy39; replace q39 := eq_true q39) | (go_at_call 7; (with_reducible refine (tls_Layout.calls k1 _ _ y134 t138 t139 t140 t141 _ ?side1 ?side2 A26.out).mono ?_); (case side1 => repeat (first | exact (Kd.C_below HR137.out (by repeat (first | (with_reducible first | exact HB.out | apply below_alloc | apply pw_below_drewN | apply below_drew1) | exact HB.out))) | (with_reducible refine Kd.C_alloc ?_ _) | (with_reducible refine Kd.C_drewN ?_ _) | (with_reducible refine Kd.C_drew ?_))); (case side2 => exact HC137.out); rintro e w40 ⟨v142, rfl, ho0, hb⟩; have n0_ := Aside0.mk (Kd.R_elder' (by (with_reducible repeat (first | apply Kd.R_alloc | apply Kd.R_drewN | apply Kd.R_drew)); exact HO_6.out) (Kd.R_base ho0) hb); have n1_ := Aside0.mk (Kd.R_lower (Kd.R_new' ho0 (Kd.R_lt (by (with_reducible repeat (first | apply Kd.R_alloc | apply Kd.R_drewN | apply Kd.R_drew)); exact HO_6.out))) (below_size (by repeat (first | (with_reducible first | exact HB.out | apply below_alloc | apply pw_below_drewN | apply below_drew1) | exact HB.out)))); have n2_ := Aside0.mk (below_step (by repeat (first | (with_reducible first | exact HB.out | apply below_alloc | apply pw_below_drewN | apply below_drew1) | exact HB.out)) hb); clear HO_6; clear HB; have HO_6 := n0_; have HO143 := n1_; have HB := n2_; clear n0_ n1_ n2_; (try clear hb); (try clear hb2); (try clear hk); (try clear hi); (try clear ho0); (try simp only [errW_none, errW_some]); have q41 : (t133 : Int) ≤ ((t113.length : Int) : Int) := of_decide_eq_true (by first | (with_reducible assumption) | assumption); obtain ⟨i041, hi041, _, hsz41, _⟩ := info_parts info25; have hroom41 : t113.length ≤ co8 := (Kd.R_reads' HO_6.out).2.1; have hC41 : Kd.C (Kd.int .u64) _ Ao8 t113.length t113 := (Kd.R_reads' HO_6.out).2.2; have hcut41 := cut_to (P := Try.prog) 24 25 .i64 Try.underlying24 hi041 Ao8 t113.length co8 t133 (of_decide_eq_true (by first | (with_reducible assumption) | assumption)) q41 hroom41; have hr41 := Kd.C_take (m := (t133 : Int).toNat) hC41 (by omega); have hy41 : y144.length = (t133 : Int).toNat := (by rw [Ny144.out, List.length_take]; omega); rw [← Ny144.out] at hr41; rw [← hy41] at hcut41; have HR147 := Aside0.mk hr41; have HC147 := Aside0.mk (show y144.length ≤ co8 from by omega); clear hr41 hC41 hroom41 hi041 hsz41; have KY41 := Aside0.mk hy41; clear hy41; have KL41 := Aside0.mk (show (t133 : Int).toNat ≤ t113.length from by omega); replace q41 := eq_true q41; obtain ⟨Ao42, co42, eo42⟩ := Kd.R_slice HO143.out; subst eo42) | (go_at_call 9; (with_reducible refine (shackleref18_Same.calls k1 _ _ t138 _ _ y144 t148 _ ?side1 ?side2 ?side3 ?side4 A29.out).mono ?_); (case side1 => repeat (first | exact (Kd.R_reads' HO143.out).2.2 | (with_reducible refine Kd.C_alloc ?_ _) | (with_reducible refine Kd.C_drewN ?_ _) | (with_reducible refine Kd.C_drew ?_))); (case side2 => exact (Kd.R_reads' HO143.out).2.1); (case side3 => repeat (first | exact (by repeat (first | (with_reducible exact HR147.out) | (with_reducible refine Kd.C_alloc ?_ _) | (with_reducible refine Kd.C_drewN ?_ _) | (with_reducible refine Kd.C_drew ?_) | exact HR147.out)) | (with_reducible refine Kd.C_alloc ?_ _) | (with_reducible refine Kd.C_drewN ?_ _) | (with_reducible refine Kd.C_drew ?_))); (case side4 => exact HC147.out); rintro e w' ⟨rfl, ⟨nd, rfl⟩⟩; (try first | exact ⟨rfl, _, World.drewN_drewN _ _ _⟩ | exact ⟨rfl, _, Eq.trans (World.drewN_drewN _ _ _) (congrArg (World.drewN _) (Nat.add_assoc _ _ _))⟩))))
                      go_ret
                      exact ⟨by first | rfl | (simp [errW_none, errW_some] <;> rfl) | (simp [*, errW_none, errW_some] <;> rfl), by repeat (first | (with_reducible first | exact HB.out | apply below_alloc | apply pw_below_drewN | apply below_drew1) | exact HB.out)⟩
                  · rw [if_neg c28] at H
                    exact absurd H (by simp)
                · rw [if_neg c25] at H
                  exact absurd H (by simp)
              · rw [if_neg c24] at H
                exact absurd H (by simp)
            · rw [if_neg c22] at H
              have c22b0 : (x10_1 == t114) = false := beq_eq_false_iff_ne.mpr c22
              have c22b1 : (x10_1 != t114) = true := bne_iff_ne.mpr c22
              obtain rfl := Option.some.inj H
              go_wp2
              repeat (go_quiet (fail); try go_wp2)
              go_ret
              exact ⟨by first | rfl | (simp [errW_none, errW_some] <;> rfl) | (simp [*, errW_none, errW_some] <;> rfl), by repeat (first | (with_reducible first | exact HB.out | apply below_alloc | apply pw_below_drewN | apply below_drew1) | exact HB.out)⟩
    · rw [if_neg c5] at H
      have c5b0 : ((t113.length : Int) == (l0.length : Int)) = false := beq_eq_false_iff_ne.mpr c5
      have c5b1 : ((t113.length : Int) != (l0.length : Int)) = true := bne_iff_ne.mpr c5
      have c5b2 : (t113.length == l0.length) = false := by first | simpa using c5 | (simp at c5 ⊢; omega)
      obtain rfl := Option.some.inj H
      go_enter Try.func4, Try.ntmps4
      go_wp2_with (first | (go_at_call 6; (with_reducible refine (shacklelaw18_up.calls  t112 _ A3.out).mono ?_); rintro e w43 ⟨rfl, hb⟩; have n0_ := Aside0.mk (below_step (by repeat (first | (with_reducible first | exact HB.out | apply below_alloc | apply pw_below_drewN | apply below_drew1) | exact HB.out)) hb); clear HB; have HB := n0_; clear n0_; (try clear hb); (try clear hb2); (try clear hk); (try clear hi)) | (go_at_call 7; (with_reducible refine (tls_Layout.calls k _ _ l0 t113 t114 t115 none _ ?side1 ?side2 A4.out).mono ?_); (case side1 => repeat (first | exact (Kd.C_below HR0.out HB.out) | (with_reducible refine Kd.C_alloc ?_ _) | (with_reducible refine Kd.C_drewN ?_ _) | (with_reducible refine Kd.C_drew ?_))); (case side2 => exact HC0.out); rintro e w44 ⟨v117, rfl, ho0, hb⟩; have n0_ := Aside0.mk (Kd.R_lower ho0 (below_size (by repeat (first | (with_reducible first | exact HB.out | apply below_alloc | apply pw_below_drewN | apply below_drew1) | exact HB.out)))); have n1_ := Aside0.mk (below_step (by repeat (first | (with_reducible first | exact HB.out | apply below_alloc | apply pw_below_drewN | apply below_drew1) | exact HB.out)) hb); clear HB; have HO118 := n0_; have HB := n1_; clear n0_ n1_; (try clear hb); (try clear hb2); (try clear hk); (try clear hi); (try clear ho0); (try simp only [errW_none, errW_some]); obtain ⟨Ao45, co45, eo45⟩ := Kd.R_slice HO118.out; subst eo45))
      repeat (go_quiet (fail); try go_wp2_with (first | (go_at_call 6; (with_reducible refine (shacklelaw18_up.calls  t112 _ A3.out).mono ?_); rintro e w43 ⟨rfl, hb⟩; have n0_ := Aside0.mk (below_step (by repeat (first | (with_reducible first | exact HB.out | apply below_alloc | apply pw_below_drewN | apply below_drew1) | exact HB.out)) hb); clear HB; have HB := n0_; clear n0_; (try clear hb); (try clear hb2); (try clear hk); (try clear hi)) | (go_at_call 7; (with_reducible refine (tls_Layout.calls k _ _ l0 t113 t114 t115 none _ ?side1 ?side2 A4.out).mono ?_); (case side1 => repeat (first | exact (Kd.C_below HR0.out HB.out) | (with_reducible refine Kd.C_alloc ?_ _) | (with_reducible refine Kd.C_drewN ?_ _) | (with_reducible refine Kd.C_drew ?_))); (case side2 => exact HC0.out); rintro e w44 ⟨v117, rfl, ho0, hb⟩; have n0_ := Aside0.mk (Kd.R_lower ho0 (below_size (by repeat (first | (with_reducible first | exact HB.out | apply below_alloc | apply pw_below_drewN | apply below_drew1) | exact HB.out)))); have n1_ := Aside0.mk (below_step (by repeat (first | (with_reducible first | exact HB.out | apply below_alloc | apply pw_below_drewN | apply below_drew1) | exact HB.out)) hb); clear HB; have HO118 := n0_; have HB := n1_; clear n0_ n1_; (try clear hb); (try clear hb2); (try clear hk); (try clear hi); (try clear ho0); (try simp only [errW_none, errW_some]); obtain ⟨Ao45, co45, eo45⟩ := Kd.R_slice HO118.out; subst eo45)))
      go_ret
      exact ⟨by first | rfl | (simp [errW_none, errW_some] <;> rfl) | (simp [*, errW_none, errW_some] <;> rfl), by repeat (first | (with_reducible first | exact HB.out | apply below_alloc | apply pw_below_drewN | apply below_drew1) | exact HB.out)⟩
  · have H1 : (if t112 = true then (if (t113.length : Int) = 0 then (if t114 = 0 then (some (t115 == 0)) else (some false)) else (some false)) else (some false)) = some r := by rw [if_neg (show ¬ (some q119).isNone = true by simp)] at H; exact H
    clear H
    have H := H1
    clear H1
    try simp only [errW_none, errW_some]
    by_cases c46 : t112 = true
    · subst c46
      have H1 : (if (t113.length : Int) = 0 then (if t114 = 0 then (some (t115 == 0)) else (some false)) else (some false)) = some r := by rw [if_pos rfl] at H; exact H
      clear H
      have H := H1
      clear H1
      by_cases c47 : (t113.length : Int) = 0
      · rw [if_pos c47] at H
        have c47b0 : ((t113.length : Int) == 0) = true := beq_iff_eq.mpr c47
        have c47b1 : ((t113.length : Int) != 0) = false := bne_eq_false_iff_eq.mpr c47
        clear c47
        by_cases c48 : t114 = 0
        · rw [if_pos c48] at H
          have c48b0 : (t114 == 0) = true := beq_iff_eq.mpr c48
          have c48b1 : (t114 != 0) = false := bne_eq_false_iff_eq.mpr c48
          clear c48
          obtain rfl := Option.some.inj H
          go_enter Try.func4, Try.ntmps4
          go_wp2_with (first | (go_at_call 6; (with_reducible refine (shacklelaw18_up.calls  true _ A3.out).mono ?_); rintro e w49 ⟨rfl, hb⟩; have n0_ := Aside0.mk (below_step (by repeat (first | (with_reducible first | exact HB.out | apply below_alloc | apply pw_below_drewN | apply below_drew1) | exact HB.out)) hb); clear HB; have HB := n0_; clear n0_; (try clear hb); (try clear hb2); (try clear hk); (try clear hi)) | (go_at_call 7; (with_reducible refine (tls_Layout.calls k _ _ l0 t113 t114 t115 (some q119) _ ?side1 ?side2 A4.out).mono ?_); (case side1 => repeat (first | exact (Kd.C_below HR0.out HB.out) | (with_reducible refine Kd.C_alloc ?_ _) | (with_reducible refine Kd.C_drewN ?_ _) | (with_reducible refine Kd.C_drew ?_))); (case side2 => exact HC0.out); rintro e w50 ⟨v117, rfl, ho0, hb⟩; have n0_ := Aside0.mk (Kd.R_lower ho0 (below_size (by repeat (first | (with_reducible first | exact HB.out | apply below_alloc | apply pw_below_drewN | apply below_drew1) | exact HB.out)))); have n1_ := Aside0.mk (below_step (by repeat (first | (with_reducible first | exact HB.out | apply below_alloc | apply pw_below_drewN | apply below_drew1) | exact HB.out)) hb); clear HB; have HO118 := n0_; have HB := n1_; clear n0_ n1_; (try clear hb); (try clear hb2); (try clear hk); (try clear hi); (try clear ho0); (try simp only [errW_none, errW_some]); obtain ⟨Ao51, co51, eo51⟩ := Kd.R_slice HO118.out; subst eo51))
          repeat (go_quiet (fail); try go_wp2_with (first | (go_at_call 6; (with_reducible refine (shacklelaw18_up.calls  true _ A3.out).mono ?_); rintro e w49 ⟨rfl, hb⟩; have n0_ := Aside0.mk (below_step (by repeat (first | (with_reducible first | exact HB.out | apply below_alloc | apply pw_below_drewN | apply below_drew1) | exact HB.out)) hb); clear HB; have HB := n0_; clear n0_; (try clear hb); (try clear hb2); (try clear hk); (try clear hi)) | (go_at_call 7; (with_reducible refine (tls_Layout.calls k _ _ l0 t113 t114 t115 (some q119) _ ?side1 ?side2 A4.out).mono ?_); (case side1 => repeat (first | exact (Kd.C_below HR0.out HB.out) | (with_reducible refine Kd.C_alloc ?_ _) | (with_reducible refine Kd.C_drewN ?_ _) | (with_reducible refine Kd.C_drew ?_))); (case side2 => exact HC0.out); rintro e w50 ⟨v117, rfl, ho0, hb⟩; have n0_ := Aside0.mk (Kd.R_lower ho0 (below_size (by repeat (first | (with_reducible first | exact HB.out | apply below_alloc | apply pw_below_drewN | apply below_drew1) | exact HB.out)))); have n1_ := Aside0.mk (below_step (by repeat (first | (with_reducible first | exact HB.out | apply below_alloc | apply pw_below_drewN | apply below_drew1) | exact HB.out)) hb); clear HB; have HO118 := n0_; have HB := n1_; clear n0_ n1_; (try clear hb); (try clear hb2); (try clear hk); (try clear hi); (try clear ho0); (try simp only [errW_none, errW_some]); obtain ⟨Ao51, co51, eo51⟩ := Kd.R_slice HO118.out; subst eo51)))
          go_ret
          exact ⟨by first | rfl | (simp [errW_none, errW_some] <;> rfl) | (simp [*, errW_none, errW_some] <;> rfl), by repeat (first | (with_reducible first | exact HB.out | apply below_alloc | apply pw_below_drewN | apply below_drew1) | exact HB.out)⟩
        · rw [if_neg c48] at H
          have c48b0 : (t114 == 0) = false := beq_eq_false_iff_ne.mpr c48
          have c48b1 : (t114 != 0) = true := bne_iff_ne.mpr c48
          obtain rfl := Option.some.inj H
          go_enter Try.func4, Try.ntmps4
          go_wp2_with (first | (go_at_call 6; (with_reducible refine (shacklelaw18_up.calls  true _ A3.out).mono ?_); rintro e w52 ⟨rfl, hb⟩; have n0_ := Aside0.mk (below_step (by repeat (first | (with_reducible first | exact HB.out | apply below_alloc | apply pw_below_drewN | apply below_drew1) | exact HB.out)) hb); clear HB; have HB := n0_; clear n0_; (try clear hb); (try clear hb2); (try clear hk); (try clear hi)) | (go_at_call 7; (with_reducible refine (tls_Layout.calls k _ _ l0 t113 t114 t115 (some q119) _ ?side1 ?side2 A4.out).mono ?_); (case side1 => repeat (first | exact (Kd.C_below HR0.out HB.out) | (with_reducible refine Kd.C_alloc ?_ _) | (with_reducible refine Kd.C_drewN ?_ _) | (with_reducible refine Kd.C_drew ?_))); (case side2 => exact HC0.out); rintro e w53 ⟨v117, rfl, ho0, hb⟩; have n0_ := Aside0.mk (Kd.R_lower ho0 (below_size (by repeat (first | (with_reducible first | exact HB.out | apply below_alloc | apply pw_below_drewN | apply below_drew1) | exact HB.out)))); have n1_ := Aside0.mk (below_step (by repeat (first | (with_reducible first | exact HB.out | apply below_alloc | apply pw_below_drewN | apply below_drew1) | exact HB.out)) hb); clear HB; have HO118 := n0_; have HB := n1_; clear n0_ n1_; (try clear hb); (try clear hb2); (try clear hk); (try clear hi); (try clear ho0); (try simp only [errW_none, errW_some]); obtain ⟨Ao54, co54, eo54⟩ := Kd.R_slice HO118.out; subst eo54))
          repeat (go_quiet (fail); try go_wp2_with (first | (go_at_call 6; (with_reducible refine (shacklelaw18_up.calls  true _ A3.out).mono ?_); rintro e w52 ⟨rfl, hb⟩; have n0_ := Aside0.mk (below_step (by repeat (first | (with_reducible first | exact HB.out | apply below_alloc | apply pw_below_drewN | apply below_drew1) | exact HB.out)) hb); clear HB; have HB := n0_; clear n0_; (try clear hb); (try clear hb2); (try clear hk); (try clear hi)) | (go_at_call 7; (with_reducible refine (tls_Layout.calls k _ _ l0 t113 t114 t115 (some q119) _ ?side1 ?side2 A4.out).mono ?_); (case side1 => repeat (first | exact (Kd.C_below HR0.out HB.out) | (with_reducible refine Kd.C_alloc ?_ _) | (with_reducible refine Kd.C_drewN ?_ _) | (with_reducible refine Kd.C_drew ?_))); (case side2 => exact HC0.out); rintro e w53 ⟨v117, rfl, ho0, hb⟩; have n0_ := Aside0.mk (Kd.R_lower ho0 (below_size (by repeat (first | (with_reducible first | exact HB.out | apply below_alloc | apply pw_below_drewN | apply below_drew1) | exact HB.out)))); have n1_ := Aside0.mk (below_step (by repeat (first | (with_reducible first | exact HB.out | apply below_alloc | apply pw_below_drewN | apply below_drew1) | exact HB.out)) hb); clear HB; have HO118 := n0_; have HB := n1_; clear n0_ n1_; (try clear hb); (try clear hb2); (try clear hk); (try clear hi); (try clear ho0); (try simp only [errW_none, errW_some]); obtain ⟨Ao54, co54, eo54⟩ := Kd.R_slice HO118.out; subst eo54)))
          go_ret
          exact ⟨by first | rfl | (simp [errW_none, errW_some] <;> rfl) | (simp [*, errW_none, errW_some] <;> rfl), by repeat (first | (with_reducible first | exact HB.out | apply below_alloc | apply pw_below_drewN | apply below_drew1) | exact HB.out)⟩
      · rw [if_neg c47] at H
        have c47b0 : ((t113.length : Int) == 0) = false := beq_eq_false_iff_ne.mpr c47
        have c47b1 : ((t113.length : Int) != 0) = true := bne_iff_ne.mpr c47
        have c47b2 : ¬ (t113 = []) := fun h_ => c47 (by rw [h_]; rfl)
        obtain rfl := Option.some.inj H
        go_enter Try.func4, Try.ntmps4
        go_wp2_with (first | (go_at_call 6; (with_reducible refine (shacklelaw18_up.calls  true _ A3.out).mono ?_); rintro e w55 ⟨rfl, hb⟩; have n0_ := Aside0.mk (below_step (by repeat (first | (with_reducible first | exact HB.out | apply below_alloc | apply pw_below_drewN | apply below_drew1) | exact HB.out)) hb); clear HB; have HB := n0_; clear n0_; (try clear hb); (try clear hb2); (try clear hk); (try clear hi)) | (go_at_call 7; (with_reducible refine (tls_Layout.calls k _ _ l0 t113 t114 t115 (some q119) _ ?side1 ?side2 A4.out).mono ?_); (case side1 => repeat (first | exact (Kd.C_below HR0.out HB.out) | (with_reducible refine Kd.C_alloc ?_ _) | (with_reducible refine Kd.C_drewN ?_ _) | (with_reducible refine Kd.C_drew ?_))); (case side2 => exact HC0.out); rintro e w56 ⟨v117, rfl, ho0, hb⟩; have n0_ := Aside0.mk (Kd.R_lower ho0 (below_size (by repeat (first | (with_reducible first | exact HB.out | apply below_alloc | apply pw_below_drewN | apply below_drew1) | exact HB.out)))); have n1_ := Aside0.mk (below_step (by repeat (first | (with_reducible first | exact HB.out | apply below_alloc | apply pw_below_drewN | apply below_drew1) | exact HB.out)) hb); clear HB; have HO118 := n0_; have HB := n1_; clear n0_ n1_; (try clear hb); (try clear hb2); (try clear hk); (try clear hi); (try clear ho0); (try simp only [errW_none, errW_some]); obtain ⟨Ao57, co57, eo57⟩ := Kd.R_slice HO118.out; subst eo57))
        repeat (go_quiet (fail); try go_wp2_with (first | (go_at_call 6; (with_reducible refine (shacklelaw18_up.calls  true _ A3.out).mono ?_); rintro e w55 ⟨rfl, hb⟩; have n0_ := Aside0.mk (below_step (by repeat (first | (with_reducible first | exact HB.out | apply below_alloc | apply pw_below_drewN | apply below_drew1) | exact HB.out)) hb); clear HB; have HB := n0_; clear n0_; (try clear hb); (try clear hb2); (try clear hk); (try clear hi)) | (go_at_call 7; (with_reducible refine (tls_Layout.calls k _ _ l0 t113 t114 t115 (some q119) _ ?side1 ?side2 A4.out).mono ?_); (case side1 => repeat (first | exact (Kd.C_below HR0.out HB.out) | (with_reducible refine Kd.C_alloc ?_ _) | (with_reducible refine Kd.C_drewN ?_ _) | (with_reducible refine Kd.C_drew ?_))); (case side2 => exact HC0.out); rintro e w56 ⟨v117, rfl, ho0, hb⟩; have n0_ := Aside0.mk (Kd.R_lower ho0 (below_size (by repeat (first | (with_reducible first | exact HB.out | apply below_alloc | apply pw_below_drewN | apply below_drew1) | exact HB.out)))); have n1_ := Aside0.mk (below_step (by repeat (first | (with_reducible first | exact HB.out | apply below_alloc | apply pw_below_drewN | apply below_drew1) | exact HB.out)) hb); clear HB; have HO118 := n0_; have HB := n1_; clear n0_ n1_; (try clear hb); (try clear hb2); (try clear hk); (try clear hi); (try clear ho0); (try simp only [errW_none, errW_some]); obtain ⟨Ao57, co57, eo57⟩ := Kd.R_slice HO118.out; subst eo57)))
        go_ret
        exact ⟨by first | rfl | (simp [errW_none, errW_some] <;> rfl) | (simp [*, errW_none, errW_some] <;> rfl), by repeat (first | (with_reducible first | exact HB.out | apply below_alloc | apply pw_below_drewN | apply below_drew1) | exact HB.out)⟩
    · replace c46 := Bool.eq_false_iff.mpr c46
      subst c46
      have H1 : (some false) = some r := by rw [if_neg (show ¬ (false = true) by decide)] at H; exact H
      clear H
      have H := H1
      clear H1
      obtain rfl := Option.some.inj H
      go_enter Try.func4, Try.ntmps4
      go_wp2_with (first | (go_at_call 6; (with_reducible refine (shacklelaw18_up.calls  false _ A3.out).mono ?_); rintro e w58 ⟨rfl, hb⟩; have n0_ := Aside0.mk (below_step (by repeat (first | (with_reducible first | exact HB.out | apply below_alloc | apply pw_below_drewN | apply below_drew1) | exact HB.out)) hb); clear HB; have HB := n0_; clear n0_; (try clear hb); (try clear hb2); (try clear hk); (try clear hi)) | (go_at_call 7; (with_reducible refine (tls_Layout.calls k _ _ l0 t113 t114 t115 (some q119) _ ?side1 ?side2 A4.out).mono ?_); (case side1 => repeat (first | exact (Kd.C_below HR0.out HB.out) | (with_reducible refine Kd.C_alloc ?_ _) | (with_reducible refine Kd.C_drewN ?_ _) | (with_reducible refine Kd.C_drew ?_))); (case side2 => exact HC0.out); rintro e w59 ⟨v117, rfl, ho0, hb⟩; have n0_ := Aside0.mk (Kd.R_lower ho0 (below_size (by repeat (first | (with_reducible first | exact HB.out | apply below_alloc | apply pw_below_drewN | apply below_drew1) | exact HB.out)))); have n1_ := Aside0.mk (below_step (by repeat (first | (with_reducible first | exact HB.out | apply below_alloc | apply pw_below_drewN | apply below_drew1) | exact HB.out)) hb); clear HB; have HO118 := n0_; have HB := n1_; clear n0_ n1_; (try clear hb); (try clear hb2); (try clear hk); (try clear hi); (try clear ho0); (try simp only [errW_none, errW_some])))
      repeat (go_quiet (fail); try go_wp2_with (first | (go_at_call 6; (with_reducible refine (shacklelaw18_up.calls  false _ A3.out).mono ?_); rintro e w58 ⟨rfl, hb⟩; have n0_ := Aside0.mk (below_step (by repeat (first | (with_reducible first | exact HB.out | apply below_alloc | apply pw_below_drewN | apply below_drew1) | exact HB.out)) hb); clear HB; have HB := n0_; clear n0_; (try clear hb); (try clear hb2); (try clear hk); (try clear hi)) | (go_at_call 7; (with_reducible refine (tls_Layout.calls k _ _ l0 t113 t114 t115 (some q119) _ ?side1 ?side2 A4.out).mono ?_); (case side1 => repeat (first | exact (Kd.C_below HR0.out HB.out) | (with_reducible refine Kd.C_alloc ?_ _) | (with_reducible refine Kd.C_drewN ?_ _) | (with_reducible refine Kd.C_drew ?_))); (case side2 => exact HC0.out); rintro e w59 ⟨v117, rfl, ho0, hb⟩; have n0_ := Aside0.mk (Kd.R_lower ho0 (below_size (by repeat (first | (with_reducible first | exact HB.out | apply below_alloc | apply pw_below_drewN | apply below_drew1) | exact HB.out)))); have n1_ := Aside0.mk (below_step (by repeat (first | (with_reducible first | exact HB.out | apply below_alloc | apply pw_below_drewN | apply below_drew1) | exact HB.out)) hb); clear HB; have HO118 := n0_; have HB := n1_; clear n0_ n1_; (try clear hb); (try clear hb2); (try clear hk); (try clear hi); (try clear ho0); (try simp only [errW_none, errW_some]))))
      go_ret
      exact ⟨by first | rfl | (simp [errW_none, errW_some] <;> rfl) | (simp [*, errW_none, errW_some] <;> rfl), by repeat (first | (with_reducible first | exact HB.out | apply below_alloc | apply pw_below_drewN | apply below_drew1) | exact HB.out)⟩

/-- THE ONE PURE STATEMENT of shacklelaw18_TlsSteps: yours. -/
def g37 (x : S37) : Prop := (gL (gI .u8)) x.f0 ∧ (gI .u64) x.f1 ∧ (gI .u64) x.f2
def b37 (x : S37) : Nat := ((bL b1) x.f0 + (b1 x.f1 + (b1 x.f2))) + 1
def z_37 (x : S37) : Prop := (zL 1 zT) x.f0 ∧ zT x.f1 ∧ zT x.f2
def shacklelaw18_TlsSteps.Pure : Prop := ∀ (l0 : List (S37)) (a1 : Int), (gL g37) l0 → (zL 40 z_37) l0 → (Lit.int .i64 a1).wf = true → ∃ k, shacklelaw18_TlsSteps.f k l0 a1 = some true

end Go.Proofs.Ytpjilbhhhpikaaa.PTlsSteps
