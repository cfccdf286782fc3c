/- Printed by this session's own program (wip/tools: a turn of the kit's print) out of the translation: each Go function that the law reaches as a Lean function, and that the machine's call comes to what that function tells; no condition but what each theorem names. -/
import Derived.Test.YthhlnhbmjkjmlaaPRelocValuesx0
import Derived.Test.YthhlnhbmjkjmlaaPRelocValuesx1
import Derived.Test.YthhlnhbmjkjmlaaPRelocValuesx2
import Derived.Test.YthhlnhbmjkjmlaaPRelocValuesx3
namespace Go.Proofs.Ythhlnhbmjkjmlaa.PRelocValues
open Go.RowKit Go.Proofs.YthhlnhbmjkjmlaaW.PrintWords Go.Proofs.YthhlnhbmjkjmlaaW.PrintLast Go.Proofs.YthhlnhbmjkjmlaaW.PrintMore Go.Proofs.YthhlnhbmjkjmlaaX
attribute [local go_sem] max2_int min2_int max_two min_two max_three min_three max_four min_four   -- for this text's walks alone
set_option linter.unusedVariables false
set_option linter.unusedSimpArgs false

/-! ### shacklelaw00_further: function 46 -/
def shacklelaw00_further.f (a0 : Option Int) : Option (Int) := if a0.isNone = true then (some (-1)) else (if (a0.getD 0) = 16 then (some 16) else (if (a0.getD 0) = 17 then (some 17) else (if (a0.getD 0) = 18 then (some 18) else (if (a0.getD 0) = 19 then (some 19) else (if (a0.getD 0) = 20 then (some 20) else (if (a0.getD 0) = 21 then (some 21) else (if (a0.getD 0) = 22 then (some 22) else (if (a0.getD 0) = 23 then (some 23) else (if (a0.getD 0) = 24 then (some 24) else (if (a0.getD 0) = 25 then (some 25) else (if (a0.getD 0) = 26 then (some 26) else (if (a0.getD 0) = 27 then (some 27) else (if (a0.getD 0) = 28 then (some 28) else (if (a0.getD 0) = 29 then (some 29) else (if (a0.getD 0) = 30 then (some 30) else (some (-1)))))))))))))))))
set_option maxHeartbeats 8000000 in
set_option maxRecDepth 100000 in
theorem shacklelaw00_further.calls (a0 : Option Int) (r : Int) (w : World) (h : shacklelaw00_further.f a0 = some r) :
    Calls Try.prog 46 #[errW a0] w fun e w' => e = .returned (.int .i64 r) ∧ Drawn0 w w' := by
  have hu29 := Try.underlying29
  have hu49 := Try.underlying49
  have hcm49 : (Try.prog.info? 49).map (fun i => i.comparable) = some true := by kernel_rfl
  have H : (if a0.isNone = true then (some (-1)) else (if (a0.getD 0) = 16 then (some 16) else (if (a0.getD 0) = 17 then (some 17) else (if (a0.getD 0) = 18 then (some 18) else (if (a0.getD 0) = 19 then (some 19) else (if (a0.getD 0) = 20 then (some 20) else (if (a0.getD 0) = 21 then (some 21) else (if (a0.getD 0) = 22 then (some 22) else (if (a0.getD 0) = 23 then (some 23) else (if (a0.getD 0) = 24 then (some 24) else (if (a0.getD 0) = 25 then (some 25) else (if (a0.getD 0) = 26 then (some 26) else (if (a0.getD 0) = 27 then (some 27) else (if (a0.getD 0) = 28 then (some 28) else (if (a0.getD 0) = 29 then (some 29) else (if (a0.getD 0) = 30 then (some 30) else (some (-1)))))))))))))))))) = some r := h
  clear h
  rcases a0 with _ | q149
  · have H1 : (some (-1)) = some r := by rw [if_pos (show (none : Option Int).isNone = true by rfl)] at H; exact H
    clear H
    have H := H1
    clear H1
    simp only [errW_none, errW_some]
    obtain rfl := Option.some.inj H
    go_enter Try.func46, Try.ntmps46
    go_wp2
    go_ret
    exact ⟨by first | rfl | (simp; done) | (simp [*]; done), by repeat (first | exact Drawn0.refl _ | apply Drawn0.step)⟩
  · have H1 : (if q149 = 16 then (some 16) else (if q149 = 17 then (some 17) else (if q149 = 18 then (some 18) else (if q149 = 19 then (some 19) else (if q149 = 20 then (some 20) else (if q149 = 21 then (some 21) else (if q149 = 22 then (some 22) else (if q149 = 23 then (some 23) else (if q149 = 24 then (some 24) else (if q149 = 25 then (some 25) else (if q149 = 26 then (some 26) else (if q149 = 27 then (some 27) else (if q149 = 28 then (some 28) else (if q149 = 29 then (some 29) else (if q149 = 30 then (some 30) else (some (-1))))))))))))))))) = some r := by rw [if_neg (show ¬ (some q149).isNone = true by simp)] at H; exact H
    clear H
    have H := H1
    clear H1
    simp only [errW_none, errW_some]
    by_cases c2 : q149 = 16
    · rw [if_pos c2] at H
      have c2b0 : (q149 == 16) = true := beq_iff_eq.mpr c2
      have c2b1 : (q149 != 16) = false := bne_eq_false_iff_eq.mpr c2
      clear c2
      obtain rfl := Option.some.inj H
      go_enter Try.func46, Try.ntmps46
      go_wp2
      go_ret
      exact ⟨by first | rfl | (simp; done) | (simp [*]; done), by repeat (first | exact Drawn0.refl _ | apply Drawn0.step)⟩
    · rw [if_neg c2] at H
      have c2b0 : (q149 == 16) = false := beq_eq_false_iff_ne.mpr c2
      have c2b1 : (q149 != 16) = true := bne_iff_ne.mpr c2
      by_cases c3 : q149 = 17
      · rw [if_pos c3] at H
        have c3b0 : (q149 == 17) = true := beq_iff_eq.mpr c3
        have c3b1 : (q149 != 17) = false := bne_eq_false_iff_eq.mpr c3
        clear c3
        obtain rfl := Option.some.inj H
        go_enter Try.func46, Try.ntmps46
        go_wp2
        go_ret
        exact ⟨by first | rfl | (simp; done) | (simp [*]; done), by repeat (first | exact Drawn0.refl _ | apply Drawn0.step)⟩
      · rw [if_neg c3] at H
        have c3b0 : (q149 == 17) = false := beq_eq_false_iff_ne.mpr c3
        have c3b1 : (q149 != 17) = true := bne_iff_ne.mpr c3
        by_cases c4 : q149 = 18
        · rw [if_pos c4] at H
          have c4b0 : (q149 == 18) = true := beq_iff_eq.mpr c4
          have c4b1 : (q149 != 18) = false := bne_eq_false_iff_eq.mpr c4
          clear c4
          obtain rfl := Option.some.inj H
          go_enter Try.func46, Try.ntmps46
          go_wp2
          go_ret
          exact ⟨by first | rfl | (simp; done) | (simp [*]; done), by repeat (first | exact Drawn0.refl _ | apply Drawn0.step)⟩
        · rw [if_neg c4] at H
          have c4b0 : (q149 == 18) = false := beq_eq_false_iff_ne.mpr c4
          have c4b1 : (q149 != 18) = true := bne_iff_ne.mpr c4
          by_cases c5 : q149 = 19
          · rw [if_pos c5] at H
            have c5b0 : (q149 == 19) = true := beq_iff_eq.mpr c5
            have c5b1 : (q149 != 19) = false := bne_eq_false_iff_eq.mpr c5
            clear c5
            obtain rfl := Option.some.inj H
            go_enter Try.func46, Try.ntmps46
            go_wp2
            go_ret
            exact ⟨by first | rfl | (simp; done) | (simp [*]; done), by repeat (first | exact Drawn0.refl _ | apply Drawn0.step)⟩
          · rw [if_neg c5] at H
            have c5b0 : (q149 == 19) = false := beq_eq_false_iff_ne.mpr c5
            have c5b1 : (q149 != 19) = true := bne_iff_ne.mpr c5
            by_cases c6 : q149 = 20
            · rw [if_pos c6] at H
              have c6b0 : (q149 == 20) = true := beq_iff_eq.mpr c6
              have c6b1 : (q149 != 20) = false := bne_eq_false_iff_eq.mpr c6
              clear c6
              obtain rfl := Option.some.inj H
              go_enter Try.func46, Try.ntmps46
              go_wp2
              go_ret
              exact ⟨by first | rfl | (simp; done) | (simp [*]; done), by repeat (first | exact Drawn0.refl _ | apply Drawn0.step)⟩
            · rw [if_neg c6] at H
              have c6b0 : (q149 == 20) = false := beq_eq_false_iff_ne.mpr c6
              have c6b1 : (q149 != 20) = true := bne_iff_ne.mpr c6
              by_cases c7 : q149 = 21
              · rw [if_pos c7] at H
                have c7b0 : (q149 == 21) = true := beq_iff_eq.mpr c7
                have c7b1 : (q149 != 21) = false := bne_eq_false_iff_eq.mpr c7
                clear c7
                obtain rfl := Option.some.inj H
                go_enter Try.func46, Try.ntmps46
                go_wp2
                go_ret
                exact ⟨by first | rfl | (simp; done) | (simp [*]; done), by repeat (first | exact Drawn0.refl _ | apply Drawn0.step)⟩
              · rw [if_neg c7] at H
                have c7b0 : (q149 == 21) = false := beq_eq_false_iff_ne.mpr c7
                have c7b1 : (q149 != 21) = true := bne_iff_ne.mpr c7
                by_cases c8 : q149 = 22
                · rw [if_pos c8] at H
                  have c8b0 : (q149 == 22) = true := beq_iff_eq.mpr c8
                  have c8b1 : (q149 != 22) = false := bne_eq_false_iff_eq.mpr c8
                  clear c8
                  obtain rfl := Option.some.inj H
                  go_enter Try.func46, Try.ntmps46
                  go_wp2
                  go_ret
                  exact ⟨by first | rfl | (simp; done) | (simp [*]; done), by repeat (first | exact Drawn0.refl _ | apply Drawn0.step)⟩
                · rw [if_neg c8] at H
                  have c8b0 : (q149 == 22) = false := beq_eq_false_iff_ne.mpr c8
                  have c8b1 : (q149 != 22) = true := bne_iff_ne.mpr c8
                  by_cases c9 : q149 = 23
                  · rw [if_pos c9] at H
                    have c9b0 : (q149 == 23) = true := beq_iff_eq.mpr c9
                    have c9b1 : (q149 != 23) = false := bne_eq_false_iff_eq.mpr c9
                    clear c9
                    obtain rfl := Option.some.inj H
                    go_enter Try.func46, Try.ntmps46
                    go_wp2
                    go_ret
                    exact ⟨by first | rfl | (simp; done) | (simp [*]; done), by repeat (first | exact Drawn0.refl _ | apply Drawn0.step)⟩
                  · rw [if_neg c9] at H
                    have c9b0 : (q149 == 23) = false := beq_eq_false_iff_ne.mpr c9
                    have c9b1 : (q149 != 23) = true := bne_iff_ne.mpr c9
                    by_cases c10 : q149 = 24
                    · rw [if_pos c10] at H
                      have c10b0 : (q149 == 24) = true := beq_iff_eq.mpr c10
                      have c10b1 : (q149 != 24) = false := bne_eq_false_iff_eq.mpr c10
                      clear c10
                      obtain rfl := Option.some.inj H
                      go_enter Try.func46, Try.ntmps46
                      go_wp2
                      go_ret
                      exact ⟨by first | rfl | (simp; done) | (simp [*]; done), by repeat (first | exact Drawn0.refl _ | apply Drawn0.step)⟩
                    · rw [if_neg c10] at H
                      have c10b0 : (q149 == 24) = false := beq_eq_false_iff_ne.mpr c10
                      have c10b1 : (q149 != 24) = true := bne_iff_ne.mpr c10
                      by_cases c11 : q149 = 25
                      · rw [if_pos c11] at H
                        have c11b0 : (q149 == 25) = true := beq_iff_eq.mpr c11
                        have c11b1 : (q149 != 25) = false := bne_eq_false_iff_eq.mpr c11
                        clear c11
                        obtain rfl := Option.some.inj H
                        go_enter Try.func46, Try.ntmps46
                        go_wp2
                        go_ret
                        exact ⟨by first | rfl | (simp; done) | (simp [*]; done), by repeat (first | exact Drawn0.refl _ | apply Drawn0.step)⟩
                      · rw [if_neg c11] at H
                        have c11b0 : (q149 == 25) = false := beq_eq_false_iff_ne.mpr c11
                        have c11b1 : (q149 != 25) = true := bne_iff_ne.mpr c11
                        by_cases c12 : q149 = 26
                        · rw [if_pos c12] at H
                          have c12b0 : (q149 == 26) = true := beq_iff_eq.mpr c12
                          have c12b1 : (q149 != 26) = false := bne_eq_false_iff_eq.mpr c12
                          clear c12
                          obtain rfl := Option.some.inj H
                          go_enter Try.func46, Try.ntmps46
                          go_wp2
                          go_ret
                          exact ⟨by first | rfl | (simp; done) | (simp [*]; done), by repeat (first | exact Drawn0.refl _ | apply Drawn0.step)⟩
                        · rw [if_neg c12] at H
                          have c12b0 : (q149 == 26) = false := beq_eq_false_iff_ne.mpr c12
                          have c12b1 : (q149 != 26) = true := bne_iff_ne.mpr c12
                          by_cases c13 : q149 = 27
                          · rw [if_pos c13] at H
                            have c13b0 : (q149 == 27) = true := beq_iff_eq.mpr c13
                            have c13b1 : (q149 != 27) = false := bne_eq_false_iff_eq.mpr c13
                            clear c13
                            obtain rfl := Option.some.inj H
                            go_enter Try.func46, Try.ntmps46
                            go_wp2
                            go_ret
                            exact ⟨by first | rfl | (simp; done) | (simp [*]; done), by repeat (first | exact Drawn0.refl _ | apply Drawn0.step)⟩
                          · rw [if_neg c13] at H
                            have c13b0 : (q149 == 27) = false := beq_eq_false_iff_ne.mpr c13
                            have c13b1 : (q149 != 27) = true := bne_iff_ne.mpr c13
                            by_cases c14 : q149 = 28
                            · rw [if_pos c14] at H
                              have c14b0 : (q149 == 28) = true := beq_iff_eq.mpr c14
                              have c14b1 : (q149 != 28) = false := bne_eq_false_iff_eq.mpr c14
                              clear c14
                              obtain rfl := Option.some.inj H
                              go_enter Try.func46, Try.ntmps46
                              go_wp2
                              go_ret
                              exact ⟨by first | rfl | (simp; done) | (simp [*]; done), by repeat (first | exact Drawn0.refl _ | apply Drawn0.step)⟩
                            · rw [if_neg c14] at H
                              have c14b0 : (q149 == 28) = false := beq_eq_false_iff_ne.mpr c14
                              have c14b1 : (q149 != 28) = true := bne_iff_ne.mpr c14
                              by_cases c15 : q149 = 29
                              · rw [if_pos c15] at H
                                have c15b0 : (q149 == 29) = true := beq_iff_eq.mpr c15
                                have c15b1 : (q149 != 29) = false := bne_eq_false_iff_eq.mpr c15
                                clear c15
                                obtain rfl := Option.some.inj H
                                go_enter Try.func46, Try.ntmps46
                                go_wp2
                                go_ret
                                exact ⟨by first | rfl | (simp; done) | (simp [*]; done), by repeat (first | exact Drawn0.refl _ | apply Drawn0.step)⟩
                              · rw [if_neg c15] at H
                                have c15b0 : (q149 == 29) = false := beq_eq_false_iff_ne.mpr c15
                                have c15b1 : (q149 != 29) = true := bne_iff_ne.mpr c15
                                by_cases c16 : q149 = 30
                                · rw [if_pos c16] at H
                                  have c16b0 : (q149 == 30) = true := beq_iff_eq.mpr c16
                                  have c16b1 : (q149 != 30) = false := bne_eq_false_iff_eq.mpr c16
                                  clear c16
                                  obtain rfl := Option.some.inj H
                                  go_enter Try.func46, Try.ntmps46
                                  go_wp2
                                  go_ret
                                  exact ⟨by first | rfl | (simp; done) | (simp [*]; done), by repeat (first | exact Drawn0.refl _ | apply Drawn0.step)⟩
                                · rw [if_neg c16] at H
                                  have c16b0 : (q149 == 30) = false := beq_eq_false_iff_ne.mpr c16
                                  have c16b1 : (q149 != 30) = true := bne_iff_ne.mpr c16
                                  obtain rfl := Option.some.inj H
                                  go_enter Try.func46, Try.ntmps46
                                  go_wp2
                                  go_ret
                                  exact ⟨by first | rfl | (simp; done) | (simp [*]; done), by repeat (first | exact Drawn0.refl _ | apply Drawn0.step)⟩

/-! ### shacklelaw00_Code: function 17 -/
def shacklelaw00_Code.f (a0 : Option Int) : Option (Int) := if a0.isNone = true then (some 0) else (if (a0.getD 0) = 1 then (some 1) else (if (a0.getD 0) = 2 then (some 2) else (if (a0.getD 0) = 3 then (some 3) else (if (a0.getD 0) = 4 then (some 4) else (if (a0.getD 0) = 5 then (some 5) else (if (a0.getD 0) = 6 then (some 6) else (if (a0.getD 0) = 7 then (some 7) else (if (a0.getD 0) = 8 then (some 8) else (if (a0.getD 0) = 9 then (some 9) else (if (a0.getD 0) = 10 then (some 10) else (if (a0.getD 0) = 11 then (some 11) else (if (a0.getD 0) = 12 then (some 12) else (if (a0.getD 0) = 13 then (some 13) else (if (a0.getD 0) = 14 then (some 14) else (if (a0.getD 0) = 15 then (some 15) else ((shacklelaw00_further.f (some (a0.getD 0))).bind fun t151 => (some t151)))))))))))))))))
set_option maxHeartbeats 8000000 in
set_option maxRecDepth 100000 in
theorem shacklelaw00_Code.calls (a0 : Option Int) (r : Int) (w : World) (h : shacklelaw00_Code.f a0 = some r) :
    Calls Try.prog 17 #[errW a0] w fun e w' => e = .returned (.int .i64 r) ∧ Drawn0 w w' := by
  have hu29 := Try.underlying29
  have hu49 := Try.underlying49
  have hcm49 : (Try.prog.info? 49).map (fun i => i.comparable) = some true := by kernel_rfl
  have H : (if a0.isNone = true then (some 0) else (if (a0.getD 0) = 1 then (some 1) else (if (a0.getD 0) = 2 then (some 2) else (if (a0.getD 0) = 3 then (some 3) else (if (a0.getD 0) = 4 then (some 4) else (if (a0.getD 0) = 5 then (some 5) else (if (a0.getD 0) = 6 then (some 6) else (if (a0.getD 0) = 7 then (some 7) else (if (a0.getD 0) = 8 then (some 8) else (if (a0.getD 0) = 9 then (some 9) else (if (a0.getD 0) = 10 then (some 10) else (if (a0.getD 0) = 11 then (some 11) else (if (a0.getD 0) = 12 then (some 12) else (if (a0.getD 0) = 13 then (some 13) else (if (a0.getD 0) = 14 then (some 14) else (if (a0.getD 0) = 15 then (some 15) else ((shacklelaw00_further.f (some (a0.getD 0))).bind fun t151 => (some t151)))))))))))))))))) = some r := h
  clear h
  rcases a0 with _ | q150
  · have H1 : (some 0) = some r := by rw [if_pos (show (none : Option Int).isNone = true by rfl)] at H; exact H
    clear H
    have H := H1
    clear H1
    simp only [errW_none, errW_some]
    obtain rfl := Option.some.inj H
    go_enter Try.func17, Try.ntmps17
    go_wp2
    go_ret
    exact ⟨by first | rfl | (simp; done) | (simp [*]; done), by repeat (first | exact Drawn0.refl _ | apply Drawn0.step)⟩
  · have H1 : (if q150 = 1 then (some 1) else (if q150 = 2 then (some 2) else (if q150 = 3 then (some 3) else (if q150 = 4 then (some 4) else (if q150 = 5 then (some 5) else (if q150 = 6 then (some 6) else (if q150 = 7 then (some 7) else (if q150 = 8 then (some 8) else (if q150 = 9 then (some 9) else (if q150 = 10 then (some 10) else (if q150 = 11 then (some 11) else (if q150 = 12 then (some 12) else (if q150 = 13 then (some 13) else (if q150 = 14 then (some 14) else (if q150 = 15 then (some 15) else ((shacklelaw00_further.f (some q150)).bind fun t151 => (some t151))))))))))))))))) = some r := by rw [if_neg (show ¬ (some q150).isNone = true by simp)] at H; exact H
    clear H
    have H := H1
    clear H1
    simp only [errW_none, errW_some]
    by_cases c2 : q150 = 1
    · rw [if_pos c2] at H
      have c2b0 : (q150 == 1) = true := beq_iff_eq.mpr c2
      have c2b1 : (q150 != 1) = false := bne_eq_false_iff_eq.mpr c2
      clear c2
      obtain rfl := Option.some.inj H
      go_enter Try.func17, Try.ntmps17
      go_wp2
      go_ret
      exact ⟨by first | rfl | (simp; done) | (simp [*]; done), by repeat (first | exact Drawn0.refl _ | apply Drawn0.step)⟩
    · rw [if_neg c2] at H
      have c2b0 : (q150 == 1) = false := beq_eq_false_iff_ne.mpr c2
      have c2b1 : (q150 != 1) = true := bne_iff_ne.mpr c2
      by_cases c3 : q150 = 2
      · rw [if_pos c3] at H
        have c3b0 : (q150 == 2) = true := beq_iff_eq.mpr c3
        have c3b1 : (q150 != 2) = false := bne_eq_false_iff_eq.mpr c3
        clear c3
        obtain rfl := Option.some.inj H
        go_enter Try.func17, Try.ntmps17
        go_wp2
        go_ret
        exact ⟨by first | rfl | (simp; done) | (simp [*]; done), by repeat (first | exact Drawn0.refl _ | apply Drawn0.step)⟩
      · rw [if_neg c3] at H
        have c3b0 : (q150 == 2) = false := beq_eq_false_iff_ne.mpr c3
        have c3b1 : (q150 != 2) = true := bne_iff_ne.mpr c3
        by_cases c4 : q150 = 3
        · rw [if_pos c4] at H
          have c4b0 : (q150 == 3) = true := beq_iff_eq.mpr c4
          have c4b1 : (q150 != 3) = false := bne_eq_false_iff_eq.mpr c4
          clear c4
          obtain rfl := Option.some.inj H
          go_enter Try.func17, Try.ntmps17
          go_wp2
          go_ret
          exact ⟨by first | rfl | (simp; done) | (simp [*]; done), by repeat (first | exact Drawn0.refl _ | apply Drawn0.step)⟩
        · rw [if_neg c4] at H
          have c4b0 : (q150 == 3) = false := beq_eq_false_iff_ne.mpr c4
          have c4b1 : (q150 != 3) = true := bne_iff_ne.mpr c4
          by_cases c5 : q150 = 4
          · rw [if_pos c5] at H
            have c5b0 : (q150 == 4) = true := beq_iff_eq.mpr c5
            have c5b1 : (q150 != 4) = false := bne_eq_false_iff_eq.mpr c5
            clear c5
            obtain rfl := Option.some.inj H
            go_enter Try.func17, Try.ntmps17
            go_wp2
            go_ret
            exact ⟨by first | rfl | (simp; done) | (simp [*]; done), by repeat (first | exact Drawn0.refl _ | apply Drawn0.step)⟩
          · rw [if_neg c5] at H
            have c5b0 : (q150 == 4) = false := beq_eq_false_iff_ne.mpr c5
            have c5b1 : (q150 != 4) = true := bne_iff_ne.mpr c5
            by_cases c6 : q150 = 5
            · rw [if_pos c6] at H
              have c6b0 : (q150 == 5) = true := beq_iff_eq.mpr c6
              have c6b1 : (q150 != 5) = false := bne_eq_false_iff_eq.mpr c6
              clear c6
              obtain rfl := Option.some.inj H
              go_enter Try.func17, Try.ntmps17
              go_wp2
              go_ret
              exact ⟨by first | rfl | (simp; done) | (simp [*]; done), by repeat (first | exact Drawn0.refl _ | apply Drawn0.step)⟩
            · rw [if_neg c6] at H
              have c6b0 : (q150 == 5) = false := beq_eq_false_iff_ne.mpr c6
              have c6b1 : (q150 != 5) = true := bne_iff_ne.mpr c6
              by_cases c7 : q150 = 6
              · rw [if_pos c7] at H
                have c7b0 : (q150 == 6) = true := beq_iff_eq.mpr c7
                have c7b1 : (q150 != 6) = false := bne_eq_false_iff_eq.mpr c7
                clear c7
                obtain rfl := Option.some.inj H
                go_enter Try.func17, Try.ntmps17
                go_wp2
                go_ret
                exact ⟨by first | rfl | (simp; done) | (simp [*]; done), by repeat (first | exact Drawn0.refl _ | apply Drawn0.step)⟩
              · rw [if_neg c7] at H
                have c7b0 : (q150 == 6) = false := beq_eq_false_iff_ne.mpr c7
                have c7b1 : (q150 != 6) = true := bne_iff_ne.mpr c7
                by_cases c8 : q150 = 7
                · rw [if_pos c8] at H
                  have c8b0 : (q150 == 7) = true := beq_iff_eq.mpr c8
                  have c8b1 : (q150 != 7) = false := bne_eq_false_iff_eq.mpr c8
                  clear c8
                  obtain rfl := Option.some.inj H
                  go_enter Try.func17, Try.ntmps17
                  go_wp2
                  go_ret
                  exact ⟨by first | rfl | (simp; done) | (simp [*]; done), by repeat (first | exact Drawn0.refl _ | apply Drawn0.step)⟩
                · rw [if_neg c8] at H
                  have c8b0 : (q150 == 7) = false := beq_eq_false_iff_ne.mpr c8
                  have c8b1 : (q150 != 7) = true := bne_iff_ne.mpr c8
                  by_cases c9 : q150 = 8
                  · rw [if_pos c9] at H
                    have c9b0 : (q150 == 8) = true := beq_iff_eq.mpr c9
                    have c9b1 : (q150 != 8) = false := bne_eq_false_iff_eq.mpr c9
                    clear c9
                    obtain rfl := Option.some.inj H
                    go_enter Try.func17, Try.ntmps17
                    go_wp2
                    go_ret
                    exact ⟨by first | rfl | (simp; done) | (simp [*]; done), by repeat (first | exact Drawn0.refl _ | apply Drawn0.step)⟩
                  · rw [if_neg c9] at H
                    have c9b0 : (q150 == 8) = false := beq_eq_false_iff_ne.mpr c9
                    have c9b1 : (q150 != 8) = true := bne_iff_ne.mpr c9
                    by_cases c10 : q150 = 9
                    · rw [if_pos c10] at H
                      have c10b0 : (q150 == 9) = true := beq_iff_eq.mpr c10
                      have c10b1 : (q150 != 9) = false := bne_eq_false_iff_eq.mpr c10
                      clear c10
                      obtain rfl := Option.some.inj H
                      go_enter Try.func17, Try.ntmps17
                      go_wp2
                      go_ret
                      exact ⟨by first | rfl | (simp; done) | (simp [*]; done), by repeat (first | exact Drawn0.refl _ | apply Drawn0.step)⟩
                    · rw [if_neg c10] at H
                      have c10b0 : (q150 == 9) = false := beq_eq_false_iff_ne.mpr c10
                      have c10b1 : (q150 != 9) = true := bne_iff_ne.mpr c10
                      by_cases c11 : q150 = 10
                      · rw [if_pos c11] at H
                        have c11b0 : (q150 == 10) = true := beq_iff_eq.mpr c11
                        have c11b1 : (q150 != 10) = false := bne_eq_false_iff_eq.mpr c11
                        clear c11
                        obtain rfl := Option.some.inj H
                        go_enter Try.func17, Try.ntmps17
                        go_wp2
                        go_ret
                        exact ⟨by first | rfl | (simp; done) | (simp [*]; done), by repeat (first | exact Drawn0.refl _ | apply Drawn0.step)⟩
                      · rw [if_neg c11] at H
                        have c11b0 : (q150 == 10) = false := beq_eq_false_iff_ne.mpr c11
                        have c11b1 : (q150 != 10) = true := bne_iff_ne.mpr c11
                        by_cases c12 : q150 = 11
                        · rw [if_pos c12] at H
                          have c12b0 : (q150 == 11) = true := beq_iff_eq.mpr c12
                          have c12b1 : (q150 != 11) = false := bne_eq_false_iff_eq.mpr c12
                          clear c12
                          obtain rfl := Option.some.inj H
                          go_enter Try.func17, Try.ntmps17
                          go_wp2
                          go_ret
                          exact ⟨by first | rfl | (simp; done) | (simp [*]; done), by repeat (first | exact Drawn0.refl _ | apply Drawn0.step)⟩
                        · rw [if_neg c12] at H
                          have c12b0 : (q150 == 11) = false := beq_eq_false_iff_ne.mpr c12
                          have c12b1 : (q150 != 11) = true := bne_iff_ne.mpr c12
                          by_cases c13 : q150 = 12
                          · rw [if_pos c13] at H
                            have c13b0 : (q150 == 12) = true := beq_iff_eq.mpr c13
                            have c13b1 : (q150 != 12) = false := bne_eq_false_iff_eq.mpr c13
                            clear c13
                            obtain rfl := Option.some.inj H
                            go_enter Try.func17, Try.ntmps17
                            go_wp2
                            go_ret
                            exact ⟨by first | rfl | (simp; done) | (simp [*]; done), by repeat (first | exact Drawn0.refl _ | apply Drawn0.step)⟩
                          · rw [if_neg c13] at H
                            have c13b0 : (q150 == 12) = false := beq_eq_false_iff_ne.mpr c13
                            have c13b1 : (q150 != 12) = true := bne_iff_ne.mpr c13
                            by_cases c14 : q150 = 13
                            · rw [if_pos c14] at H
                              have c14b0 : (q150 == 13) = true := beq_iff_eq.mpr c14
                              have c14b1 : (q150 != 13) = false := bne_eq_false_iff_eq.mpr c14
                              clear c14
                              obtain rfl := Option.some.inj H
                              go_enter Try.func17, Try.ntmps17
                              go_wp2
                              go_ret
                              exact ⟨by first | rfl | (simp; done) | (simp [*]; done), by repeat (first | exact Drawn0.refl _ | apply Drawn0.step)⟩
                            · rw [if_neg c14] at H
                              have c14b0 : (q150 == 13) = false := beq_eq_false_iff_ne.mpr c14
                              have c14b1 : (q150 != 13) = true := bne_iff_ne.mpr c14
                              by_cases c15 : q150 = 14
                              · rw [if_pos c15] at H
                                have c15b0 : (q150 == 14) = true := beq_iff_eq.mpr c15
                                have c15b1 : (q150 != 14) = false := bne_eq_false_iff_eq.mpr c15
                                clear c15
                                obtain rfl := Option.some.inj H
                                go_enter Try.func17, Try.ntmps17
                                go_wp2
                                go_ret
                                exact ⟨by first | rfl | (simp; done) | (simp [*]; done), by repeat (first | exact Drawn0.refl _ | apply Drawn0.step)⟩
                              · rw [if_neg c15] at H
                                have c15b0 : (q150 == 14) = false := beq_eq_false_iff_ne.mpr c15
                                have c15b1 : (q150 != 14) = true := bne_iff_ne.mpr c15
                                by_cases c16 : q150 = 15
                                · rw [if_pos c16] at H
                                  have c16b0 : (q150 == 15) = true := beq_iff_eq.mpr c16
                                  have c16b1 : (q150 != 15) = false := bne_eq_false_iff_eq.mpr c16
                                  clear c16
                                  obtain rfl := Option.some.inj H
                                  go_enter Try.func17, Try.ntmps17
                                  go_wp2
                                  go_ret
                                  exact ⟨by first | rfl | (simp; done) | (simp [*]; done), by repeat (first | exact Drawn0.refl _ | apply Drawn0.step)⟩
                                · rw [if_neg c16] at H
                                  have c16b0 : (q150 == 15) = false := beq_eq_false_iff_ne.mpr c16
                                  have c16b1 : (q150 != 15) = true := bne_iff_ne.mpr c16
                                  replace H := Option.bind_eq_some_iff.mp H
                                  obtain ⟨t151, A170, H⟩ := H
                                  replace H : (some t151) = some r := H
                                  have A17 := Aside0.mk A170
                                  clear A170
                                  obtain rfl := Option.some.inj H
                                  have CA17 := fun W => shacklelaw00_further.calls (some q150) t151 W A17.out
                                  try simp only [errW_none, errW_some] at CA17
                                  go_enter Try.func17, Try.ntmps17
                                  go_wp2_with (first | (go_at_call 46; (with_reducible refine (CA17 _).mono ?_); rintro e w' ⟨rfl, ⟨nd, rfl⟩⟩))
                                  go_ret
                                  exact ⟨by first | rfl | (simp; done) | (simp [*]; done), by repeat (first | exact Drawn0.refl _ | apply Drawn0.step)⟩

/-! ### shacklelaw19_RelocValues: function 3 -/
def shacklelaw19_RelocValues.f (k : Nat) (a0_0 : Int) (a0_1 : Int) (a0_2 : Int) (a0_3 : Int) (a1 : Int) (a2_0 : Int) (a2_1 : Int) (a2_2 : Int) (a2_3 : Int) (a2_4 : Bool) (a2_5 : Int) : Option (Bool) := (shacklelaw19_up.f k).bind fun t154 => ((reloc_Value.f k a0_0 a0_1 a0_2 a0_3 a1 a2_0 a2_1 a2_2 a2_3 a2_4 a2_5).bind fun bt155 => ((shackleref19_Value.f k a0_0 a0_1 a0_2 a0_3 a1 a2_0 a2_1 a2_2 a2_3 a2_4 a2_5).bind fun bt158 => (if t154 = true then (if bt155.1 = bt158.1 then (if bt155.2.1 = bt158.2.1 then ((shacklelaw00_Code.f bt155.2.2).bind fun t161 => (some (t161 == bt158.2.2))) else (some false)) else (some false)) else (some false))))
theorem shacklelaw19_RelocValues.mono : ∀ a0 a1 a2 a3 a4 a5 a6 a7 a8 a9 a10 k, LeO (shacklelaw19_RelocValues.f k a0 a1 a2 a3 a4 a5 a6 a7 a8 a9 a10) (shacklelaw19_RelocValues.f (k + 1) a0 a1 a2 a3 a4 a5 a6 a7 a8 a9 a10) := by
  intro a0 a1 a2 a3 a4 a5 a6 a7 a8 a9 a10 k
  unfold shacklelaw19_RelocValues.f
  repeat' first
      | (with_reducible exact reloc_Value.mono _ _ _ _ _ _ _ _ _ _ _ _)
      | (with_reducible exact shacklelaw19_up.mono _)
      | (with_reducible exact shackleref19_Value.mono _ _ _ _ _ _ _ _ _ _ _ _)
      | (with_reducible exact LeO.refl _)
      | (with_reducible exact LeO.none _)
      | (with_reducible refine LeO.ite ?_ ?_)
      | (with_reducible refine LeO.bind ?_ (fun _ => ?_))
      | exact reloc_Value.mono _ _ _ _ _ _ _ _ _ _ _ _
      | exact shacklelaw19_up.mono _
      | exact shackleref19_Value.mono _ _ _ _ _ _ _ _ _ _ _ _
      | exact LeO.none _
      | refine LeO.ite ?_ ?_
      | refine LeO.bind ?_ (fun _ => ?_)
set_option maxHeartbeats 8000000 in
set_option maxRecDepth 100000 in
theorem shacklelaw19_RelocValues.calls (k : Nat) (a0_0 : Int) (a0_1 : Int) (a0_2 : Int) (a0_3 : Int) (a1 : Int) (a2_0 : Int) (a2_1 : Int) (a2_2 : Int) (a2_3 : Int) (a2_4 : Bool) (a2_5 : Int) (r : Bool) (w : World) (h : shacklelaw19_RelocValues.f k a0_0 a0_1 a0_2 a0_3 a1 a2_0 a2_1 a2_2 a2_3 a2_4 a2_5 = some r) :
    Calls Try.prog 3 #[.agg #[.int .u64 a0_0, .int .i64 a0_1, .int .i64 a0_2, .int .i64 a0_3], .int .u64 a1, .agg #[.int .u64 a2_0, .int .u64 a2_1, .int .i64 a2_2, .int .u64 a2_3, .bool a2_4, .int .u64 a2_5]] w fun e w' => e = .returned (.bool r) ∧ Below w.heap.size w w' := by
  have hu24 := Try.underlying24
  have hu26 := Try.underlying26
  have HB := Aside0.mk (Below.refl w.heap.size w)
  have H : ((shacklelaw19_up.f k).bind fun t154 => ((reloc_Value.f k a0_0 a0_1 a0_2 a0_3 a1 a2_0 a2_1 a2_2 a2_3 a2_4 a2_5).bind fun bt155 => ((shackleref19_Value.f k a0_0 a0_1 a0_2 a0_3 a1 a2_0 a2_1 a2_2 a2_3 a2_4 a2_5).bind fun bt158 => (if t154 = true then (if bt155.1 = bt158.1 then (if bt155.2.1 = bt158.2.1 then ((shacklelaw00_Code.f bt155.2.2).bind fun t161 => (some (t161 == bt158.2.2))) else (some false)) else (some false)) else (some false))))) = some r := h
  clear h
  replace H := Option.bind_eq_some_iff.mp H
  obtain ⟨t154, A40, H⟩ := H
  replace H : ((reloc_Value.f k a0_0 a0_1 a0_2 a0_3 a1 a2_0 a2_1 a2_2 a2_3 a2_4 a2_5).bind fun bt155 => ((shackleref19_Value.f k a0_0 a0_1 a0_2 a0_3 a1 a2_0 a2_1 a2_2 a2_3 a2_4 a2_5).bind fun bt158 => (if t154 = true then (if bt155.1 = bt158.1 then (if bt155.2.1 = bt158.2.1 then ((shacklelaw00_Code.f bt155.2.2).bind fun t161 => (some (t161 == bt158.2.2))) else (some false)) else (some false)) else (some false)))) = some r := H
  have A4 := Aside0.mk A40
  clear A40
  replace H := Option.bind_eq_some_iff.mp H
  obtain ⟨⟨t155, t156, t157⟩, A50, H⟩ := H
  replace H : ((shackleref19_Value.f k a0_0 a0_1 a0_2 a0_3 a1 a2_0 a2_1 a2_2 a2_3 a2_4 a2_5).bind fun bt158 => (if t154 = true then (if t155 = bt158.1 then (if t156 = bt158.2.1 then ((shacklelaw00_Code.f t157).bind fun t161 => (some (t161 == bt158.2.2))) else (some false)) else (some false)) else (some false))) = some r := H
  have A5 := Aside0.mk A50
  clear A50
  replace H := Option.bind_eq_some_iff.mp H
  obtain ⟨⟨t158, t159, t160⟩, A60, H⟩ := H
  replace H : (if t154 = true then (if t155 = t158 then (if t156 = t159 then ((shacklelaw00_Code.f t157).bind fun t161 => (some (t161 == t160))) else (some false)) else (some false)) else (some false)) = some r := H
  have A6 := Aside0.mk A60
  clear A60
  by_cases c7 : t154 = true
  · subst c7
    have H1 : (if t155 = t158 then (if t156 = t159 then ((shacklelaw00_Code.f t157).bind fun t161 => (some (t161 == t160))) else (some false)) else (some false)) = some r := by rw [if_pos rfl] at H; exact H
    clear H
    have H := H1
    clear H1
    by_cases c8 : t155 = t158
    · rw [if_pos c8] at H
      have c8b0 : (t155 == t158) = true := beq_iff_eq.mpr c8
      have c8b1 : (t155 != t158) = false := bne_eq_false_iff_eq.mpr c8
      clear c8
      by_cases c9 : t156 = t159
      · rw [if_pos c9] at H
        have c9b0 : (t156 == t159) = true := beq_iff_eq.mpr c9
        have c9b1 : (t156 != t159) = false := bne_eq_false_iff_eq.mpr c9
        clear c9
        replace H := Option.bind_eq_some_iff.mp H
        obtain ⟨t161, A100, H⟩ := H
        replace H : (some (t161 == t160)) = some r := H
        have A10 := Aside0.mk A100
        clear A100
        obtain rfl := Option.some.inj H
        go_enter Try.func3, Try.ntmps3
        go_wp2_with (first | ((with_reducible refine gate_dst (N := 3) rfl ?_); refine box_event ?hg (N := 3) ?hd (cs := #[.int .u64 a0_0, .int .i64 a0_1, .int .i64 a0_2, .int .i64 a0_3]) (t := 24) ?hr ?_; (case hd => rfl); (case hg => rfl); (case hr => first | (go_simp; done) | (go_simp; rfl)); intro gb152 hg w11 hbox hb; have n0_ := Aside0.mk (below_step (by repeat (first | (with_reducible first | exact HB.out | apply below_alloc | apply pw_below_drewN | apply below_drew1) | exact HB.out)) hb); have n1_ := Aside0.mk (hbox); have n2_ := Aside0.mk ((by rw [hg]; exact (below_size (by repeat (first | (with_reducible first | exact HB.out | apply below_alloc | apply pw_below_drewN | apply below_drew1) | exact HB.out))) : w.heap.size ≤ gb152)); have n3_ := Aside0.mk ((by rw [hg]; exact (below_size (by repeat (first | (with_reducible first | exact HB.out | apply below_alloc | apply pw_below_drewN | apply below_drew1) | exact HB.out))) : w.heap.size ≤ gb152)); clear HB; have HB := n0_; have BK152 := n1_; have GW152 := n2_; have GE152 := n3_; clear n0_ n1_ n2_ n3_; clear hb hbox hg) | ((with_reducible refine gate_dst (N := 5) rfl ?_); refine box_event ?hg (N := 5) ?hd (cs := #[.int .u64 a2_0, .int .u64 a2_1, .int .i64 a2_2, .int .u64 a2_3, .bool a2_4, .int .u64 a2_5]) (t := 26) ?hr ?_; (case hd => rfl); (case hg => rfl); (case hr => first | (go_simp; done) | (go_simp; rfl)); intro gb153 hg w12 hbox hb; have n0_ := Aside0.mk (blk_below (g := gb152) (o := .cells #[.int .u64 a0_0, .int .i64 a0_1, .int .i64 a0_2, .int .i64 a0_3] 24 (0, 0)) (by (with_reducible repeat (first | refine blk_drewN ?_ _ | refine blk_drew ?_ | refine blk_alloc ?_ _)); exact BK152.out) hb); have n1_ := Aside0.mk (below_step (by repeat (first | (with_reducible first | exact HB.out | apply below_alloc | apply pw_below_drewN | apply below_drew1 | refine below_set ?_ GE152.out) | exact HB.out)) hb); have n2_ := Aside0.mk (hbox); have n3_ := Aside0.mk ((by rw [hg]; exact (below_size (by repeat (first | (with_reducible first | exact HB.out | apply below_alloc | apply pw_below_drewN | apply below_drew1 | refine below_set ?_ GE152.out) | exact HB.out))) : w.heap.size ≤ gb153)); have n4_ := Aside0.mk ((by rw [hg]; exact (below_size (by repeat (first | (with_reducible first | exact HB.out | apply below_alloc | apply pw_below_drewN | apply below_drew1 | refine below_set ?_ GE152.out) | exact HB.out))) : w.heap.size ≤ gb153)); have n5_ := Aside0.mk ((by rw [hg]; exact Nat.ne_of_lt (blk_lt (g := gb152) (o := .cells #[.int .u64 a0_0, .int .i64 a0_1, .int .i64 a0_2, .int .i64 a0_3] 24 (0, 0)) (by (with_reducible repeat (first | refine blk_drewN ?_ _ | refine blk_drew ?_ | refine blk_alloc ?_ _)); exact BK152.out)) : gb152 ≠ gb153)); have n6_ := Aside0.mk ((by rw [hg]; exact Nat.ne_of_gt (blk_lt (g := gb152) (o := .cells #[.int .u64 a0_0, .int .i64 a0_1, .int .i64 a0_2, .int .i64 a0_3] 24 (0, 0)) (by (with_reducible repeat (first | refine blk_drewN ?_ _ | refine blk_drew ?_ | refine blk_alloc ?_ _)); exact BK152.out)) : gb153 ≠ gb152)); clear BK152; clear HB; have BK152 := n0_; have HB := n1_; have BK153 := n2_; have GW153 := n3_; have GE153 := n4_; have NB152_153 := n5_; have NB153_152 := n6_; clear n0_ n1_ n2_ n3_ n4_ n5_ n6_; clear hb hbox hg) | ((with_reducible refine gate_callee (f := 14) rfl ?_); refine goesL_ (some 14) rfl rfl Try.func14 (by kernel_rfl) rfl #[] rfl (by (try simp only [List.map_toArray, List.map_cons, List.map_nil]); first | done | rfl | (simp only [List.length_drop, List.length_take]; rfl)) ?_; (with_reducible refine (shacklelaw19_up.calls k  true _ A4.out).mono ?_); rintro e w13 ⟨rfl, hb⟩; refine ⟨_, rfl, ?_⟩; have n0_ := Aside0.mk (blk_below (g := gb152) (o := .cells #[.int .u64 a0_0, .int .i64 a0_1, .int .i64 a0_2, .int .i64 a0_3] 24 (0, 0)) (by (with_reducible repeat (first | refine blk_drewN ?_ _ | refine blk_drew ?_ | refine blk_alloc ?_ _)); exact BK152.out) hb); have n1_ := Aside0.mk (blk_below (g := gb153) (o := .cells #[.int .u64 a2_0, .int .u64 a2_1, .int .i64 a2_2, .int .u64 a2_3, .bool a2_4, .int .u64 a2_5] 26 (0, 0)) (by (with_reducible repeat (first | refine blk_drewN ?_ _ | refine blk_drew ?_ | refine blk_alloc ?_ _)); exact BK153.out) hb); have n2_ := Aside0.mk (below_step (by repeat (first | (with_reducible first | exact HB.out | apply below_alloc | apply pw_below_drewN | apply below_drew1 | refine below_set ?_ GE152.out | refine below_set ?_ GE153.out) | exact HB.out)) hb); clear BK152; clear BK153; clear HB; have BK152 := n0_; have BK153 := n1_; have HB := n2_; clear n0_ n1_ n2_; (try clear hb); (try clear hb2); (try clear hk); (try clear hi); have hnb14 := NB152_153.out; have hnc14 := NB153_152.out; have hcz15_0 : w13.cell? ⟨gb152, 0, none⟩ = some (.int .u64 a0_0) := (blk_cell BK152.out 0).trans rfl; have hcz15_1 : w13.cell? ⟨gb152, 1, none⟩ = some (.int .i64 a0_1) := (blk_cell BK152.out 1).trans rfl; have hcz15_2 : w13.cell? ⟨gb152, 2, none⟩ = some (.int .i64 a0_2) := (blk_cell BK152.out 2).trans rfl; have hcz15_3 : w13.cell? ⟨gb152, 3, none⟩ = some (.int .i64 a0_3) := (blk_cell BK152.out 3).trans rfl; have hfz15_0 := blk_frozen BK152.out 0; have hfz15_1 := blk_frozen BK152.out 1; have hfz15_2 := blk_frozen BK152.out 2; have hfz15_3 := blk_frozen BK152.out 3; have hcz16_0 : w13.cell? ⟨gb153, 0, none⟩ = some (.int .u64 a2_0) := (blk_cell BK153.out 0).trans rfl; have hcz16_1 : w13.cell? ⟨gb153, 1, none⟩ = some (.int .u64 a2_1) := (blk_cell BK153.out 1).trans rfl; have hcz16_2 : w13.cell? ⟨gb153, 2, none⟩ = some (.int .i64 a2_2) := (blk_cell BK153.out 2).trans rfl; have hcz16_3 : w13.cell? ⟨gb153, 3, none⟩ = some (.int .u64 a2_3) := (blk_cell BK153.out 3).trans rfl; have hcz16_4 : w13.cell? ⟨gb153, 4, none⟩ = some (.bool a2_4) := (blk_cell BK153.out 4).trans rfl; have hcz16_5 : w13.cell? ⟨gb153, 5, none⟩ = some (.int .u64 a2_5) := (blk_cell BK153.out 5).trans rfl; have hfz16_0 := blk_frozen BK153.out 0; have hfz16_1 := blk_frozen BK153.out 1; have hfz16_2 := blk_frozen BK153.out 2; have hfz16_3 := blk_frozen BK153.out 3; have hfz16_4 := blk_frozen BK153.out 4; have hfz16_5 := blk_frozen BK153.out 5) | ((with_reducible refine gate_callee (f := 15) rfl ?_); refine goesL_ (some 19) rfl rfl Try.func15 (by kernel_rfl) rfl #[.agg #[.int .u64 a0_0, .int .i64 a0_1, .int .i64 a0_2, .int .i64 a0_3], .int .u64 a1, .agg #[.int .u64 a2_0, .int .u64 a2_1, .int .i64 a2_2, .int .u64 a2_3, .bool a2_4, .int .u64 a2_5]] rfl (by (try simp only [List.map_toArray, List.map_cons, List.map_nil]); first | done | rfl | (simp only [List.length_drop, List.length_take]; rfl)) ?_; (with_reducible refine (reloc_Value.calls k a0_0 a0_1 a0_2 a0_3 a1 a2_0 a2_1 a2_2 a2_3 a2_4 a2_5 t155 t156 t157 _ A5.out).mono ?_); rintro e w17 ⟨rfl, hb⟩; refine ⟨_, rfl, ?_⟩; have n0_ := Aside0.mk (blk_below (g := gb152) (o := .cells #[.int .u64 a0_0, .int .i64 a0_1, .int .i64 a0_2, .int .i64 a0_3] 24 (0, 0)) (by (with_reducible repeat (first | refine blk_drewN ?_ _ | refine blk_drew ?_ | refine blk_alloc ?_ _)); exact BK152.out) hb); have n1_ := Aside0.mk (blk_below (g := gb153) (o := .cells #[.int .u64 a2_0, .int .u64 a2_1, .int .i64 a2_2, .int .u64 a2_3, .bool a2_4, .int .u64 a2_5] 26 (0, 0)) (by (with_reducible repeat (first | refine blk_drewN ?_ _ | refine blk_drew ?_ | refine blk_alloc ?_ _)); exact BK153.out) hb); have n2_ := Aside0.mk (below_step (by repeat (first | (with_reducible first | exact HB.out | apply below_alloc | apply pw_below_drewN | apply below_drew1 | refine below_set ?_ GE152.out | refine below_set ?_ GE153.out) | exact HB.out)) hb); clear BK152; clear BK153; clear HB; have BK152 := n0_; have BK153 := n1_; have HB := n2_; clear n0_ n1_ n2_; (try clear hb); (try clear hb2); (try clear hk); (try clear hi); (try simp only [errW_none, errW_some]); have hcz18_0 : w17.cell? ⟨gb152, 0, none⟩ = some (.int .u64 a0_0) := (blk_cell BK152.out 0).trans rfl; have hcz18_1 : w17.cell? ⟨gb152, 1, none⟩ = some (.int .i64 a0_1) := (blk_cell BK152.out 1).trans rfl; have hcz18_2 : w17.cell? ⟨gb152, 2, none⟩ = some (.int .i64 a0_2) := (blk_cell BK152.out 2).trans rfl; have hcz18_3 : w17.cell? ⟨gb152, 3, none⟩ = some (.int .i64 a0_3) := (blk_cell BK152.out 3).trans rfl; have hfz18_0 := blk_frozen BK152.out 0; have hfz18_1 := blk_frozen BK152.out 1; have hfz18_2 := blk_frozen BK152.out 2; have hfz18_3 := blk_frozen BK152.out 3; have hcz19_0 : w17.cell? ⟨gb153, 0, none⟩ = some (.int .u64 a2_0) := (blk_cell BK153.out 0).trans rfl; have hcz19_1 : w17.cell? ⟨gb153, 1, none⟩ = some (.int .u64 a2_1) := (blk_cell BK153.out 1).trans rfl; have hcz19_2 : w17.cell? ⟨gb153, 2, none⟩ = some (.int .i64 a2_2) := (blk_cell BK153.out 2).trans rfl; have hcz19_3 : w17.cell? ⟨gb153, 3, none⟩ = some (.int .u64 a2_3) := (blk_cell BK153.out 3).trans rfl; have hcz19_4 : w17.cell? ⟨gb153, 4, none⟩ = some (.bool a2_4) := (blk_cell BK153.out 4).trans rfl; have hcz19_5 : w17.cell? ⟨gb153, 5, none⟩ = some (.int .u64 a2_5) := (blk_cell BK153.out 5).trans rfl; have hfz19_0 := blk_frozen BK153.out 0; have hfz19_1 := blk_frozen BK153.out 1; have hfz19_2 := blk_frozen BK153.out 2; have hfz19_3 := blk_frozen BK153.out 3; have hfz19_4 := blk_frozen BK153.out 4; have hfz19_5 := blk_frozen BK153.out 5) | ((with_reducible refine gate_callee (f := 16) rfl ?_); refine goesL_ (some 27) rfl rfl Try.func16 (by kernel_rfl) rfl #[.agg #[.int .u64 a0_0, .int .i64 a0_1, .int .i64 a0_2, .int .i64 a0_3], .int .u64 a1, .agg #[.int .u64 a2_0, .int .u64 a2_1, .int .i64 a2_2, .int .u64 a2_3, .bool a2_4, .int .u64 a2_5]] rfl (by (try simp only [List.map_toArray, List.map_cons, List.map_nil]); first | done | rfl | (simp only [List.length_drop, List.length_take]; rfl)) ?_; (with_reducible refine (shackleref19_Value.calls k a0_0 a0_1 a0_2 a0_3 a1 a2_0 a2_1 a2_2 a2_3 a2_4 a2_5 t158 t159 t160 _ A6.out).mono ?_); rintro e w20 ⟨rfl, hb⟩; refine ⟨_, rfl, ?_⟩; have n0_ := Aside0.mk (blk_below (g := gb152) (o := .cells #[.int .u64 a0_0, .int .i64 a0_1, .int .i64 a0_2, .int .i64 a0_3] 24 (0, 0)) (by (with_reducible repeat (first | refine blk_drewN ?_ _ | refine blk_drew ?_ | refine blk_alloc ?_ _)); exact BK152.out) hb); have n1_ := Aside0.mk (blk_below (g := gb153) (o := .cells #[.int .u64 a2_0, .int .u64 a2_1, .int .i64 a2_2, .int .u64 a2_3, .bool a2_4, .int .u64 a2_5] 26 (0, 0)) (by (with_reducible repeat (first | refine blk_drewN ?_ _ | refine blk_drew ?_ | refine blk_alloc ?_ _)); exact BK153.out) hb); have n2_ := Aside0.mk (below_step (by repeat (first | (with_reducible first | exact HB.out | apply below_alloc | apply pw_below_drewN | apply below_drew1 | refine below_set ?_ GE152.out | refine below_set ?_ GE153.out) | exact HB.out)) hb); clear BK152; clear BK153; clear HB; have BK152 := n0_; have BK153 := n1_; have HB := n2_; clear n0_ n1_ n2_; (try clear hb); (try clear hb2); (try clear hk); (try clear hi); have CA10 := fun W => shacklelaw00_Code.calls t157 t161 W A10.out; try simp only [errW_none, errW_some] at CA10) | (go_at_call 17; (with_reducible refine (CA10 _).mono ?_); rintro e w' ⟨rfl, ⟨nd, rfl⟩⟩))
        go_ret
        exact ⟨by first | rfl | (simp [errW_none, errW_some] <;> rfl) | (simp [*, errW_none, errW_some] <;> rfl), by repeat (first | (with_reducible first | exact HB.out | apply below_alloc | apply pw_below_drewN | apply below_drew1 | refine below_set ?_ GE152.out | refine below_set ?_ GE153.out) | exact HB.out)⟩
      · rw [if_neg c9] at H
        have c9b0 : (t156 == t159) = false := beq_eq_false_iff_ne.mpr c9
        have c9b1 : (t156 != t159) = true := bne_iff_ne.mpr c9
        obtain rfl := Option.some.inj H
        go_enter Try.func3, Try.ntmps3
        go_wp2_with (first | ((with_reducible refine gate_dst (N := 3) rfl ?_); refine box_event ?hg (N := 3) ?hd (cs := #[.int .u64 a0_0, .int .i64 a0_1, .int .i64 a0_2, .int .i64 a0_3]) (t := 24) ?hr ?_; (case hd => rfl); (case hg => rfl); (case hr => first | (go_simp; done) | (go_simp; rfl)); intro gb152 hg w21 hbox hb; have n0_ := Aside0.mk (below_step (by repeat (first | (with_reducible first | exact HB.out | apply below_alloc | apply pw_below_drewN | apply below_drew1) | exact HB.out)) hb); have n1_ := Aside0.mk (hbox); have n2_ := Aside0.mk ((by rw [hg]; exact (below_size (by repeat (first | (with_reducible first | exact HB.out | apply below_alloc | apply pw_below_drewN | apply below_drew1) | exact HB.out))) : w.heap.size ≤ gb152)); have n3_ := Aside0.mk ((by rw [hg]; exact (below_size (by repeat (first | (with_reducible first | exact HB.out | apply below_alloc | apply pw_below_drewN | apply below_drew1) | exact HB.out))) : w.heap.size ≤ gb152)); clear HB; have HB := n0_; have BK152 := n1_; have GW152 := n2_; have GE152 := n3_; clear n0_ n1_ n2_ n3_; clear hb hbox hg) | ((with_reducible refine gate_dst (N := 5) rfl ?_); refine box_event ?hg (N := 5) ?hd (cs := #[.int .u64 a2_0, .int .u64 a2_1, .int .i64 a2_2, .int .u64 a2_3, .bool a2_4, .int .u64 a2_5]) (t := 26) ?hr ?_; (case hd => rfl); (case hg => rfl); (case hr => first | (go_simp; done) | (go_simp; rfl)); intro gb153 hg w22 hbox hb; have n0_ := Aside0.mk (blk_below (g := gb152) (o := .cells #[.int .u64 a0_0, .int .i64 a0_1, .int .i64 a0_2, .int .i64 a0_3] 24 (0, 0)) (by (with_reducible repeat (first | refine blk_drewN ?_ _ | refine blk_drew ?_ | refine blk_alloc ?_ _)); exact BK152.out) hb); have n1_ := Aside0.mk (below_step (by repeat (first | (with_reducible first | exact HB.out | apply below_alloc | apply pw_below_drewN | apply below_drew1 | refine below_set ?_ GE152.out) | exact HB.out)) hb); have n2_ := Aside0.mk (hbox); have n3_ := Aside0.mk ((by rw [hg]; exact (below_size (by repeat (first | (with_reducible first | exact HB.out | apply below_alloc | apply pw_below_drewN | apply below_drew1 | refine below_set ?_ GE152.out) | exact HB.out))) : w.heap.size ≤ gb153)); have n4_ := Aside0.mk ((by rw [hg]; exact (below_size (by repeat (first | (with_reducible first | exact HB.out | apply below_alloc | apply pw_below_drewN | apply below_drew1 | refine below_set ?_ GE152.out) | exact HB.out))) : w.heap.size ≤ gb153)); have n5_ := Aside0.mk ((by rw [hg]; exact Nat.ne_of_lt (blk_lt (g := gb152) (o := .cells #[.int .u64 a0_0, .int .i64 a0_1, .int .i64 a0_2, .int .i64 a0_3] 24 (0, 0)) (by (with_reducible repeat (first | refine blk_drewN ?_ _ | refine blk_drew ?_ | refine blk_alloc ?_ _)); exact BK152.out)) : gb152 ≠ gb153)); have n6_ := Aside0.mk ((by rw [hg]; exact Nat.ne_of_gt (blk_lt (g := gb152) (o := .cells #[.int .u64 a0_0, .int .i64 a0_1, .int .i64 a0_2, .int .i64 a0_3] 24 (0, 0)) (by (with_reducible repeat (first | refine blk_drewN ?_ _ | refine blk_drew ?_ | refine blk_alloc ?_ _)); exact BK152.out)) : gb153 ≠ gb152)); clear BK152; clear HB; have BK152 := n0_; have HB := n1_; have BK153 := n2_; have GW153 := n3_; have GE153 := n4_; have NB152_153 := n5_; have NB153_152 := n6_; clear n0_ n1_ n2_ n3_ n4_ n5_ n6_; clear hb hbox hg) | ((with_reducible refine gate_callee (f := 14) rfl ?_); refine goesL_ (some 14) rfl rfl Try.func14 (by kernel_rfl) rfl #[] rfl (by (try simp only [List.map_toArray, List.map_cons, List.map_nil]); first | done | rfl | (simp only [List.length_drop, List.length_take]; rfl)) ?_; (with_reducible refine (shacklelaw19_up.calls k  true _ A4.out).mono ?_); rintro e w23 ⟨rfl, hb⟩; refine ⟨_, rfl, ?_⟩; have n0_ := Aside0.mk (blk_below (g := gb152) (o := .cells #[.int .u64 a0_0, .int .i64 a0_1, .int .i64 a0_2, .int .i64 a0_3] 24 (0, 0)) (by (with_reducible repeat (first | refine blk_drewN ?_ _ | refine blk_drew ?_ | refine blk_alloc ?_ _)); exact BK152.out) hb); have n1_ := Aside0.mk (blk_below (g := gb153) (o := .cells #[.int .u64 a2_0, .int .u64 a2_1, .int .i64 a2_2, .int .u64 a2_3, .bool a2_4, .int .u64 a2_5] 26 (0, 0)) (by (with_reducible repeat (first | refine blk_drewN ?_ _ | refine blk_drew ?_ | refine blk_alloc ?_ _)); exact BK153.out) hb); have n2_ := Aside0.mk (below_step (by repeat (first | (with_reducible first | exact HB.out | apply below_alloc | apply pw_below_drewN | apply below_drew1 | refine below_set ?_ GE152.out | refine below_set ?_ GE153.out) | exact HB.out)) hb); clear BK152; clear BK153; clear HB; have BK152 := n0_; have BK153 := n1_; have HB := n2_; clear n0_ n1_ n2_; (try clear hb); (try clear hb2); (try clear hk); (try clear hi); have hnb24 := NB152_153.out; have hnc24 := NB153_152.out; have hcz25_0 : w23.cell? ⟨gb152, 0, none⟩ = some (.int .u64 a0_0) := (blk_cell BK152.out 0).trans rfl; have hcz25_1 : w23.cell? ⟨gb152, 1, none⟩ = some (.int .i64 a0_1) := (blk_cell BK152.out 1).trans rfl; have hcz25_2 : w23.cell? ⟨gb152, 2, none⟩ = some (.int .i64 a0_2) := (blk_cell BK152.out 2).trans rfl; have hcz25_3 : w23.cell? ⟨gb152, 3, none⟩ = some (.int .i64 a0_3) := (blk_cell BK152.out 3).trans rfl; have hfz25_0 := blk_frozen BK152.out 0; have hfz25_1 := blk_frozen BK152.out 1; have hfz25_2 := blk_frozen BK152.out 2; have hfz25_3 := blk_frozen BK152.out 3; have hcz26_0 : w23.cell? ⟨gb153, 0, none⟩ = some (.int .u64 a2_0) := (blk_cell BK153.out 0).trans rfl; have hcz26_1 : w23.cell? ⟨gb153, 1, none⟩ = some (.int .u64 a2_1) := (blk_cell BK153.out 1).trans rfl; have hcz26_2 : w23.cell? ⟨gb153, 2, none⟩ = some (.int .i64 a2_2) := (blk_cell BK153.out 2).trans rfl; have hcz26_3 : w23.cell? ⟨gb153, 3, none⟩ = some (.int .u64 a2_3) := (blk_cell BK153.out 3).trans rfl; have hcz26_4 : w23.cell? ⟨gb153, 4, none⟩ = some (.bool a2_4) := (blk_cell BK153.out 4).trans rfl; have hcz26_5 : w23.cell? ⟨gb153, 5, none⟩ = some (.int .u64 a2_5) := (blk_cell BK153.out 5).trans rfl; have hfz26_0 := blk_frozen BK153.out 0; have hfz26_1 := blk_frozen BK153.out 1; have hfz26_2 := blk_frozen BK153.out 2; have hfz26_3 := blk_frozen BK153.out 3; have hfz26_4 := blk_frozen BK153.out 4; have hfz26_5 := blk_frozen BK153.out 5) | ((with_reducible refine gate_callee (f := 15) rfl ?_); refine goesL_ (some 19) rfl rfl Try.func15 (by kernel_rfl) rfl #[.agg #[.int .u64 a0_0, .int .i64 a0_1, .int .i64 a0_2, .int .i64 a0_3], .int .u64 a1, .agg #[.int .u64 a2_0, .int .u64 a2_1, .int .i64 a2_2, .int .u64 a2_3, .bool a2_4, .int .u64 a2_5]] rfl (by (try simp only [List.map_toArray, List.map_cons, List.map_nil]); first | done | rfl | (simp only [List.length_drop, List.length_take]; rfl)) ?_; (with_reducible refine (reloc_Value.calls k a0_0 a0_1 a0_2 a0_3 a1 a2_0 a2_1 a2_2 a2_3 a2_4 a2_5 t155 t156 t157 _ A5.out).mono ?_); rintro e w27 ⟨rfl, hb⟩; refine ⟨_, rfl, ?_⟩; have n0_ := Aside0.mk (blk_below (g := gb152) (o := .cells #[.int .u64 a0_0, .int .i64 a0_1, .int .i64 a0_2, .int .i64 a0_3] 24 (0, 0)) (by (with_reducible repeat (first | refine blk_drewN ?_ _ | refine blk_drew ?_ | refine blk_alloc ?_ _)); exact BK152.out) hb); have n1_ := Aside0.mk (blk_below (g := gb153) (o := .cells #[.int .u64 a2_0, .int .u64 a2_1, .int .i64 a2_2, .int .u64 a2_3, .bool a2_4, .int .u64 a2_5] 26 (0, 0)) (by (with_reducible repeat (first | refine blk_drewN ?_ _ | refine blk_drew ?_ | refine blk_alloc ?_ _)); exact BK153.out) hb); have n2_ := Aside0.mk (below_step (by repeat (first | (with_reducible first | exact HB.out | apply below_alloc | apply pw_below_drewN | apply below_drew1 | refine below_set ?_ GE152.out | refine below_set ?_ GE153.out) | exact HB.out)) hb); clear BK152; clear BK153; clear HB; have BK152 := n0_; have BK153 := n1_; have HB := n2_; clear n0_ n1_ n2_; (try clear hb); (try clear hb2); (try clear hk); (try clear hi); (try simp only [errW_none, errW_some]); have hcz28_0 : w27.cell? ⟨gb152, 0, none⟩ = some (.int .u64 a0_0) := (blk_cell BK152.out 0).trans rfl; have hcz28_1 : w27.cell? ⟨gb152, 1, none⟩ = some (.int .i64 a0_1) := (blk_cell BK152.out 1).trans rfl; have hcz28_2 : w27.cell? ⟨gb152, 2, none⟩ = some (.int .i64 a0_2) := (blk_cell BK152.out 2).trans rfl; have hcz28_3 : w27.cell? ⟨gb152, 3, none⟩ = some (.int .i64 a0_3) := (blk_cell BK152.out 3).trans rfl; have hfz28_0 := blk_frozen BK152.out 0; have hfz28_1 := blk_frozen BK152.out 1; have hfz28_2 := blk_frozen BK152.out 2; have hfz28_3 := blk_frozen BK152.out 3; have hcz29_0 : w27.cell? ⟨gb153, 0, none⟩ = some (.int .u64 a2_0) := (blk_cell BK153.out 0).trans rfl; have hcz29_1 : w27.cell? ⟨gb153, 1, none⟩ = some (.int .u64 a2_1) := (blk_cell BK153.out 1).trans rfl; have hcz29_2 : w27.cell? ⟨gb153, 2, none⟩ = some (.int .i64 a2_2) := (blk_cell BK153.out 2).trans rfl; have hcz29_3 : w27.cell? ⟨gb153, 3, none⟩ = some (.int .u64 a2_3) := (blk_cell BK153.out 3).trans rfl; have hcz29_4 : w27.cell? ⟨gb153, 4, none⟩ = some (.bool a2_4) := (blk_cell BK153.out 4).trans rfl; have hcz29_5 : w27.cell? ⟨gb153, 5, none⟩ = some (.int .u64 a2_5) := (blk_cell BK153.out 5).trans rfl; have hfz29_0 := blk_frozen BK153.out 0; have hfz29_1 := blk_frozen BK153.out 1; have hfz29_2 := blk_frozen BK153.out 2; have hfz29_3 := blk_frozen BK153.out 3; have hfz29_4 := blk_frozen BK153.out 4; have hfz29_5 := blk_frozen BK153.out 5) | ((with_reducible refine gate_callee (f := 16) rfl ?_); refine goesL_ (some 27) rfl rfl Try.func16 (by kernel_rfl) rfl #[.agg #[.int .u64 a0_0, .int .i64 a0_1, .int .i64 a0_2, .int .i64 a0_3], .int .u64 a1, .agg #[.int .u64 a2_0, .int .u64 a2_1, .int .i64 a2_2, .int .u64 a2_3, .bool a2_4, .int .u64 a2_5]] rfl (by (try simp only [List.map_toArray, List.map_cons, List.map_nil]); first | done | rfl | (simp only [List.length_drop, List.length_take]; rfl)) ?_; (with_reducible refine (shackleref19_Value.calls k a0_0 a0_1 a0_2 a0_3 a1 a2_0 a2_1 a2_2 a2_3 a2_4 a2_5 t158 t159 t160 _ A6.out).mono ?_); rintro e w30 ⟨rfl, hb⟩; refine ⟨_, rfl, ?_⟩; have n0_ := Aside0.mk (blk_below (g := gb152) (o := .cells #[.int .u64 a0_0, .int .i64 a0_1, .int .i64 a0_2, .int .i64 a0_3] 24 (0, 0)) (by (with_reducible repeat (first | refine blk_drewN ?_ _ | refine blk_drew ?_ | refine blk_alloc ?_ _)); exact BK152.out) hb); have n1_ := Aside0.mk (blk_below (g := gb153) (o := .cells #[.int .u64 a2_0, .int .u64 a2_1, .int .i64 a2_2, .int .u64 a2_3, .bool a2_4, .int .u64 a2_5] 26 (0, 0)) (by (with_reducible repeat (first | refine blk_drewN ?_ _ | refine blk_drew ?_ | refine blk_alloc ?_ _)); exact BK153.out) hb); have n2_ := Aside0.mk (below_step (by repeat (first | (with_reducible first | exact HB.out | apply below_alloc | apply pw_below_drewN | apply below_drew1 | refine below_set ?_ GE152.out | refine below_set ?_ GE153.out) | exact HB.out)) hb); clear BK152; clear BK153; clear HB; have BK152 := n0_; have BK153 := n1_; have HB := n2_; clear n0_ n1_ n2_; (try clear hb); (try clear hb2); (try clear hk); (try clear hi)))
        go_ret
        exact ⟨by first | rfl | (simp [errW_none, errW_some] <;> rfl) | (simp [*, errW_none, errW_some] <;> rfl), by repeat (first | (with_reducible first | exact HB.out | apply below_alloc | apply pw_below_drewN | apply below_drew1 | refine below_set ?_ GE152.out | refine below_set ?_ GE153.out) | exact HB.out)⟩
    · rw [if_neg c8] at H
      have c8b0 : (t155 == t158) = false := beq_eq_false_iff_ne.mpr c8
      have c8b1 : (t155 != t158) = true := bne_iff_ne.mpr c8
      obtain rfl := Option.some.inj H
      go_enter Try.func3, Try.ntmps3
      go_wp2_with (first | ((with_reducible refine gate_dst (N := 3) rfl ?_); refine box_event ?hg (N := 3) ?hd (cs := #[.int .u64 a0_0, .int .i64 a0_1, .int .i64 a0_2, .int .i64 a0_3]) (t := 24) ?hr ?_; (case hd => rfl); (case hg => rfl); (case hr => first | (go_simp; done) | (go_simp; rfl)); intro gb152 hg w31 hbox hb; have n0_ := Aside0.mk (below_step (by repeat (first | (with_reducible first | exact HB.out | apply below_alloc | apply pw_below_drewN | apply below_drew1) | exact HB.out)) hb); have n1_ := Aside0.mk (hbox); have n2_ := Aside0.mk ((by rw [hg]; exact (below_size (by repeat (first | (with_reducible first | exact HB.out | apply below_alloc | apply pw_below_drewN | apply below_drew1) | exact HB.out))) : w.heap.size ≤ gb152)); have n3_ := Aside0.mk ((by rw [hg]; exact (below_size (by repeat (first | (with_reducible first | exact HB.out | apply below_alloc | apply pw_below_drewN | apply below_drew1) | exact HB.out))) : w.heap.size ≤ gb152)); clear HB; have HB := n0_; have BK152 := n1_; have GW152 := n2_; have GE152 := n3_; clear n0_ n1_ n2_ n3_; clear hb hbox hg) | ((with_reducible refine gate_dst (N := 5) rfl ?_); refine box_event ?hg (N := 5) ?hd (cs := #[.int .u64 a2_0, .int .u64 a2_1, .int .i64 a2_2, .int .u64 a2_3, .bool a2_4, .int .u64 a2_5]) (t := 26) ?hr ?_; (case hd => rfl); (case hg => rfl); (case hr => first | (go_simp; done) | (go_simp; rfl)); intro gb153 hg w32 hbox hb; have n0_ := Aside0.mk (blk_below (g := gb152) (o := .cells #[.int .u64 a0_0, .int .i64 a0_1, .int .i64 a0_2, .int .i64 a0_3] 24 (0, 0)) (by (with_reducible repeat (first | refine blk_drewN ?_ _ | refine blk_drew ?_ | refine blk_alloc ?_ _)); exact BK152.out) hb); have n1_ := Aside0.mk (below_step (by repeat (first | (with_reducible first | exact HB.out | apply below_alloc | apply pw_below_drewN | apply below_drew1 | refine below_set ?_ GE152.out) | exact HB.out)) hb); have n2_ := Aside0.mk (hbox); have n3_ := Aside0.mk ((by rw [hg]; exact (below_size (by repeat (first | (with_reducible first | exact HB.out | apply below_alloc | apply pw_below_drewN | apply below_drew1 | refine below_set ?_ GE152.out) | exact HB.out))) : w.heap.size ≤ gb153)); have n4_ := Aside0.mk ((by rw [hg]; exact (below_size (by repeat (first | (with_reducible first | exact HB.out | apply below_alloc | apply pw_below_drewN | apply below_drew1 | refine below_set ?_ GE152.out) | exact HB.out))) : w.heap.size ≤ gb153)); have n5_ := Aside0.mk ((by rw [hg]; exact Nat.ne_of_lt (blk_lt (g := gb152) (o := .cells #[.int .u64 a0_0, .int .i64 a0_1, .int .i64 a0_2, .int .i64 a0_3] 24 (0, 0)) (by (with_reducible repeat (first | refine blk_drewN ?_ _ | refine blk_drew ?_ | refine blk_alloc ?_ _)); exact BK152.out)) : gb152 ≠ gb153)); have n6_ := Aside0.mk ((by rw [hg]; exact Nat.ne_of_gt (blk_lt (g := gb152) (o := .cells #[.int .u64 a0_0, .int .i64 a0_1, .int .i64 a0_2, .int .i64 a0_3] 24 (0, 0)) (by (with_reducible repeat (first | refine blk_drewN ?_ _ | refine blk_drew ?_ | refine blk_alloc ?_ _)); exact BK152.out)) : gb153 ≠ gb152)); clear BK152; clear HB; have BK152 := n0_; have HB := n1_; have BK153 := n2_; have GW153 := n3_; have GE153 := n4_; have NB152_153 := n5_; have NB153_152 := n6_; clear n0_ n1_ n2_ n3_ n4_ n5_ n6_; clear hb hbox hg) | ((with_reducible refine gate_callee (f := 14) rfl ?_); refine goesL_ (some 14) rfl rfl Try.func14 (by kernel_rfl) rfl #[] rfl (by (try simp only [List.map_toArray, List.map_cons, List.map_nil]); first | done | rfl | (simp only [List.length_drop, List.length_take]; rfl)) ?_; (with_reducible refine (shacklelaw19_up.calls k  true _ A4.out).mono ?_); rintro e w33 ⟨rfl, hb⟩; refine ⟨_, rfl, ?_⟩; have n0_ := Aside0.mk (blk_below (g := gb152) (o := .cells #[.int .u64 a0_0, .int .i64 a0_1, .int .i64 a0_2, .int .i64 a0_3] 24 (0, 0)) (by (with_reducible repeat (first | refine blk_drewN ?_ _ | refine blk_drew ?_ | refine blk_alloc ?_ _)); exact BK152.out) hb); have n1_ := Aside0.mk (blk_below (g := gb153) (o := .cells #[.int .u64 a2_0, .int .u64 a2_1, .int .i64 a2_2, .int .u64 a2_3, .bool a2_4, .int .u64 a2_5] 26 (0, 0)) (by (with_reducible repeat (first | refine blk_drewN ?_ _ | refine blk_drew ?_ | refine blk_alloc ?_ _)); exact BK153.out) hb); have n2_ := Aside0.mk (below_step (by repeat (first | (with_reducible first | exact HB.out | apply below_alloc | apply pw_below_drewN | apply below_drew1 | refine below_set ?_ GE152.out | refine below_set ?_ GE153.out) | exact HB.out)) hb); clear BK152; clear BK153; clear HB; have BK152 := n0_; have BK153 := n1_; have HB := n2_; clear n0_ n1_ n2_; (try clear hb); (try clear hb2); (try clear hk); (try clear hi); have hnb34 := NB152_153.out; have hnc34 := NB153_152.out; have hcz35_0 : w33.cell? ⟨gb152, 0, none⟩ = some (.int .u64 a0_0) := (blk_cell BK152.out 0).trans rfl; have hcz35_1 : w33.cell? ⟨gb152, 1, none⟩ = some (.int .i64 a0_1) := (blk_cell BK152.out 1).trans rfl; have hcz35_2 : w33.cell? ⟨gb152, 2, none⟩ = some (.int .i64 a0_2) := (blk_cell BK152.out 2).trans rfl; have hcz35_3 : w33.cell? ⟨gb152, 3, none⟩ = some (.int .i64 a0_3) := (blk_cell BK152.out 3).trans rfl; have hfz35_0 := blk_frozen BK152.out 0; have hfz35_1 := blk_frozen BK152.out 1; have hfz35_2 := blk_frozen BK152.out 2; have hfz35_3 := blk_frozen BK152.out 3; have hcz36_0 : w33.cell? ⟨gb153, 0, none⟩ = some (.int .u64 a2_0) := (blk_cell BK153.out 0).trans rfl; have hcz36_1 : w33.cell? ⟨gb153, 1, none⟩ = some (.int .u64 a2_1) := (blk_cell BK153.out 1).trans rfl; have hcz36_2 : w33.cell? ⟨gb153, 2, none⟩ = some (.int .i64 a2_2) := (blk_cell BK153.out 2).trans rfl; have hcz36_3 : w33.cell? ⟨gb153, 3, none⟩ = some (.int .u64 a2_3) := (blk_cell BK153.out 3).trans rfl; have hcz36_4 : w33.cell? ⟨gb153, 4, none⟩ = some (.bool a2_4) := (blk_cell BK153.out 4).trans rfl; have hcz36_5 : w33.cell? ⟨gb153, 5, none⟩ = some (.int .u64 a2_5) := (blk_cell BK153.out 5).trans rfl; have hfz36_0 := blk_frozen BK153.out 0; have hfz36_1 := blk_frozen BK153.out 1; have hfz36_2 := blk_frozen BK153.out 2; have hfz36_3 := blk_frozen BK153.out 3; have hfz36_4 := blk_frozen BK153.out 4; have hfz36_5 := blk_frozen BK153.out 5) | ((with_reducible refine gate_callee (f := 15) rfl ?_); refine goesL_ (some 19) rfl rfl Try.func15 (by kernel_rfl) rfl #[.agg #[.int .u64 a0_0, .int .i64 a0_1, .int .i64 a0_2, .int .i64 a0_3], .int .u64 a1, .agg #[.int .u64 a2_0, .int .u64 a2_1, .int .i64 a2_2, .int .u64 a2_3, .bool a2_4, .int .u64 a2_5]] rfl (by (try simp only [List.map_toArray, List.map_cons, List.map_nil]); first | done | rfl | (simp only [List.length_drop, List.length_take]; rfl)) ?_; (with_reducible refine (reloc_Value.calls k a0_0 a0_1 a0_2 a0_3 a1 a2_0 a2_1 a2_2 a2_3 a2_4 a2_5 t155 t156 t157 _ A5.out).mono ?_); rintro e w37 ⟨rfl, hb⟩; refine ⟨_, rfl, ?_⟩; have n0_ := Aside0.mk (blk_below (g := gb152) (o := .cells #[.int .u64 a0_0, .int .i64 a0_1, .int .i64 a0_2, .int .i64 a0_3] 24 (0, 0)) (by (with_reducible repeat (first | refine blk_drewN ?_ _ | refine blk_drew ?_ | refine blk_alloc ?_ _)); exact BK152.out) hb); have n1_ := Aside0.mk (blk_below (g := gb153) (o := .cells #[.int .u64 a2_0, .int .u64 a2_1, .int .i64 a2_2, .int .u64 a2_3, .bool a2_4, .int .u64 a2_5] 26 (0, 0)) (by (with_reducible repeat (first | refine blk_drewN ?_ _ | refine blk_drew ?_ | refine blk_alloc ?_ _)); exact BK153.out) hb); have n2_ := Aside0.mk (below_step (by repeat (first | (with_reducible first | exact HB.out | apply below_alloc | apply pw_below_drewN | apply below_drew1 | refine below_set ?_ GE152.out | refine below_set ?_ GE153.out) | exact HB.out)) hb); clear BK152; clear BK153; clear HB; have BK152 := n0_; have BK153 := n1_; have HB := n2_; clear n0_ n1_ n2_; (try clear hb); (try clear hb2); (try clear hk); (try clear hi); (try simp only [errW_none, errW_some]); have hcz38_0 : w37.cell? ⟨gb152, 0, none⟩ = some (.int .u64 a0_0) := (blk_cell BK152.out 0).trans rfl; have hcz38_1 : w37.cell? ⟨gb152, 1, none⟩ = some (.int .i64 a0_1) := (blk_cell BK152.out 1).trans rfl; have hcz38_2 : w37.cell? ⟨gb152, 2, none⟩ = some (.int .i64 a0_2) := (blk_cell BK152.out 2).trans rfl; have hcz38_3 : w37.cell? ⟨gb152, 3, none⟩ = some (.int .i64 a0_3) := (blk_cell BK152.out 3).trans rfl; have hfz38_0 := blk_frozen BK152.out 0; have hfz38_1 := blk_frozen BK152.out 1; have hfz38_2 := blk_frozen BK152.out 2; have hfz38_3 := blk_frozen BK152.out 3; have hcz39_0 : w37.cell? ⟨gb153, 0, none⟩ = some (.int .u64 a2_0) := (blk_cell BK153.out 0).trans rfl; have hcz39_1 : w37.cell? ⟨gb153, 1, none⟩ = some (.int .u64 a2_1) := (blk_cell BK153.out 1).trans rfl; have hcz39_2 : w37.cell? ⟨gb153, 2, none⟩ = some (.int .i64 a2_2) := (blk_cell BK153.out 2).trans rfl; have hcz39_3 : w37.cell? ⟨gb153, 3, none⟩ = some (.int .u64 a2_3) := (blk_cell BK153.out 3).trans rfl; have hcz39_4 : w37.cell? ⟨gb153, 4, none⟩ = some (.bool a2_4) := (blk_cell BK153.out 4).trans rfl; have hcz39_5 : w37.cell? ⟨gb153, 5, none⟩ = some (.int .u64 a2_5) := (blk_cell BK153.out 5).trans rfl; have hfz39_0 := blk_frozen BK153.out 0; have hfz39_1 := blk_frozen BK153.out 1; have hfz39_2 := blk_frozen BK153.out 2; have hfz39_3 := blk_frozen BK153.out 3; have hfz39_4 := blk_frozen BK153.out 4; have hfz39_5 := blk_frozen BK153.out 5) | ((with_reducible refine gate_callee (f := 16) rfl ?_); refine goesL_ (some 27) rfl rfl Try.func16 (by kernel_rfl) rfl #[.agg #[.int .u64 a0_0, .int .i64 a0_1, .int .i64 a0_2, .int .i64 a0_3], .int .u64 a1, .agg #[.int .u64 a2_0, .int .u64 a2_1, .int .i64 a2_2, .int .u64 a2_3, .bool a2_4, .int .u64 a2_5]] rfl (by (try simp only [List.map_toArray, List.map_cons, List.map_nil]); first | done | rfl | (simp only [List.length_drop, List.length_take]; rfl)) ?_; (with_reducible refine (shackleref19_Value.calls k a0_0 a0_1 a0_2 a0_3 a1 a2_0 a2_1 a2_2 a2_3 a2_4 a2_5 t158 t159 t160 _ A6.out).mono ?_); rintro e w40 ⟨rfl, hb⟩; refine ⟨_, rfl, ?_⟩; have n0_ := Aside0.mk (blk_below (g := gb152) (o := .cells #[.int .u64 a0_0, .int .i64 a0_1, .int .i64 a0_2, .int .i64 a0_3] 24 (0, 0)) (by (with_reducible repeat (first | refine blk_drewN ?_ _ | refine blk_drew ?_ | refine blk_alloc ?_ _)); exact BK152.out) hb); have n1_ := Aside0.mk (blk_below (g := gb153) (o := .cells #[.int .u64 a2_0, .int .u64 a2_1, .int .i64 a2_2, .int .u64 a2_3, .bool a2_4, .int .u64 a2_5] 26 (0, 0)) (by (with_reducible repeat (first | refine blk_drewN ?_ _ | refine blk_drew ?_ | refine blk_alloc ?_ _)); exact BK153.out) hb); have n2_ := Aside0.mk (below_step (by repeat (first | (with_reducible first | exact HB.out | apply below_alloc | apply pw_below_drewN | apply below_drew1 | refine below_set ?_ GE152.out | refine below_set ?_ GE153.out) | exact HB.out)) hb); clear BK152; clear BK153; clear HB; have BK152 := n0_; have BK153 := n1_; have HB := n2_; clear n0_ n1_ n2_; (try clear hb); (try clear hb2); (try clear hk); (try clear hi)))
      go_ret
      exact ⟨by first | rfl | (simp [errW_none, errW_some] <;> rfl) | (simp [*, errW_none, errW_some] <;> rfl), by repeat (first | (with_reducible first | exact HB.out | apply below_alloc | apply pw_below_drewN | apply below_drew1 | refine below_set ?_ GE152.out | refine below_set ?_ GE153.out) | exact HB.out)⟩
  · replace c7 := Bool.eq_false_iff.mpr c7
    subst c7
    have H1 : (some false) = some r := by rw [if_neg (show ¬ (false = true) by decide)] at H; exact H
    clear H
    have H := H1
    clear H1
    obtain rfl := Option.some.inj H
    go_enter Try.func3, Try.ntmps3
    go_wp2_with (first | ((with_reducible refine gate_dst (N := 3) rfl ?_); refine box_event ?hg (N := 3) ?hd (cs := #[.int .u64 a0_0, .int .i64 a0_1, .int .i64 a0_2, .int .i64 a0_3]) (t := 24) ?hr ?_; (case hd => rfl); (case hg => rfl); (case hr => first | (go_simp; done) | (go_simp; rfl)); intro gb152 hg w41 hbox hb; have n0_ := Aside0.mk (below_step (by repeat (first | (with_reducible first | exact HB.out | apply below_alloc | apply pw_below_drewN | apply below_drew1) | exact HB.out)) hb); have n1_ := Aside0.mk (hbox); have n2_ := Aside0.mk ((by rw [hg]; exact (below_size (by repeat (first | (with_reducible first | exact HB.out | apply below_alloc | apply pw_below_drewN | apply below_drew1) | exact HB.out))) : w.heap.size ≤ gb152)); have n3_ := Aside0.mk ((by rw [hg]; exact (below_size (by repeat (first | (with_reducible first | exact HB.out | apply below_alloc | apply pw_below_drewN | apply below_drew1) | exact HB.out))) : w.heap.size ≤ gb152)); clear HB; have HB := n0_; have BK152 := n1_; have GW152 := n2_; have GE152 := n3_; clear n0_ n1_ n2_ n3_; clear hb hbox hg) | ((with_reducible refine gate_dst (N := 5) rfl ?_); refine box_event ?hg (N := 5) ?hd (cs := #[.int .u64 a2_0, .int .u64 a2_1, .int .i64 a2_2, .int .u64 a2_3, .bool a2_4, .int .u64 a2_5]) (t := 26) ?hr ?_; (case hd => rfl); (case hg => rfl); (case hr => first | (go_simp; done) | (go_simp; rfl)); intro gb153 hg w42 hbox hb; have n0_ := Aside0.mk (blk_below (g := gb152) (o := .cells #[.int .u64 a0_0, .int .i64 a0_1, .int .i64 a0_2, .int .i64 a0_3] 24 (0, 0)) (by (with_reducible repeat (first | refine blk_drewN ?_ _ | refine blk_drew ?_ | refine blk_alloc ?_ _)); exact BK152.out) hb); have n1_ := Aside0.mk (below_step (by repeat (first | (with_reducible first | exact HB.out | apply below_alloc | apply pw_below_drewN | apply below_drew1 | refine below_set ?_ GE152.out) | exact HB.out)) hb); have n2_ := Aside0.mk (hbox); have n3_ := Aside0.mk ((by rw [hg]; exact (below_size (by repeat (first | (with_reducible first | exact HB.out | apply below_alloc | apply pw_below_drewN | apply below_drew1 | refine below_set ?_ GE152.out) | exact HB.out))) : w.heap.size ≤ gb153)); have n4_ := Aside0.mk ((by rw [hg]; exact (below_size (by repeat (first | (with_reducible first | exact HB.out | apply below_alloc | apply pw_below_drewN | apply below_drew1 | refine below_set ?_ GE152.out) | exact HB.out))) : w.heap.size ≤ gb153)); have n5_ := Aside0.mk ((by rw [hg]; exact Nat.ne_of_lt (blk_lt (g := gb152) (o := .cells #[.int .u64 a0_0, .int .i64 a0_1, .int .i64 a0_2, .int .i64 a0_3] 24 (0, 0)) (by (with_reducible repeat (first | refine blk_drewN ?_ _ | refine blk_drew ?_ | refine blk_alloc ?_ _)); exact BK152.out)) : gb152 ≠ gb153)); have n6_ := Aside0.mk ((by rw [hg]; exact Nat.ne_of_gt (blk_lt (g := gb152) (o := .cells #[.int .u64 a0_0, .int .i64 a0_1, .int .i64 a0_2, .int .i64 a0_3] 24 (0, 0)) (by (with_reducible repeat (first | refine blk_drewN ?_ _ | refine blk_drew ?_ | refine blk_alloc ?_ _)); exact BK152.out)) : gb153 ≠ gb152)); clear BK152; clear HB; have BK152 := n0_; have HB := n1_; have BK153 := n2_; have GW153 := n3_; have GE153 := n4_; have NB152_153 := n5_; have NB153_152 := n6_; clear n0_ n1_ n2_ n3_ n4_ n5_ n6_; clear hb hbox hg) | ((with_reducible refine gate_callee (f := 14) rfl ?_); refine goesL_ (some 14) rfl rfl Try.func14 (by kernel_rfl) rfl #[] rfl (by (try simp only [List.map_toArray, List.map_cons, List.map_nil]); first | done | rfl | (simp only [List.length_drop, List.length_take]; rfl)) ?_; (with_reducible refine (shacklelaw19_up.calls k  false _ A4.out).mono ?_); rintro e w43 ⟨rfl, hb⟩; refine ⟨_, rfl, ?_⟩; have n0_ := Aside0.mk (blk_below (g := gb152) (o := .cells #[.int .u64 a0_0, .int .i64 a0_1, .int .i64 a0_2, .int .i64 a0_3] 24 (0, 0)) (by (with_reducible repeat (first | refine blk_drewN ?_ _ | refine blk_drew ?_ | refine blk_alloc ?_ _)); exact BK152.out) hb); have n1_ := Aside0.mk (blk_below (g := gb153) (o := .cells #[.int .u64 a2_0, .int .u64 a2_1, .int .i64 a2_2, .int .u64 a2_3, .bool a2_4, .int .u64 a2_5] 26 (0, 0)) (by (with_reducible repeat (first | refine blk_drewN ?_ _ | refine blk_drew ?_ | refine blk_alloc ?_ _)); exact BK153.out) hb); have n2_ := Aside0.mk (below_step (by repeat (first | (with_reducible first | exact HB.out | apply below_alloc | apply pw_below_drewN | apply below_drew1 | refine below_set ?_ GE152.out | refine below_set ?_ GE153.out) | exact HB.out)) hb); clear BK152; clear BK153; clear HB; have BK152 := n0_; have BK153 := n1_; have HB := n2_; clear n0_ n1_ n2_; (try clear hb); (try clear hb2); (try clear hk); (try clear hi); have hnb44 := NB152_153.out; have hnc44 := NB153_152.out; have hcz45_0 : w43.cell? ⟨gb152, 0, none⟩ = some (.int .u64 a0_0) := (blk_cell BK152.out 0).trans rfl; have hcz45_1 : w43.cell? ⟨gb152, 1, none⟩ = some (.int .i64 a0_1) := (blk_cell BK152.out 1).trans rfl; have hcz45_2 : w43.cell? ⟨gb152, 2, none⟩ = some (.int .i64 a0_2) := (blk_cell BK152.out 2).trans rfl; have hcz45_3 : w43.cell? ⟨gb152, 3, none⟩ = some (.int .i64 a0_3) := (blk_cell BK152.out 3).trans rfl; have hfz45_0 := blk_frozen BK152.out 0; have hfz45_1 := blk_frozen BK152.out 1; have hfz45_2 := blk_frozen BK152.out 2; have hfz45_3 := blk_frozen BK152.out 3; have hcz46_0 : w43.cell? ⟨gb153, 0, none⟩ = some (.int .u64 a2_0) := (blk_cell BK153.out 0).trans rfl; have hcz46_1 : w43.cell? ⟨gb153, 1, none⟩ = some (.int .u64 a2_1) := (blk_cell BK153.out 1).trans rfl; have hcz46_2 : w43.cell? ⟨gb153, 2, none⟩ = some (.int .i64 a2_2) := (blk_cell BK153.out 2).trans rfl; have hcz46_3 : w43.cell? ⟨gb153, 3, none⟩ = some (.int .u64 a2_3) := (blk_cell BK153.out 3).trans rfl; have hcz46_4 : w43.cell? ⟨gb153, 4, none⟩ = some (.bool a2_4) := (blk_cell BK153.out 4).trans rfl; have hcz46_5 : w43.cell? ⟨gb153, 5, none⟩ = some (.int .u64 a2_5) := (blk_cell BK153.out 5).trans rfl; have hfz46_0 := blk_frozen BK153.out 0; have hfz46_1 := blk_frozen BK153.out 1; have hfz46_2 := blk_frozen BK153.out 2; have hfz46_3 := blk_frozen BK153.out 3; have hfz46_4 := blk_frozen BK153.out 4; have hfz46_5 := blk_frozen BK153.out 5) | ((with_reducible refine gate_callee (f := 15) rfl ?_); refine goesL_ (some 19) rfl rfl Try.func15 (by kernel_rfl) rfl #[.agg #[.int .u64 a0_0, .int .i64 a0_1, .int .i64 a0_2, .int .i64 a0_3], .int .u64 a1, .agg #[.int .u64 a2_0, .int .u64 a2_1, .int .i64 a2_2, .int .u64 a2_3, .bool a2_4, .int .u64 a2_5]] rfl (by (try simp only [List.map_toArray, List.map_cons, List.map_nil]); first | done | rfl | (simp only [List.length_drop, List.length_take]; rfl)) ?_; (with_reducible refine (reloc_Value.calls k a0_0 a0_1 a0_2 a0_3 a1 a2_0 a2_1 a2_2 a2_3 a2_4 a2_5 t155 t156 t157 _ A5.out).mono ?_); rintro e w47 ⟨rfl, hb⟩; refine ⟨_, rfl, ?_⟩; have n0_ := Aside0.mk (blk_below (g := gb152) (o := .cells #[.int .u64 a0_0, .int .i64 a0_1, .int .i64 a0_2, .int .i64 a0_3] 24 (0, 0)) (by (with_reducible repeat (first | refine blk_drewN ?_ _ | refine blk_drew ?_ | refine blk_alloc ?_ _)); exact BK152.out) hb); have n1_ := Aside0.mk (blk_below (g := gb153) (o := .cells #[.int .u64 a2_0, .int .u64 a2_1, .int .i64 a2_2, .int .u64 a2_3, .bool a2_4, .int .u64 a2_5] 26 (0, 0)) (by (with_reducible repeat (first | refine blk_drewN ?_ _ | refine blk_drew ?_ | refine blk_alloc ?_ _)); exact BK153.out) hb); have n2_ := Aside0.mk (below_step (by repeat (first | (with_reducible first | exact HB.out | apply below_alloc | apply pw_below_drewN | apply below_drew1 | refine below_set ?_ GE152.out | refine below_set ?_ GE153.out) | exact HB.out)) hb); clear BK152; clear BK153; clear HB; have BK152 := n0_; have BK153 := n1_; have HB := n2_; clear n0_ n1_ n2_; (try clear hb); (try clear hb2); (try clear hk); (try clear hi); (try simp only [errW_none, errW_some]); have hcz48_0 : w47.cell? ⟨gb152, 0, none⟩ = some (.int .u64 a0_0) := (blk_cell BK152.out 0).trans rfl; have hcz48_1 : w47.cell? ⟨gb152, 1, none⟩ = some (.int .i64 a0_1) := (blk_cell BK152.out 1).trans rfl; have hcz48_2 : w47.cell? ⟨gb152, 2, none⟩ = some (.int .i64 a0_2) := (blk_cell BK152.out 2).trans rfl; have hcz48_3 : w47.cell? ⟨gb152, 3, none⟩ = some (.int .i64 a0_3) := (blk_cell BK152.out 3).trans rfl; have hfz48_0 := blk_frozen BK152.out 0; have hfz48_1 := blk_frozen BK152.out 1; have hfz48_2 := blk_frozen BK152.out 2; have hfz48_3 := blk_frozen BK152.out 3; have hcz49_0 : w47.cell? ⟨gb153, 0, none⟩ = some (.int .u64 a2_0) := (blk_cell BK153.out 0).trans rfl; have hcz49_1 : w47.cell? ⟨gb153, 1, none⟩ = some (.int .u64 a2_1) := (blk_cell BK153.out 1).trans rfl; have hcz49_2 : w47.cell? ⟨gb153, 2, none⟩ = some (.int .i64 a2_2) := (blk_cell BK153.out 2).trans rfl; have hcz49_3 : w47.cell? ⟨gb153, 3, none⟩ = some (.int .u64 a2_3) := (blk_cell BK153.out 3).trans rfl; have hcz49_4 : w47.cell? ⟨gb153, 4, none⟩ = some (.bool a2_4) := (blk_cell BK153.out 4).trans rfl; have hcz49_5 : w47.cell? ⟨gb153, 5, none⟩ = some (.int .u64 a2_5) := (blk_cell BK153.out 5).trans rfl; have hfz49_0 := blk_frozen BK153.out 0; have hfz49_1 := blk_frozen BK153.out 1; have hfz49_2 := blk_frozen BK153.out 2; have hfz49_3 := blk_frozen BK153.out 3; have hfz49_4 := blk_frozen BK153.out 4; have hfz49_5 := blk_frozen BK153.out 5) | ((with_reducible refine gate_callee (f := 16) rfl ?_); refine goesL_ (some 27) rfl rfl Try.func16 (by kernel_rfl) rfl #[.agg #[.int .u64 a0_0, .int .i64 a0_1, .int .i64 a0_2, .int .i64 a0_3], .int .u64 a1, .agg #[.int .u64 a2_0, .int .u64 a2_1, .int .i64 a2_2, .int .u64 a2_3, .bool a2_4, .int .u64 a2_5]] rfl (by (try simp only [List.map_toArray, List.map_cons, List.map_nil]); first | done | rfl | (simp only [List.length_drop, List.length_take]; rfl)) ?_; (with_reducible refine (shackleref19_Value.calls k a0_0 a0_1 a0_2 a0_3 a1 a2_0 a2_1 a2_2 a2_3 a2_4 a2_5 t158 t159 t160 _ A6.out).mono ?_); rintro e w50 ⟨rfl, hb⟩; refine ⟨_, rfl, ?_⟩; have n0_ := Aside0.mk (blk_below (g := gb152) (o := .cells #[.int .u64 a0_0, .int .i64 a0_1, .int .i64 a0_2, .int .i64 a0_3] 24 (0, 0)) (by (with_reducible repeat (first | refine blk_drewN ?_ _ | refine blk_drew ?_ | refine blk_alloc ?_ _)); exact BK152.out) hb); have n1_ := Aside0.mk (blk_below (g := gb153) (o := .cells #[.int .u64 a2_0, .int .u64 a2_1, .int .i64 a2_2, .int .u64 a2_3, .bool a2_4, .int .u64 a2_5] 26 (0, 0)) (by (with_reducible repeat (first | refine blk_drewN ?_ _ | refine blk_drew ?_ | refine blk_alloc ?_ _)); exact BK153.out) hb); have n2_ := Aside0.mk (below_step (by repeat (first | (with_reducible first | exact HB.out | apply below_alloc | apply pw_below_drewN | apply below_drew1 | refine below_set ?_ GE152.out | refine below_set ?_ GE153.out) | exact HB.out)) hb); clear BK152; clear BK153; clear HB; have BK152 := n0_; have BK153 := n1_; have HB := n2_; clear n0_ n1_ n2_; (try clear hb); (try clear hb2); (try clear hk); (try clear hi)))
    go_ret
    exact ⟨by first | rfl | (simp [errW_none, errW_some] <;> rfl) | (simp [*, errW_none, errW_some] <;> rfl), by repeat (first | (with_reducible first | exact HB.out | apply below_alloc | apply pw_below_drewN | apply below_drew1 | refine below_set ?_ GE152.out | refine below_set ?_ GE153.out) | exact HB.out)⟩

/-- THE ONE PURE STATEMENT of shacklelaw19_RelocValues: yours. -/
def g24 (x : S24) : Prop := (gI .u64) x.f0 ∧ (gI .i64) x.f1 ∧ (gI .i64) x.f2 ∧ (gI .i64) x.f3
def b24 (x : S24) : Nat := (b1 x.f0 + (b1 x.f1 + (b1 x.f2 + (b1 x.f3)))) + 1
def z_24 (x : S24) : Prop := zT x.f0 ∧ zT x.f1 ∧ zT x.f2 ∧ zT x.f3
def g26 (x : S26) : Prop := (gI .u64) x.f0 ∧ (gI .u64) x.f1 ∧ (gI .i64) x.f2 ∧ (gI .u64) x.f3 ∧ gT x.f4 ∧ (gI .u64) x.f5
def b26 (x : S26) : Nat := (b1 x.f0 + (b1 x.f1 + (b1 x.f2 + (b1 x.f3 + (b1 x.f4 + (b1 x.f5)))))) + 1
def z_26 (x : S26) : Prop := zT x.f0 ∧ zT x.f1 ∧ zT x.f2 ∧ zT x.f3 ∧ zT x.f4 ∧ zT x.f5
def shacklelaw19_RelocValues.Pure : Prop := ∀ (a0_0 : Int) (a0_1 : Int) (a0_2 : Int) (a0_3 : Int) (a1 : Int) (a2_0 : Int) (a2_1 : Int) (a2_2 : Int) (a2_3 : Int) (a2_4 : Bool) (a2_5 : Int), (Lit.int .u64 a0_0).wf = true → (Lit.int .i64 a0_1).wf = true → (Lit.int .i64 a0_2).wf = true → (Lit.int .i64 a0_3).wf = true → (Lit.int .u64 a1).wf = true → (Lit.int .u64 a2_0).wf = true → (Lit.int .u64 a2_1).wf = true → (Lit.int .i64 a2_2).wf = true → (Lit.int .u64 a2_3).wf = true → (Lit.int .u64 a2_5).wf = true → ∃ k, shacklelaw19_RelocValues.f k a0_0 a0_1 a0_2 a0_3 a1 a2_0 a2_1 a2_2 a2_3 a2_4 a2_5 = some true

end Go.Proofs.Ythhlnhbmjkjmlaa.PRelocValues
