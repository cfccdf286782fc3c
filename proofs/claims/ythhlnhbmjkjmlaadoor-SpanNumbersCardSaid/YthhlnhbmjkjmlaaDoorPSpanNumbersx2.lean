/- Printed by this session's own program (wip/tools: a turn of the kit's print) out of the translation: each Go function that the law reaches as a Lean function, and that the machine's call comes to what that function tells; no condition but what each theorem names. -/
import Derived.Test.YthhlnhbmjkjmlaaDoorPSpanNumbersx0
import Derived.Test.YthhlnhbmjkjmlaaDoorPSpanNumbersx1
namespace Go.Proofs.YthhlnhbmjkjmlaaDoor.PSpanNumbers
open Go.RowKit Go.Proofs.YthhlnhbmjkjmlaaDoorW.PrintWords Go.Proofs.YthhlnhbmjkjmlaaDoorW.PrintLast Go.Proofs.YthhlnhbmjkjmlaaDoorW.PrintMore Go.Proofs.YthhlnhbmjkjmlaaDoorX
attribute [local go_sem] max2_int min2_int max_two min_two max_three min_three max_four min_four   -- for this text's walks alone
set_option linter.unusedVariables false
set_option linter.unusedSimpArgs false

/-! ### shacklelaw00_further: function 34 -/
def shacklelaw00_further.f (a0 : Option Int) : Option (Int) := if a0.isNone = true then (some (-1)) else (if (a0.getD 0) < 0 then (some (-1)) else (if (a0.getD 0) = 16 then (some 16) else (if (a0.getD 0) = 17 then (some 17) else (if (a0.getD 0) = 18 then (some 18) else (if (a0.getD 0) = 19 then (some 19) else (if (a0.getD 0) = 20 then (some 20) else (if (a0.getD 0) = 21 then (some 21) else (if (a0.getD 0) = 22 then (some 22) else (if (a0.getD 0) = 23 then (some 23) else (if (a0.getD 0) = 24 then (some 24) else (if (a0.getD 0) = 25 then (some 25) else (if (a0.getD 0) = 26 then (some 26) else (if (a0.getD 0) = 27 then (some 27) else (if (a0.getD 0) = 28 then (some 28) else (if (a0.getD 0) = 29 then (some 29) else (if (a0.getD 0) = 30 then (some 30) else (some (-1))))))))))))))))))
set_option maxHeartbeats 8000000 in
set_option maxRecDepth 100000 in
theorem shacklelaw00_further.calls (e0 : Value) (a0 : Option Int) (r : Int) (w : World) (he0 : ErrAt 40 52 54 w 0 a0 e0) (h : shacklelaw00_further.f a0 = some r) :
    Calls Tryd.prog 34 #[e0] w fun e w' => e = .returned (.int .i64 r) ∧ Drawn0 w w' := by
  have hu26 := Tryd.underlying26
  have hu40 := Tryd.underlying40
  have hcm40 : (Tryd.prog.info? 40).map (fun i => i.comparable) = some true := by kernel_rfl
  have EA147 := Aside0.mk he0
  have H : (if a0.isNone = true then (some (-1)) else (if (a0.getD 0) < 0 then (some (-1)) else (if (a0.getD 0) = 16 then (some 16) else (if (a0.getD 0) = 17 then (some 17) else (if (a0.getD 0) = 18 then (some 18) else (if (a0.getD 0) = 19 then (some 19) else (if (a0.getD 0) = 20 then (some 20) else (if (a0.getD 0) = 21 then (some 21) else (if (a0.getD 0) = 22 then (some 22) else (if (a0.getD 0) = 23 then (some 23) else (if (a0.getD 0) = 24 then (some 24) else (if (a0.getD 0) = 25 then (some 25) else (if (a0.getD 0) = 26 then (some 26) else (if (a0.getD 0) = 27 then (some 27) else (if (a0.getD 0) = 28 then (some 28) else (if (a0.getD 0) = 29 then (some 29) else (if (a0.getD 0) = 30 then (some 30) else (some (-1))))))))))))))))))) = some r := h
  clear h
  rcases a0 with _ | q149
  · have H1 : (some (-1)) = some r := by rw [if_pos (show (none : Option Int).isNone = true by rfl)] at H; exact H
    clear H
    have H := H1
    clear H1
    obtain rfl := ErrAt.none_eq he0
    obtain rfl := Option.some.inj H
    go_enter Tryd.func34, Tryd.ntmps34
    go_wp2
    go_ret
    exact ⟨by first | rfl | (simp; done) | (simp [*]; done), by repeat (first | exact Drawn0.refl _ | apply Drawn0.step)⟩
  · have H1 : (if q149 < 0 then (some (-1)) else (if q149 = 16 then (some 16) else (if q149 = 17 then (some 17) else (if q149 = 18 then (some 18) else (if q149 = 19 then (some 19) else (if q149 = 20 then (some 20) else (if q149 = 21 then (some 21) else (if q149 = 22 then (some 22) else (if q149 = 23 then (some 23) else (if q149 = 24 then (some 24) else (if q149 = 25 then (some 25) else (if q149 = 26 then (some 26) else (if q149 = 27 then (some 27) else (if q149 = 28 then (some 28) else (if q149 = 29 then (some 29) else (if q149 = 30 then (some 30) else (some (-1)))))))))))))))))) = some r := by rw [if_neg (show ¬ (some q149).isNone = true by simp)] at H; exact H
    clear H
    have H := H1
    clear H1
    skip
    by_cases c2 : q149 < 0
    · rw [if_pos c2] at H
      have SQq149 := Aside0.mk c2
      clear c2
      obtain ⟨gb147, rfl, _, hbx_⟩ := ErrAt.spot_eq he0 SQq149.out
      have BK147 := Aside0.mk hbx_
      clear hbx_
      obtain rfl := Option.some.inj H
      go_enter Tryd.func34, Tryd.ntmps34
      go_wp2
      go_ret
      exact ⟨by first | rfl | (simp; done) | (simp [*]; done), by repeat (first | exact Drawn0.refl _ | apply Drawn0.step)⟩
    · rw [if_neg c2] at H
      have SQq149 := Aside0.mk c2
      have c2b1 : decide (0 ≤ q149) = true := decide_eq_true (Int.not_lt.1 c2)
      clear c2
      obtain rfl := ErrAt.code_eq he0 SQq149.out
      by_cases c3 : q149 = 16
      · rw [if_pos c3] at H
        have c3b0 : (q149 == 16) = true := beq_iff_eq.mpr c3
        have c3b1 : (q149 != 16) = false := bne_eq_false_iff_eq.mpr c3
        clear c3
        obtain rfl := Option.some.inj H
        go_enter Tryd.func34, Tryd.ntmps34
        go_wp2
        go_ret
        exact ⟨by first | rfl | (simp; done) | (simp [*]; done), by repeat (first | exact Drawn0.refl _ | apply Drawn0.step)⟩
      · rw [if_neg c3] at H
        have c3b0 : (q149 == 16) = false := beq_eq_false_iff_ne.mpr c3
        have c3b1 : (q149 != 16) = true := bne_iff_ne.mpr c3
        by_cases c4 : q149 = 17
        · rw [if_pos c4] at H
          have c4b0 : (q149 == 17) = true := beq_iff_eq.mpr c4
          have c4b1 : (q149 != 17) = false := bne_eq_false_iff_eq.mpr c4
          clear c4
          obtain rfl := Option.some.inj H
          go_enter Tryd.func34, Tryd.ntmps34
          go_wp2
          go_ret
          exact ⟨by first | rfl | (simp; done) | (simp [*]; done), by repeat (first | exact Drawn0.refl _ | apply Drawn0.step)⟩
        · rw [if_neg c4] at H
          have c4b0 : (q149 == 17) = false := beq_eq_false_iff_ne.mpr c4
          have c4b1 : (q149 != 17) = true := bne_iff_ne.mpr c4
          by_cases c5 : q149 = 18
          · rw [if_pos c5] at H
            have c5b0 : (q149 == 18) = true := beq_iff_eq.mpr c5
            have c5b1 : (q149 != 18) = false := bne_eq_false_iff_eq.mpr c5
            clear c5
            obtain rfl := Option.some.inj H
            go_enter Tryd.func34, Tryd.ntmps34
            go_wp2
            go_ret
            exact ⟨by first | rfl | (simp; done) | (simp [*]; done), by repeat (first | exact Drawn0.refl _ | apply Drawn0.step)⟩
          · rw [if_neg c5] at H
            have c5b0 : (q149 == 18) = false := beq_eq_false_iff_ne.mpr c5
            have c5b1 : (q149 != 18) = true := bne_iff_ne.mpr c5
            by_cases c6 : q149 = 19
            · rw [if_pos c6] at H
              have c6b0 : (q149 == 19) = true := beq_iff_eq.mpr c6
              have c6b1 : (q149 != 19) = false := bne_eq_false_iff_eq.mpr c6
              clear c6
              obtain rfl := Option.some.inj H
              go_enter Tryd.func34, Tryd.ntmps34
              go_wp2
              go_ret
              exact ⟨by first | rfl | (simp; done) | (simp [*]; done), by repeat (first | exact Drawn0.refl _ | apply Drawn0.step)⟩
            · rw [if_neg c6] at H
              have c6b0 : (q149 == 19) = false := beq_eq_false_iff_ne.mpr c6
              have c6b1 : (q149 != 19) = true := bne_iff_ne.mpr c6
              by_cases c7 : q149 = 20
              · rw [if_pos c7] at H
                have c7b0 : (q149 == 20) = true := beq_iff_eq.mpr c7
                have c7b1 : (q149 != 20) = false := bne_eq_false_iff_eq.mpr c7
                clear c7
                obtain rfl := Option.some.inj H
                go_enter Tryd.func34, Tryd.ntmps34
                go_wp2
                go_ret
                exact ⟨by first | rfl | (simp; done) | (simp [*]; done), by repeat (first | exact Drawn0.refl _ | apply Drawn0.step)⟩
              · rw [if_neg c7] at H
                have c7b0 : (q149 == 20) = false := beq_eq_false_iff_ne.mpr c7
                have c7b1 : (q149 != 20) = true := bne_iff_ne.mpr c7
                by_cases c8 : q149 = 21
                · rw [if_pos c8] at H
                  have c8b0 : (q149 == 21) = true := beq_iff_eq.mpr c8
                  have c8b1 : (q149 != 21) = false := bne_eq_false_iff_eq.mpr c8
                  clear c8
                  obtain rfl := Option.some.inj H
                  go_enter Tryd.func34, Tryd.ntmps34
                  go_wp2
                  go_ret
                  exact ⟨by first | rfl | (simp; done) | (simp [*]; done), by repeat (first | exact Drawn0.refl _ | apply Drawn0.step)⟩
                · rw [if_neg c8] at H
                  have c8b0 : (q149 == 21) = false := beq_eq_false_iff_ne.mpr c8
                  have c8b1 : (q149 != 21) = true := bne_iff_ne.mpr c8
                  by_cases c9 : q149 = 22
                  · rw [if_pos c9] at H
                    have c9b0 : (q149 == 22) = true := beq_iff_eq.mpr c9
                    have c9b1 : (q149 != 22) = false := bne_eq_false_iff_eq.mpr c9
                    clear c9
                    obtain rfl := Option.some.inj H
                    go_enter Tryd.func34, Tryd.ntmps34
                    go_wp2
                    go_ret
                    exact ⟨by first | rfl | (simp; done) | (simp [*]; done), by repeat (first | exact Drawn0.refl _ | apply Drawn0.step)⟩
                  · rw [if_neg c9] at H
                    have c9b0 : (q149 == 22) = false := beq_eq_false_iff_ne.mpr c9
                    have c9b1 : (q149 != 22) = true := bne_iff_ne.mpr c9
                    by_cases c10 : q149 = 23
                    · rw [if_pos c10] at H
                      have c10b0 : (q149 == 23) = true := beq_iff_eq.mpr c10
                      have c10b1 : (q149 != 23) = false := bne_eq_false_iff_eq.mpr c10
                      clear c10
                      obtain rfl := Option.some.inj H
                      go_enter Tryd.func34, Tryd.ntmps34
                      go_wp2
                      go_ret
                      exact ⟨by first | rfl | (simp; done) | (simp [*]; done), by repeat (first | exact Drawn0.refl _ | apply Drawn0.step)⟩
                    · rw [if_neg c10] at H
                      have c10b0 : (q149 == 23) = false := beq_eq_false_iff_ne.mpr c10
                      have c10b1 : (q149 != 23) = true := bne_iff_ne.mpr c10
                      by_cases c11 : q149 = 24
                      · rw [if_pos c11] at H
                        have c11b0 : (q149 == 24) = true := beq_iff_eq.mpr c11
                        have c11b1 : (q149 != 24) = false := bne_eq_false_iff_eq.mpr c11
                        clear c11
                        obtain rfl := Option.some.inj H
                        go_enter Tryd.func34, Tryd.ntmps34
                        go_wp2
                        go_ret
                        exact ⟨by first | rfl | (simp; done) | (simp [*]; done), by repeat (first | exact Drawn0.refl _ | apply Drawn0.step)⟩
                      · rw [if_neg c11] at H
                        have c11b0 : (q149 == 24) = false := beq_eq_false_iff_ne.mpr c11
                        have c11b1 : (q149 != 24) = true := bne_iff_ne.mpr c11
                        by_cases c12 : q149 = 25
                        · rw [if_pos c12] at H
                          have c12b0 : (q149 == 25) = true := beq_iff_eq.mpr c12
                          have c12b1 : (q149 != 25) = false := bne_eq_false_iff_eq.mpr c12
                          clear c12
                          obtain rfl := Option.some.inj H
                          go_enter Tryd.func34, Tryd.ntmps34
                          go_wp2
                          go_ret
                          exact ⟨by first | rfl | (simp; done) | (simp [*]; done), by repeat (first | exact Drawn0.refl _ | apply Drawn0.step)⟩
                        · rw [if_neg c12] at H
                          have c12b0 : (q149 == 25) = false := beq_eq_false_iff_ne.mpr c12
                          have c12b1 : (q149 != 25) = true := bne_iff_ne.mpr c12
                          by_cases c13 : q149 = 26
                          · rw [if_pos c13] at H
                            have c13b0 : (q149 == 26) = true := beq_iff_eq.mpr c13
                            have c13b1 : (q149 != 26) = false := bne_eq_false_iff_eq.mpr c13
                            clear c13
                            obtain rfl := Option.some.inj H
                            go_enter Tryd.func34, Tryd.ntmps34
                            go_wp2
                            go_ret
                            exact ⟨by first | rfl | (simp; done) | (simp [*]; done), by repeat (first | exact Drawn0.refl _ | apply Drawn0.step)⟩
                          · rw [if_neg c13] at H
                            have c13b0 : (q149 == 26) = false := beq_eq_false_iff_ne.mpr c13
                            have c13b1 : (q149 != 26) = true := bne_iff_ne.mpr c13
                            by_cases c14 : q149 = 27
                            · rw [if_pos c14] at H
                              have c14b0 : (q149 == 27) = true := beq_iff_eq.mpr c14
                              have c14b1 : (q149 != 27) = false := bne_eq_false_iff_eq.mpr c14
                              clear c14
                              obtain rfl := Option.some.inj H
                              go_enter Tryd.func34, Tryd.ntmps34
                              go_wp2
                              go_ret
                              exact ⟨by first | rfl | (simp; done) | (simp [*]; done), by repeat (first | exact Drawn0.refl _ | apply Drawn0.step)⟩
                            · rw [if_neg c14] at H
                              have c14b0 : (q149 == 27) = false := beq_eq_false_iff_ne.mpr c14
                              have c14b1 : (q149 != 27) = true := bne_iff_ne.mpr c14
                              by_cases c15 : q149 = 28
                              · rw [if_pos c15] at H
                                have c15b0 : (q149 == 28) = true := beq_iff_eq.mpr c15
                                have c15b1 : (q149 != 28) = false := bne_eq_false_iff_eq.mpr c15
                                clear c15
                                obtain rfl := Option.some.inj H
                                go_enter Tryd.func34, Tryd.ntmps34
                                go_wp2
                                go_ret
                                exact ⟨by first | rfl | (simp; done) | (simp [*]; done), by repeat (first | exact Drawn0.refl _ | apply Drawn0.step)⟩
                              · rw [if_neg c15] at H
                                have c15b0 : (q149 == 28) = false := beq_eq_false_iff_ne.mpr c15
                                have c15b1 : (q149 != 28) = true := bne_iff_ne.mpr c15
                                by_cases c16 : q149 = 29
                                · rw [if_pos c16] at H
                                  have c16b0 : (q149 == 29) = true := beq_iff_eq.mpr c16
                                  have c16b1 : (q149 != 29) = false := bne_eq_false_iff_eq.mpr c16
                                  clear c16
                                  obtain rfl := Option.some.inj H
                                  go_enter Tryd.func34, Tryd.ntmps34
                                  go_wp2
                                  go_ret
                                  exact ⟨by first | rfl | (simp; done) | (simp [*]; done), by repeat (first | exact Drawn0.refl _ | apply Drawn0.step)⟩
                                · rw [if_neg c16] at H
                                  have c16b0 : (q149 == 29) = false := beq_eq_false_iff_ne.mpr c16
                                  have c16b1 : (q149 != 29) = true := bne_iff_ne.mpr c16
                                  by_cases c17 : q149 = 30
                                  · rw [if_pos c17] at H
                                    have c17b0 : (q149 == 30) = true := beq_iff_eq.mpr c17
                                    have c17b1 : (q149 != 30) = false := bne_eq_false_iff_eq.mpr c17
                                    clear c17
                                    obtain rfl := Option.some.inj H
                                    go_enter Tryd.func34, Tryd.ntmps34
                                    go_wp2
                                    go_ret
                                    exact ⟨by first | rfl | (simp; done) | (simp [*]; done), by repeat (first | exact Drawn0.refl _ | apply Drawn0.step)⟩
                                  · rw [if_neg c17] at H
                                    have c17b0 : (q149 == 30) = false := beq_eq_false_iff_ne.mpr c17
                                    have c17b1 : (q149 != 30) = true := bne_iff_ne.mpr c17
                                    obtain rfl := Option.some.inj H
                                    go_enter Tryd.func34, Tryd.ntmps34
                                    go_wp2
                                    go_ret
                                    exact ⟨by first | rfl | (simp; done) | (simp [*]; done), by repeat (first | exact Drawn0.refl _ | apply Drawn0.step)⟩

/-! ### shacklelaw00_Code: function 22 -/
def shacklelaw00_Code.f (a0 : Option Int) : Option (Int) := if a0.isNone = true then (some 0) else (if (a0.getD 0) < 0 then ((shacklelaw00_further.f (some (a0.getD 0))).bind fun t153 => (some t153)) else (if (a0.getD 0) = 1 then (some 1) else (if (a0.getD 0) = 2 then (some 2) else (if (a0.getD 0) = 3 then (some 3) else (if (a0.getD 0) = 4 then (some 4) else (if (a0.getD 0) = 5 then (some 5) else (if (a0.getD 0) = 6 then (some 6) else (if (a0.getD 0) = 7 then (some 7) else (if (a0.getD 0) = 8 then (some 8) else (if (a0.getD 0) = 9 then (some 9) else (if (a0.getD 0) = 10 then (some 10) else (if (a0.getD 0) = 11 then (some 11) else (if (a0.getD 0) = 12 then (some 12) else (if (a0.getD 0) = 13 then (some 13) else (if (a0.getD 0) = 14 then (some 14) else (if (a0.getD 0) = 15 then (some 15) else ((shacklelaw00_further.f (some (a0.getD 0))).bind fun t154 => (some t154))))))))))))))))))
set_option maxHeartbeats 8000000 in
set_option maxRecDepth 100000 in
theorem shacklelaw00_Code.calls (e0 : Value) (a0 : Option Int) (r : Int) (w : World) (he0 : ErrAt 40 52 54 w 0 a0 e0) (h : shacklelaw00_Code.f a0 = some r) :
    Calls Tryd.prog 22 #[e0] w fun e w' => e = .returned (.int .i64 r) ∧ Drawn0 w w' := by
  have hu26 := Tryd.underlying26
  have hu40 := Tryd.underlying40
  have hcm40 : (Tryd.prog.info? 40).map (fun i => i.comparable) = some true := by kernel_rfl
  have EA150 := Aside0.mk he0
  have H : (if a0.isNone = true then (some 0) else (if (a0.getD 0) < 0 then ((shacklelaw00_further.f (some (a0.getD 0))).bind fun t153 => (some t153)) else (if (a0.getD 0) = 1 then (some 1) else (if (a0.getD 0) = 2 then (some 2) else (if (a0.getD 0) = 3 then (some 3) else (if (a0.getD 0) = 4 then (some 4) else (if (a0.getD 0) = 5 then (some 5) else (if (a0.getD 0) = 6 then (some 6) else (if (a0.getD 0) = 7 then (some 7) else (if (a0.getD 0) = 8 then (some 8) else (if (a0.getD 0) = 9 then (some 9) else (if (a0.getD 0) = 10 then (some 10) else (if (a0.getD 0) = 11 then (some 11) else (if (a0.getD 0) = 12 then (some 12) else (if (a0.getD 0) = 13 then (some 13) else (if (a0.getD 0) = 14 then (some 14) else (if (a0.getD 0) = 15 then (some 15) else ((shacklelaw00_further.f (some (a0.getD 0))).bind fun t154 => (some t154))))))))))))))))))) = some r := h
  clear h
  rcases a0 with _ | q152
  · have H1 : (some 0) = some r := by rw [if_pos (show (none : Option Int).isNone = true by rfl)] at H; exact H
    clear H
    have H := H1
    clear H1
    obtain rfl := ErrAt.none_eq he0
    obtain rfl := Option.some.inj H
    go_enter Tryd.func22, Tryd.ntmps22
    go_wp2
    go_ret
    exact ⟨by first | rfl | (simp; done) | (simp [*]; done), by repeat (first | exact Drawn0.refl _ | apply Drawn0.step)⟩
  · have H1 : (if q152 < 0 then ((shacklelaw00_further.f (some q152)).bind fun t153 => (some t153)) else (if q152 = 1 then (some 1) else (if q152 = 2 then (some 2) else (if q152 = 3 then (some 3) else (if q152 = 4 then (some 4) else (if q152 = 5 then (some 5) else (if q152 = 6 then (some 6) else (if q152 = 7 then (some 7) else (if q152 = 8 then (some 8) else (if q152 = 9 then (some 9) else (if q152 = 10 then (some 10) else (if q152 = 11 then (some 11) else (if q152 = 12 then (some 12) else (if q152 = 13 then (some 13) else (if q152 = 14 then (some 14) else (if q152 = 15 then (some 15) else ((shacklelaw00_further.f (some q152)).bind fun t154 => (some t154)))))))))))))))))) = some r := by rw [if_neg (show ¬ (some q152).isNone = true by simp)] at H; exact H
    clear H
    have H := H1
    clear H1
    skip
    by_cases c2 : q152 < 0
    · rw [if_pos c2] at H
      have SQq152 := Aside0.mk c2
      clear c2
      obtain ⟨gb150, rfl, _, hbx_⟩ := ErrAt.spot_eq he0 SQq152.out
      have BK150 := Aside0.mk hbx_
      clear hbx_
      replace H := Option.bind_eq_some_iff.mp H
      obtain ⟨t153, A30, H⟩ := H
      replace H : (some t153) = some r := H
      have A3 := Aside0.mk A30
      clear A30
      obtain rfl := Option.some.inj H
      go_enter Tryd.func22, Tryd.ntmps22
      go_wp2_with (first | (go_at_call 34; (with_reducible refine (shacklelaw00_further.calls (.iface 52 (.pointer (some ⟨gb150, 0, none⟩))) (some q152) t153 _ ?side1 A3.out).mono ?_); (case side1 => exact (ErrAt.of_spot SQq152.out (Nat.zero_le _) (by (with_reducible repeat (first | refine blk_drewN ?_ _ | refine blk_drew ?_ | refine blk_alloc ?_ _)); exact BK150.out))); rintro e w' ⟨rfl, ⟨nd, rfl⟩⟩))
      go_ret
      exact ⟨by first | rfl | (simp; done) | (simp [*]; done), by repeat (first | exact Drawn0.refl _ | apply Drawn0.step)⟩
    · rw [if_neg c2] at H
      have SQq152 := Aside0.mk c2
      have c2b1 : decide (0 ≤ q152) = true := decide_eq_true (Int.not_lt.1 c2)
      clear c2
      obtain rfl := ErrAt.code_eq he0 SQq152.out
      by_cases c4 : q152 = 1
      · rw [if_pos c4] at H
        have c4b0 : (q152 == 1) = true := beq_iff_eq.mpr c4
        have c4b1 : (q152 != 1) = false := bne_eq_false_iff_eq.mpr c4
        clear c4
        obtain rfl := Option.some.inj H
        go_enter Tryd.func22, Tryd.ntmps22
        go_wp2
        go_ret
        exact ⟨by first | rfl | (simp; done) | (simp [*]; done), by repeat (first | exact Drawn0.refl _ | apply Drawn0.step)⟩
      · rw [if_neg c4] at H
        have c4b0 : (q152 == 1) = false := beq_eq_false_iff_ne.mpr c4
        have c4b1 : (q152 != 1) = true := bne_iff_ne.mpr c4
        by_cases c5 : q152 = 2
        · rw [if_pos c5] at H
          have c5b0 : (q152 == 2) = true := beq_iff_eq.mpr c5
          have c5b1 : (q152 != 2) = false := bne_eq_false_iff_eq.mpr c5
          clear c5
          obtain rfl := Option.some.inj H
          go_enter Tryd.func22, Tryd.ntmps22
          go_wp2
          go_ret
          exact ⟨by first | rfl | (simp; done) | (simp [*]; done), by repeat (first | exact Drawn0.refl _ | apply Drawn0.step)⟩
        · rw [if_neg c5] at H
          have c5b0 : (q152 == 2) = false := beq_eq_false_iff_ne.mpr c5
          have c5b1 : (q152 != 2) = true := bne_iff_ne.mpr c5
          by_cases c6 : q152 = 3
          · rw [if_pos c6] at H
            have c6b0 : (q152 == 3) = true := beq_iff_eq.mpr c6
            have c6b1 : (q152 != 3) = false := bne_eq_false_iff_eq.mpr c6
            clear c6
            obtain rfl := Option.some.inj H
            go_enter Tryd.func22, Tryd.ntmps22
            go_wp2
            go_ret
            exact ⟨by first | rfl | (simp; done) | (simp [*]; done), by repeat (first | exact Drawn0.refl _ | apply Drawn0.step)⟩
          · rw [if_neg c6] at H
            have c6b0 : (q152 == 3) = false := beq_eq_false_iff_ne.mpr c6
            have c6b1 : (q152 != 3) = true := bne_iff_ne.mpr c6
            by_cases c7 : q152 = 4
            · rw [if_pos c7] at H
              have c7b0 : (q152 == 4) = true := beq_iff_eq.mpr c7
              have c7b1 : (q152 != 4) = false := bne_eq_false_iff_eq.mpr c7
              clear c7
              obtain rfl := Option.some.inj H
              go_enter Tryd.func22, Tryd.ntmps22
              go_wp2
              go_ret
              exact ⟨by first | rfl | (simp; done) | (simp [*]; done), by repeat (first | exact Drawn0.refl _ | apply Drawn0.step)⟩
            · rw [if_neg c7] at H
              have c7b0 : (q152 == 4) = false := beq_eq_false_iff_ne.mpr c7
              have c7b1 : (q152 != 4) = true := bne_iff_ne.mpr c7
              by_cases c8 : q152 = 5
              · rw [if_pos c8] at H
                have c8b0 : (q152 == 5) = true := beq_iff_eq.mpr c8
                have c8b1 : (q152 != 5) = false := bne_eq_false_iff_eq.mpr c8
                clear c8
                obtain rfl := Option.some.inj H
                go_enter Tryd.func22, Tryd.ntmps22
                go_wp2
                go_ret
                exact ⟨by first | rfl | (simp; done) | (simp [*]; done), by repeat (first | exact Drawn0.refl _ | apply Drawn0.step)⟩
              · rw [if_neg c8] at H
                have c8b0 : (q152 == 5) = false := beq_eq_false_iff_ne.mpr c8
                have c8b1 : (q152 != 5) = true := bne_iff_ne.mpr c8
                by_cases c9 : q152 = 6
                · rw [if_pos c9] at H
                  have c9b0 : (q152 == 6) = true := beq_iff_eq.mpr c9
                  have c9b1 : (q152 != 6) = false := bne_eq_false_iff_eq.mpr c9
                  clear c9
                  obtain rfl := Option.some.inj H
                  go_enter Tryd.func22, Tryd.ntmps22
                  go_wp2
                  go_ret
                  exact ⟨by first | rfl | (simp; done) | (simp [*]; done), by repeat (first | exact Drawn0.refl _ | apply Drawn0.step)⟩
                · rw [if_neg c9] at H
                  have c9b0 : (q152 == 6) = false := beq_eq_false_iff_ne.mpr c9
                  have c9b1 : (q152 != 6) = true := bne_iff_ne.mpr c9
                  by_cases c10 : q152 = 7
                  · rw [if_pos c10] at H
                    have c10b0 : (q152 == 7) = true := beq_iff_eq.mpr c10
                    have c10b1 : (q152 != 7) = false := bne_eq_false_iff_eq.mpr c10
                    clear c10
                    obtain rfl := Option.some.inj H
                    go_enter Tryd.func22, Tryd.ntmps22
                    go_wp2
                    go_ret
                    exact ⟨by first | rfl | (simp; done) | (simp [*]; done), by repeat (first | exact Drawn0.refl _ | apply Drawn0.step)⟩
                  · rw [if_neg c10] at H
                    have c10b0 : (q152 == 7) = false := beq_eq_false_iff_ne.mpr c10
                    have c10b1 : (q152 != 7) = true := bne_iff_ne.mpr c10
                    by_cases c11 : q152 = 8
                    · rw [if_pos c11] at H
                      have c11b0 : (q152 == 8) = true := beq_iff_eq.mpr c11
                      have c11b1 : (q152 != 8) = false := bne_eq_false_iff_eq.mpr c11
                      clear c11
                      obtain rfl := Option.some.inj H
                      go_enter Tryd.func22, Tryd.ntmps22
                      go_wp2
                      go_ret
                      exact ⟨by first | rfl | (simp; done) | (simp [*]; done), by repeat (first | exact Drawn0.refl _ | apply Drawn0.step)⟩
                    · rw [if_neg c11] at H
                      have c11b0 : (q152 == 8) = false := beq_eq_false_iff_ne.mpr c11
                      have c11b1 : (q152 != 8) = true := bne_iff_ne.mpr c11
                      by_cases c12 : q152 = 9
                      · rw [if_pos c12] at H
                        have c12b0 : (q152 == 9) = true := beq_iff_eq.mpr c12
                        have c12b1 : (q152 != 9) = false := bne_eq_false_iff_eq.mpr c12
                        clear c12
                        obtain rfl := Option.some.inj H
                        go_enter Tryd.func22, Tryd.ntmps22
                        go_wp2
                        go_ret
                        exact ⟨by first | rfl | (simp; done) | (simp [*]; done), by repeat (first | exact Drawn0.refl _ | apply Drawn0.step)⟩
                      · rw [if_neg c12] at H
                        have c12b0 : (q152 == 9) = false := beq_eq_false_iff_ne.mpr c12
                        have c12b1 : (q152 != 9) = true := bne_iff_ne.mpr c12
                        by_cases c13 : q152 = 10
                        · rw [if_pos c13] at H
                          have c13b0 : (q152 == 10) = true := beq_iff_eq.mpr c13
                          have c13b1 : (q152 != 10) = false := bne_eq_false_iff_eq.mpr c13
                          clear c13
                          obtain rfl := Option.some.inj H
                          go_enter Tryd.func22, Tryd.ntmps22
                          go_wp2
                          go_ret
                          exact ⟨by first | rfl | (simp; done) | (simp [*]; done), by repeat (first | exact Drawn0.refl _ | apply Drawn0.step)⟩
                        · rw [if_neg c13] at H
                          have c13b0 : (q152 == 10) = false := beq_eq_false_iff_ne.mpr c13
                          have c13b1 : (q152 != 10) = true := bne_iff_ne.mpr c13
                          by_cases c14 : q152 = 11
                          · rw [if_pos c14] at H
                            have c14b0 : (q152 == 11) = true := beq_iff_eq.mpr c14
                            have c14b1 : (q152 != 11) = false := bne_eq_false_iff_eq.mpr c14
                            clear c14
                            obtain rfl := Option.some.inj H
                            go_enter Tryd.func22, Tryd.ntmps22
                            go_wp2
                            go_ret
                            exact ⟨by first | rfl | (simp; done) | (simp [*]; done), by repeat (first | exact Drawn0.refl _ | apply Drawn0.step)⟩
                          · rw [if_neg c14] at H
                            have c14b0 : (q152 == 11) = false := beq_eq_false_iff_ne.mpr c14
                            have c14b1 : (q152 != 11) = true := bne_iff_ne.mpr c14
                            by_cases c15 : q152 = 12
                            · rw [if_pos c15] at H
                              have c15b0 : (q152 == 12) = true := beq_iff_eq.mpr c15
                              have c15b1 : (q152 != 12) = false := bne_eq_false_iff_eq.mpr c15
                              clear c15
                              obtain rfl := Option.some.inj H
                              go_enter Tryd.func22, Tryd.ntmps22
                              go_wp2
                              go_ret
                              exact ⟨by first | rfl | (simp; done) | (simp [*]; done), by repeat (first | exact Drawn0.refl _ | apply Drawn0.step)⟩
                            · rw [if_neg c15] at H
                              have c15b0 : (q152 == 12) = false := beq_eq_false_iff_ne.mpr c15
                              have c15b1 : (q152 != 12) = true := bne_iff_ne.mpr c15
                              by_cases c16 : q152 = 13
                              · rw [if_pos c16] at H
                                have c16b0 : (q152 == 13) = true := beq_iff_eq.mpr c16
                                have c16b1 : (q152 != 13) = false := bne_eq_false_iff_eq.mpr c16
                                clear c16
                                obtain rfl := Option.some.inj H
                                go_enter Tryd.func22, Tryd.ntmps22
                                go_wp2
                                go_ret
                                exact ⟨by first | rfl | (simp; done) | (simp [*]; done), by repeat (first | exact Drawn0.refl _ | apply Drawn0.step)⟩
                              · rw [if_neg c16] at H
                                have c16b0 : (q152 == 13) = false := beq_eq_false_iff_ne.mpr c16
                                have c16b1 : (q152 != 13) = true := bne_iff_ne.mpr c16
                                by_cases c17 : q152 = 14
                                · rw [if_pos c17] at H
                                  have c17b0 : (q152 == 14) = true := beq_iff_eq.mpr c17
                                  have c17b1 : (q152 != 14) = false := bne_eq_false_iff_eq.mpr c17
                                  clear c17
                                  obtain rfl := Option.some.inj H
                                  go_enter Tryd.func22, Tryd.ntmps22
                                  go_wp2
                                  go_ret
                                  exact ⟨by first | rfl | (simp; done) | (simp [*]; done), by repeat (first | exact Drawn0.refl _ | apply Drawn0.step)⟩
                                · rw [if_neg c17] at H
                                  have c17b0 : (q152 == 14) = false := beq_eq_false_iff_ne.mpr c17
                                  have c17b1 : (q152 != 14) = true := bne_iff_ne.mpr c17
                                  by_cases c18 : q152 = 15
                                  · rw [if_pos c18] at H
                                    have c18b0 : (q152 == 15) = true := beq_iff_eq.mpr c18
                                    have c18b1 : (q152 != 15) = false := bne_eq_false_iff_eq.mpr c18
                                    clear c18
                                    obtain rfl := Option.some.inj H
                                    go_enter Tryd.func22, Tryd.ntmps22
                                    go_wp2
                                    go_ret
                                    exact ⟨by first | rfl | (simp; done) | (simp [*]; done), by repeat (first | exact Drawn0.refl _ | apply Drawn0.step)⟩
                                  · rw [if_neg c18] at H
                                    have c18b0 : (q152 == 15) = false := beq_eq_false_iff_ne.mpr c18
                                    have c18b1 : (q152 != 15) = true := bne_iff_ne.mpr c18
                                    replace H := Option.bind_eq_some_iff.mp H
                                    obtain ⟨t154, A190, H⟩ := H
                                    replace H : (some t154) = some r := H
                                    have A19 := Aside0.mk A190
                                    clear A190
                                    obtain rfl := Option.some.inj H
                                    go_enter Tryd.func22, Tryd.ntmps22
                                    go_wp2_with (first | (go_at_call 34; (with_reducible refine (shacklelaw00_further.calls (.iface 40 (.int .i64 q152)) (some q152) t154 _ ?side1 A19.out).mono ?_); (case side1 => exact (ErrAt.of_code (by first | (with_reducible exact of_decide_eq_true (by assumption)) | exact of_decide_eq_true (by assumption) | decide | omega))); rintro e w' ⟨rfl, ⟨nd, rfl⟩⟩))
                                    go_ret
                                    exact ⟨by first | rfl | (simp; done) | (simp [*]; done), by repeat (first | exact Drawn0.refl _ | apply Drawn0.step)⟩

/-! ### shacklelaw01_right: function 9 -/
def shacklelaw01_right.f (a0 : Option Int) (a1 : Int) (a2 : Int) : Option (Bool) := if a1 = 4 then ((shacklelaw00_Is.f a0 a2 a1).bind fun t157 => (some t157)) else (if a1 = 29 then ((shacklelaw00_Is.f a0 a2 a1).bind fun t158 => (some t158)) else ((shacklelaw00_Code.f a0).bind fun t159 => (some (t159 == a1))))
set_option maxHeartbeats 8000000 in
set_option maxRecDepth 100000 in
theorem shacklelaw01_right.calls (e0 : Value) (a0 : Option Int) (a1 : Int) (a2 : Int) (r : Bool) (w : World) (hG : ErrTy w) (he0 : ErrAt 40 52 54 w 0 a0 e0) (h : shacklelaw01_right.f a0 a1 a2 = some r) :
    Calls Tryd.prog 9 #[e0, .int .i64 a1, .int .u64 a2] w fun e w' => e = .returned (.bool r) ∧ Below w.heap.size w w' := by
  have HB := Aside0.mk (Below.refl w.heap.size w)
  have EA155 := Aside0.mk he0
  have H : (if a1 = 4 then ((shacklelaw00_Is.f a0 a2 a1).bind fun t157 => (some t157)) else (if a1 = 29 then ((shacklelaw00_Is.f a0 a2 a1).bind fun t158 => (some t158)) else ((shacklelaw00_Code.f a0).bind fun t159 => (some (t159 == a1))))) = some r := h
  clear h
  by_cases c4 : a1 = 4
  · rw [if_pos c4] at H
    have c4b0 : (a1 == 4) = true := beq_iff_eq.mpr c4
    have c4b1 : (a1 != 4) = false := bne_eq_false_iff_eq.mpr c4
    clear c4
    replace H := Option.bind_eq_some_iff.mp H
    obtain ⟨t157, A50, H⟩ := H
    replace H : (some t157) = some r := H
    have A5 := Aside0.mk A50
    clear A50
    obtain rfl := Option.some.inj H
    go_enter Tryd.func9, Tryd.ntmps9
    go_wp2_with (first | (go_at_call 14; (with_reducible refine (shacklelaw00_Is.calls e0 a0 a2 a1 t157 _ ?side1 ?side2 A5.out).mono ?_); (case side1 => exact ErrTy.below (by repeat (first | (with_reducible first | exact HB.out | apply below_alloc | apply pw_below_drewN | apply below_drew1) | exact HB.out)) hG); (case side2 => exact (ErrAt.lower (by repeat (first | (with_reducible first | exact EA155.out | apply ErrAt.alloc | apply ErrAt.drewN | apply ErrAt.drew) | exact EA155.out)) (Nat.zero_le _))); rintro e w6 ⟨rfl, hb⟩; have n0_ := Aside0.mk (ErrAt.below (by repeat (first | (with_reducible first | exact EA155.out | apply ErrAt.alloc | apply ErrAt.drewN | apply ErrAt.drew) | exact EA155.out)) hb); have n1_ := Aside0.mk (below_step (by repeat (first | (with_reducible first | exact HB.out | apply below_alloc | apply pw_below_drewN | apply below_drew1) | exact HB.out)) hb); clear EA155; clear HB; have EA155 := n0_; have HB := n1_; clear n0_ n1_; (try clear hb); (try clear hb2); (try clear hk); (try clear hi)))
    go_ret
    exact ⟨by first | rfl | (simp [errW_none, errW_some] <;> rfl) | (simp [*, errW_none, errW_some] <;> rfl), by repeat (first | (with_reducible first | exact HB.out | apply below_alloc | apply pw_below_drewN | apply below_drew1) | exact HB.out)⟩
  · rw [if_neg c4] at H
    have c4b0 : (a1 == 4) = false := beq_eq_false_iff_ne.mpr c4
    have c4b1 : (a1 != 4) = true := bne_iff_ne.mpr c4
    by_cases c7 : a1 = 29
    · rw [if_pos c7] at H
      have c7b0 : (a1 == 29) = true := beq_iff_eq.mpr c7
      have c7b1 : (a1 != 29) = false := bne_eq_false_iff_eq.mpr c7
      clear c7
      replace H := Option.bind_eq_some_iff.mp H
      obtain ⟨t158, A80, H⟩ := H
      replace H : (some t158) = some r := H
      have A8 := Aside0.mk A80
      clear A80
      obtain rfl := Option.some.inj H
      go_enter Tryd.func9, Tryd.ntmps9
      go_wp2_with (first | (go_at_call 14; (with_reducible refine (shacklelaw00_Is.calls e0 a0 a2 a1 t158 _ ?side1 ?side2 A8.out).mono ?_); (case side1 => exact ErrTy.below (by repeat (first | (with_reducible first | exact HB.out | apply below_alloc | apply pw_below_drewN | apply below_drew1) | exact HB.out)) hG); (case side2 => exact (ErrAt.lower (by repeat (first | (with_reducible first | exact EA155.out | apply ErrAt.alloc | apply ErrAt.drewN | apply ErrAt.drew) | exact EA155.out)) (Nat.zero_le _))); rintro e w9 ⟨rfl, hb⟩; have n0_ := Aside0.mk (ErrAt.below (by repeat (first | (with_reducible first | exact EA155.out | apply ErrAt.alloc | apply ErrAt.drewN | apply ErrAt.drew) | exact EA155.out)) hb); have n1_ := Aside0.mk (below_step (by repeat (first | (with_reducible first | exact HB.out | apply below_alloc | apply pw_below_drewN | apply below_drew1) | exact HB.out)) hb); clear EA155; clear HB; have EA155 := n0_; have HB := n1_; clear n0_ n1_; (try clear hb); (try clear hb2); (try clear hk); (try clear hi)))
      go_ret
      exact ⟨by first | rfl | (simp [errW_none, errW_some] <;> rfl) | (simp [*, errW_none, errW_some] <;> rfl), by repeat (first | (with_reducible first | exact HB.out | apply below_alloc | apply pw_below_drewN | apply below_drew1) | exact HB.out)⟩
    · rw [if_neg c7] at H
      have c7b0 : (a1 == 29) = false := beq_eq_false_iff_ne.mpr c7
      have c7b1 : (a1 != 29) = true := bne_iff_ne.mpr c7
      replace H := Option.bind_eq_some_iff.mp H
      obtain ⟨t159, A100, H⟩ := H
      replace H : (some (t159 == a1)) = some r := H
      have A10 := Aside0.mk A100
      clear A100
      obtain rfl := Option.some.inj H
      go_enter Tryd.func9, Tryd.ntmps9
      go_wp2_with (first | (go_at_call 22; (with_reducible refine (shacklelaw00_Code.calls e0 a0 t159 _ ?side1 A10.out).mono ?_); (case side1 => exact (ErrAt.lower (by repeat (first | (with_reducible first | exact EA155.out | apply ErrAt.alloc | apply ErrAt.drewN | apply ErrAt.drew) | exact EA155.out)) (Nat.zero_le _))); rintro e w' ⟨rfl, ⟨nd, rfl⟩⟩))
      go_ret
      exact ⟨by first | rfl | (simp [errW_none, errW_some] <;> rfl) | (simp [*, errW_none, errW_some] <;> rfl), by repeat (first | (with_reducible first | exact HB.out | apply below_alloc | apply pw_below_drewN | apply below_drew1) | exact HB.out)⟩

/-! ### shackleref01_Same: function 13 -/
def shackleref01_Same.l0 : Nat → List Int → List Int → Int → Option (Bool)
  | 0, _, _, _ => none
  | k + 1, x0, x1, x5 => if x5 < (x0.length : Int) then (if 0 ≤ x5 then (if x5 < (x1.length : Int) then (if (rd x0 x5) = (rd x1 x5) then (shackleref01_Same.l0 k x0 x1 (wrap64 (x5 + 1))) else (some false)) else (none)) else (none)) else (some true)
def shackleref01_Same.f (k : Nat) (l0 : List Int) (l1 : List Int) : Option (Bool) := if (l0.length : Int) = (l1.length : Int) then (shackleref01_Same.l0 k l0 l1 0) else (some false)
theorem shackleref01_Same.mono_l : ∀ k, (∀ y0 y1 y2, LeO (shackleref01_Same.l0 k y0 y1 y2) (shackleref01_Same.l0 (k + 1) y0 y1 y2))
  | 0 => fun _ _ _ r h => by simp [shackleref01_Same.l0] at h
  | k + 1 => by
    have ih0 := shackleref01_Same.mono_l k
    · intro y0 y1 y2
      unfold shackleref01_Same.l0
      repeat' first
      | (with_reducible exact ih0 _ _ _)
      | (with_reducible exact LeO.refl _)
      | (with_reducible exact LeO.none _)
      | (with_reducible refine LeO.ite ?_ ?_)
      | (with_reducible refine LeO.bind ?_ (fun _ => ?_))
      | exact ih0 _ _ _
      | exact LeO.none _
      | refine LeO.ite ?_ ?_
      | refine LeO.bind ?_ (fun _ => ?_)
theorem shackleref01_Same.mono : ∀ a0 a1 k, LeO (shackleref01_Same.f k a0 a1) (shackleref01_Same.f (k + 1) a0 a1) := by
  intro a0 a1 k
  have ih0 := shackleref01_Same.mono_l k
  unfold shackleref01_Same.f
  repeat' first
      | (with_reducible exact ih0 _ _ _)
      | (with_reducible exact LeO.refl _)
      | (with_reducible exact LeO.none _)
      | (with_reducible refine LeO.ite ?_ ?_)
      | (with_reducible refine LeO.bind ?_ (fun _ => ?_))
      | exact ih0 _ _ _
      | exact LeO.none _
      | refine LeO.ite ?_ ?_
      | refine LeO.bind ?_ (fun _ => ?_)
set_option maxHeartbeats 8000000 in
set_option maxRecDepth 100000 in
theorem shackleref01_Same.calls (k : Nat) (A0 : Option Addr) (c0 : Nat) (l0 : List Int) (A1 : Option Addr) (c1 : Nat) (l1 : List Int) (r : Bool) (w : World) (hr0 : Kd.C (Kd.int .u8) w A0 l0.length l0) (hc0 : l0.length ≤ c0) (hr1 : Kd.C (Kd.int .u8) w A1 l1.length l1) (hc1 : l1.length ≤ c1) (h : shackleref01_Same.f k l0 l1 = some r) :
    Calls Tryd.prog 13 #[.slice A0 l0.length c0, .slice A1 l1.length c1] w fun e w' => e = .returned (.bool r) ∧ Drawn0 w w' := by
  have HR0 := Aside0.mk hr0
  have HC0 := Aside0.mk hc0
  clear hr0 hc0
  have HR1 := Aside0.mk hr1
  have HC1 := Aside0.mk hc1
  clear hr1 hc1
  have H : (if (l0.length : Int) = (l1.length : Int) then (shackleref01_Same.l0 k l0 l1 0) else (some false)) = some r := h
  clear h
  by_cases c3 : (l0.length : Int) = (l1.length : Int)
  · rw [if_pos c3] at H
    have c3b0 : ((l0.length : Int) == (l1.length : Int)) = true := beq_iff_eq.mpr c3
    have c3b1 : ((l0.length : Int) != (l1.length : Int)) = false := bne_eq_false_iff_eq.mpr c3
    have c3b2 : (l0.length == l1.length) = true := by first | simpa using c3 | (simp at c3 ⊢; omega)
    clear c3
    have H' := Aside0.mk H
    clear H
    go_enter Tryd.func13, Tryd.ntmps13
    go_wp2
    repeat (go_quiet (fail); try go_wp2)
    go_loopg [5] k (fun kq v5 w' => ∃ (x5_1 : Int), v5 = .int .i64 x5_1 ∧ Aside0 (shackleref01_Same.l0 kq l0 l1 x5_1 = some r) ∧ Aside0 (kq ≤ k) ∧ Drawn0 w w')
    case atStart => exact ⟨(0), (by first | rfl | (simp; done) | (simp [*]; done)), H', ⟨Nat.le_refl _⟩, by repeat (first | exact Drawn0.refl _ | apply Drawn0.step)⟩
    case round =>
      clear H'
      try clear c1
      try clear p2
      try clear c3
      try clear c3b0
      try clear c3b1
      try clear c3b2
      obtain ⟨x5_1, rfl, HA, HK1, ⟨m1, rfl⟩⟩ := hrel
      cases gk with
      | zero => exact absurd HA.out (by simp [shackleref01_Same.l0])
      | succ k1 =>
        have H := HA.out
        clear HA
        simp only [shackleref01_Same.l0] at H
        by_cases c4 : x5_1 < (l0.length : Int)
        · rw [if_pos c4] at H
          have c4b0 : decide (x5_1 < (l0.length : Int)) = true := decide_eq_true c4
          clear c4
          by_cases c5 : 0 ≤ x5_1
          · rw [if_pos c5] at H
            have c5b0 : decide (0 ≤ x5_1) = true := decide_eq_true c5
            clear c5
            by_cases c6 : x5_1 < (l1.length : Int)
            · rw [if_pos c6] at H
              have c6b0 : decide (x5_1 < (l1.length : Int)) = true := decide_eq_true c6
              clear c6
              by_cases c7 : (rd l0 x5_1) = (rd l1 x5_1)
              · rw [if_pos c7] at H
                have c7b0 : ((rd l0 x5_1) == (rd l1 x5_1)) = true := beq_iff_eq.mpr c7
                have c7b1 : ((rd l0 x5_1) != (rd l1 x5_1)) = false := bne_eq_false_iff_eq.mpr c7
                clear c7
                have H' := Aside0.mk H
                clear H
                have p160 : 0 ≤ (x5_1 : Int) := of_decide_eq_true (by first | (with_reducible assumption) | assumption)
                have q160 : x5_1 < (l0.length : Int) := of_decide_eq_true (by first | (with_reducible assumption) | assumption)
                obtain ⟨ad160, e160, hx160_0⟩ := Kd.at_int HR0.out x5_1 p160 q160
                cases e160
                replace p160 := eq_true p160
                replace q160 := eq_true q160
                have p161 : 0 ≤ (x5_1 : Int) := of_decide_eq_true (by first | (with_reducible assumption) | assumption)
                have q161 : x5_1 < (l1.length : Int) := of_decide_eq_true (by first | (with_reducible assumption) | assumption)
                obtain ⟨ad161, e161, hx161_0⟩ := Kd.at_int HR1.out x5_1 p161 q161
                cases e161
                replace p161 := eq_true p161
                replace q161 := eq_true q161
                go_wp2
                repeat (go_quiet (fail); try go_wp2)
                go_roundg k1
                case measure => have := HK1.out; omega
                case rel => exact ⟨(wrap64 (x5_1 + 1)), (by first | rfl | (simp; done) | (simp [*]; done)), H', ⟨by have := HK1.out; omega⟩, by repeat (first | exact Drawn0.refl _ | apply Drawn0.step)⟩
              · rw [if_neg c7] at H
                have c7b0 : ((rd l0 x5_1) == (rd l1 x5_1)) = false := beq_eq_false_iff_ne.mpr c7
                have c7b1 : ((rd l0 x5_1) != (rd l1 x5_1)) = true := bne_iff_ne.mpr c7
                obtain rfl := Option.some.inj H
                have p160 : 0 ≤ (x5_1 : Int) := of_decide_eq_true (by first | (with_reducible assumption) | assumption)
                have q160 : x5_1 < (l0.length : Int) := of_decide_eq_true (by first | (with_reducible assumption) | assumption)
                obtain ⟨ad160, e160, hx160_0⟩ := Kd.at_int HR0.out x5_1 p160 q160
                cases e160
                replace p160 := eq_true p160
                replace q160 := eq_true q160
                have p161 : 0 ≤ (x5_1 : Int) := of_decide_eq_true (by first | (with_reducible assumption) | assumption)
                have q161 : x5_1 < (l1.length : Int) := of_decide_eq_true (by first | (with_reducible assumption) | assumption)
                obtain ⟨ad161, e161, hx161_0⟩ := Kd.at_int HR1.out x5_1 p161 q161
                cases e161
                replace p161 := eq_true p161
                replace q161 := eq_true q161
                go_wp2
                repeat (go_quiet (fail); try go_wp2)
                go_ret
                exact ⟨by first | rfl | (simp; done) | (simp [*]; done), by repeat (first | exact Drawn0.refl _ | apply Drawn0.step)⟩
            · rw [if_neg c6] at H
              exact absurd H (by simp)
          · rw [if_neg c5] at H
            exact absurd H (by simp)
        · rw [if_neg c4] at H
          have c4b0 : decide (x5_1 < (l0.length : Int)) = false := decide_eq_false c4
          clear c4
          obtain rfl := Option.some.inj H
          go_wp2
          repeat (go_quiet (fail); try go_wp2)
          go_ret
          exact ⟨by first | rfl | (simp; done) | (simp [*]; done), by repeat (first | exact Drawn0.refl _ | apply Drawn0.step)⟩
  · rw [if_neg c3] at H
    have c3b0 : ((l0.length : Int) == (l1.length : Int)) = false := beq_eq_false_iff_ne.mpr c3
    have c3b1 : ((l0.length : Int) != (l1.length : Int)) = true := bne_iff_ne.mpr c3
    have c3b2 : (l0.length == l1.length) = false := by first | simpa using c3 | (simp at c3 ⊢; omega)
    obtain rfl := Option.some.inj H
    go_enter Tryd.func13, Tryd.ntmps13
    go_wp2
    repeat (go_quiet (fail); try go_wp2)
    go_ret
    exact ⟨by first | rfl | (simp; done) | (simp [*]; done), by repeat (first | exact Drawn0.refl _ | apply Drawn0.step)⟩

/-! ### shackleref01_In: function 24 -/
def shackleref01_In.f (a0 : Int) (a1 : Int) (a2 : Int) : Option (Bool) := if a1 ≤ a0 then (some (decide (a2 ≤ (IntKind.u64.wrap (a0 - a1))))) else (some false)
set_option maxHeartbeats 8000000 in
set_option maxRecDepth 100000 in
theorem shackleref01_In.calls (a0 : Int) (a1 : Int) (a2 : Int) (r : Bool) (w : World) (h : shackleref01_In.f a0 a1 a2 = some r) :
    Calls Tryd.prog 24 #[.int .u64 a0, .int .u64 a1, .int .u64 a2] w fun e w' => e = .returned (.bool r) ∧ Drawn0 w w' := by
  have H : (if a1 ≤ a0 then (some (decide (a2 ≤ (IntKind.u64.wrap (a0 - a1))))) else (some false)) = some r := h
  clear h
  by_cases c4 : a1 ≤ a0
  · rw [if_pos c4] at H
    have c4b0 : decide (a1 ≤ a0) = true := decide_eq_true c4
    clear c4
    obtain rfl := Option.some.inj H
    go_enter Tryd.func24, Tryd.ntmps24
    go_wp2
    go_ret
    exact ⟨by first | rfl | (simp; done) | (simp [*]; done), by repeat (first | exact Drawn0.refl _ | apply Drawn0.step)⟩
  · rw [if_neg c4] at H
    have c4b0 : decide (a1 ≤ a0) = false := decide_eq_false c4
    clear c4
    obtain rfl := Option.some.inj H
    go_enter Tryd.func24, Tryd.ntmps24
    go_wp2
    go_ret
    exact ⟨by first | rfl | (simp; done) | (simp [*]; done), by repeat (first | exact Drawn0.refl _ | apply Drawn0.step)⟩

/-! ### shackleref01_Cut: function 12 -/
def shackleref01_Cut.l0 : Nat → List Int → Int → Int → List Int → Int → Option (List Int × Bool)
  | 0, _, _, _, _, _ => none
  | k + 1, x0, x1, x2, x9, x10 => if x10 < x2 then (if 0 ≤ (IntKind.u64.wrap (x1 + x10)) then (if (IntKind.u64.wrap (x1 + x10)) < (x0.length : Int) then (if x9.length < 140737488355328 then (shackleref01_Cut.l0 k x0 x1 x2 (x9 ++ [rd x0 (IntKind.u64.wrap (x1 + x10))]) (IntKind.u64.wrap (x10 + 1))) else (none)) else (none)) else (none)) else (some (x9, true))
def shackleref01_Cut.f (k : Nat) (l0 : List Int) (a1 : Int) (a2 : Int) : Option (List Int × Bool) := (shackleref01_In.f (IntKind.u64.wrap ((l0.length : Int))) a1 a2).bind fun t162 => (if t162 = true then (shackleref01_Cut.l0 k l0 a1 a2 ([] : List Int) 0) else (some (([] : List Int), false)))
theorem shackleref01_Cut.mono_l : ∀ k, (∀ y0 y1 y2 y3 y4, LeO (shackleref01_Cut.l0 k y0 y1 y2 y3 y4) (shackleref01_Cut.l0 (k + 1) y0 y1 y2 y3 y4))
  | 0 => fun _ _ _ _ _ r h => by simp [shackleref01_Cut.l0] at h
  | k + 1 => by
    have ih0 := shackleref01_Cut.mono_l k
    · intro y0 y1 y2 y3 y4
      unfold shackleref01_Cut.l0
      repeat' first
      | (with_reducible exact ih0 _ _ _ _ _)
      | (with_reducible exact LeO.refl _)
      | (with_reducible exact LeO.none _)
      | (with_reducible refine LeO.ite ?_ ?_)
      | (with_reducible refine LeO.bind ?_ (fun _ => ?_))
      | exact ih0 _ _ _ _ _
      | exact LeO.none _
      | refine LeO.ite ?_ ?_
      | refine LeO.bind ?_ (fun _ => ?_)
theorem shackleref01_Cut.mono : ∀ a0 a1 a2 k, LeO (shackleref01_Cut.f k a0 a1 a2) (shackleref01_Cut.f (k + 1) a0 a1 a2) := by
  intro a0 a1 a2 k
  have ih0 := shackleref01_Cut.mono_l k
  unfold shackleref01_Cut.f
  repeat' first
      | (with_reducible exact ih0 _ _ _ _ _)
      | (with_reducible exact LeO.refl _)
      | (with_reducible exact LeO.none _)
      | (with_reducible refine LeO.ite ?_ ?_)
      | (with_reducible refine LeO.bind ?_ (fun _ => ?_))
      | exact ih0 _ _ _ _ _
      | exact LeO.none _
      | refine LeO.ite ?_ ?_
      | refine LeO.bind ?_ (fun _ => ?_)
set_option maxHeartbeats 8000000 in
set_option maxRecDepth 100000 in
theorem shackleref01_Cut.calls (k : Nat) (A0 : Option Addr) (c0 : Nat) (l0 : List Int) (a1 : Int) (a2 : Int) (r1 : List Int) (r2 : Bool) (w : World) (hr0 : Kd.C (Kd.int .u8) w A0 l0.length l0) (hc0 : l0.length ≤ c0) (h : shackleref01_Cut.f k l0 a1 a2 = some (r1, r2)) :
    Calls Tryd.prog 12 #[.slice A0 l0.length c0, .int .u64 a1, .int .u64 a2] w fun e w' => ∃ v0_ : Value, e = .returned (.tuple #[v0_, .bool r2]) ∧ Kd.R (Kd.int .u8) 5 w' w.heap.size (fun _ => True) v0_ r1 ∧ Below w.heap.size w w' := by
  have HR0 := Aside0.mk hr0
  have HC0 := Aside0.mk hc0
  clear hr0 hc0
  have HB := Aside0.mk (Below.refl w.heap.size w)
  have H : ((shackleref01_In.f (IntKind.u64.wrap ((l0.length : Int))) a1 a2).bind fun t162 => (if t162 = true then (shackleref01_Cut.l0 k l0 a1 a2 ([] : List Int) 0) else (some (([] : List Int), false)))) = some (r1, r2) := h
  clear h
  replace H := Option.bind_eq_some_iff.mp H
  obtain ⟨t162, A40, H⟩ := H
  replace H : (if t162 = true then (shackleref01_Cut.l0 k l0 a1 a2 ([] : List Int) 0) else (some (([] : List Int), false))) = some (r1, r2) := H
  have A4 := Aside0.mk A40
  clear A40
  by_cases c5 : t162 = true
  · subst c5
    have H1 : (shackleref01_Cut.l0 k l0 a1 a2 ([] : List Int) 0) = some (r1, r2) := by rw [if_pos rfl] at H; exact H
    clear H
    have H := H1
    clear H1
    have H' := Aside0.mk H
    clear H
    go_enter Tryd.func12, Tryd.ntmps12
    go_wp2_with (first | ((with_reducible refine gate_callee (f := 24) rfl ?_); refine goesL_ (some 16) rfl rfl Tryd.func24 (by kernel_rfl) rfl #[.int .u64 (IntKind.u64.wrap ((l0.length : Int))), .int .u64 a1, .int .u64 a2] rfl (by (try simp only [List.map_toArray, List.map_cons, List.map_nil]); first | done | rfl | (simp only [List.length_drop, List.length_take]; rfl)) ?_; (with_reducible refine (shackleref01_In.calls (IntKind.u64.wrap ((l0.length : Int))) a1 a2 true _ A4.out).mono ?_); rintro e w' ⟨rfl, ⟨nd, rfl⟩⟩; refine ⟨_, rfl, ?_⟩))
    go_loopg [9, 10] k (fun kq v9 v10 w' => ∃ (x9_1 : List Int) (x10_1 : Int), v10 = .int .u64 x10_1 ∧ Aside0 (shackleref01_Cut.l0 kq l0 a1 a2 x9_1 x10_1 = some (r1, r2)) ∧ Aside0 (kq ≤ k) ∧ Aside0 (Kd.R (Kd.int .u8) 5 w' w.heap.size (fun _ => True) v9 x9_1) ∧ Aside0 (Below w.heap.size w w'))
    case atStart => exact ⟨(([] : List Int)), (0), (by first | rfl | (simp; done) | (simp [*]; done)), H', ⟨Nat.le_refl _⟩, ⟨by first | exact Kd.R_nil _ _ _ _ _ | exact Kd.N_nil _ _ _ _ _ | exact Kd.V_nil _ _ _ _ _ | exact Kd.Q_nil _ _ _ _ _ | exact Kd.S_nil _ _ _ _ _⟩, ⟨by repeat (first | (with_reducible first | exact HB.out | apply below_alloc | apply pw_below_drewN | apply below_drew1) | exact HB.out)⟩⟩
    case round =>
      clear H'
      try clear c1
      try clear c2
      try clear p2
      try clear c5
      obtain ⟨x9_1, x10_1, rfl, HA, HK1, HO_9, HB⟩ := hrel
      cases gk with
      | zero => exact absurd HA.out (by simp [shackleref01_Cut.l0])
      | succ k1 =>
        have H := HA.out
        clear HA
        simp only [shackleref01_Cut.l0] at H
        by_cases c6 : x10_1 < a2
        · rw [if_pos c6] at H
          have c6b0 : decide (x10_1 < a2) = true := decide_eq_true c6
          clear c6
          obtain ⟨ji7, hji7⟩ : ∃ j_ : Int, (IntKind.u64.wrap (a1 + x10_1)) = j_ := ⟨_, rfl⟩
          replace H : (if 0 ≤ (ji7) then (if (ji7) < (l0.length : Int) then (if x9_1.length < 140737488355328 then (shackleref01_Cut.l0 k1 l0 a1 a2 (x9_1 ++ [rd l0 (ji7)]) (IntKind.u64.wrap (x10_1 + 1))) else (none)) else (none)) else (none)) = some (r1, r2) := by first | (rw [hji7] at H; exact H) | (simp only [hji7] at H ⊢; exact H)
          by_cases c8 : 0 ≤ (ji7)
          · rw [if_pos c8] at H
            have c8b0 : decide (0 ≤ (ji7)) = true := decide_eq_true c8
            clear c8
            by_cases c9 : (ji7) < (l0.length : Int)
            · rw [if_pos c9] at H
              have c9b0 : decide ((ji7) < (l0.length : Int)) = true := decide_eq_true c9
              clear c9
              by_cases c10 : x9_1.length < 140737488355328
              · rw [if_pos c10] at H
                have LMc10 := Aside0.mk c10
                clear c10
                obtain ⟨y164, hy164⟩ : ∃ y_ : List Int, y_ = (x9_1 ++ [rd l0 (ji7)]) := ⟨_, rfl⟩
                replace H : (shackleref01_Cut.l0 k1 l0 a1 a2 y164 (IntKind.u64.wrap (x10_1 + 1))) = some (r1, r2) := by first | (rw [hy164]; with_reducible exact H) | (have H2_ := (Option.bind_some _ _).symm.trans H; rw [hy164]; with_reducible exact H2_) | (have H2_ := (Option.bind_some _ _).symm.trans H; with_reducible exact H2_) | with_reducible exact H | (rw [hy164]; exact H) | exact H
                have Ny164 := Aside0.mk hy164
                clear hy164
                have H' := Aside0.mk H
                clear H
                have p163 : 0 ≤ ((ji7) : Int) := of_decide_eq_true (by first | (with_reducible assumption) | assumption)
                have q163 : (ji7) < (l0.length : Int) := of_decide_eq_true (by first | (with_reducible assumption) | assumption)
                obtain ⟨ad163, e163, hx163_0⟩ := Kd.at_int HR0.out (ji7) p163 q163
                cases e163
                replace hx163_0 := (HB.out.cell (World.block_lt_of_cell? w _ hx163_0)).trans hx163_0
                replace p163 := eq_true p163
                replace q163 := eq_true q163
                go_wp2_with (first | ((with_reducible refine gate_builtin (b := .append) (xs := #[.tmp 24, .tmp 31]) rfl ?_); at_builtin; refine Kd.R_append (Kd.int .u8) (w0 := w) w.heap.size rfl (.tmp 24) (.tmp 31) 22 5 (.int .u8 0) 1 rfl Tryd.underlying22 info5 rfl (by decide) (by omega) u9 x9_1 (rd l0 (ji7)) [.int .u8 (rd l0 (ji7))] (fun _ => True) (fun _ => False) rfl rfl ?aP (fun _ hk => hk.elim) ?aF ?aO ?aB ?aS ?aL ?_; (case aP => exact rfl); (case aB => exact (by repeat (first | (with_reducible first | exact HB.out | apply below_alloc | apply pw_below_drewN | apply below_drew1) | exact HB.out))); (case aF => exact (fun _ _ => trivial)); (case aO => exact (by (with_reducible repeat (first | apply Kd.R_alloc | apply Kd.R_drewN | apply Kd.R_drew)); exact HO_9.out)); (case aS => exact (below_size (by repeat (first | (with_reducible first | exact HB.out | apply below_alloc | apply pw_below_drewN | apply below_drew1) | exact HB.out)))); (case aL => have := LMc10.out; omega); intro v165 w11 ho hb hg hat; rw [← Ny164.out] at ho; have n0_ := Aside0.mk (hb); have n1_ := Aside0.mk (ho); clear HB; clear HO_9; have HB := n0_; have HO166 := n1_; clear n0_ n1_; clear ho hb hg hat))
                go_roundg k1
                case measure => have := HK1.out; omega
                case rel => exact ⟨(y164), (IntKind.u64.wrap (x10_1 + 1)), (by first | rfl | (simp; done) | (simp [*]; done)), H', ⟨by have := HK1.out; omega⟩, ⟨by (with_reducible repeat (first | apply Kd.R_alloc | apply Kd.R_drewN | apply Kd.R_drew)); exact HO166.out⟩, ⟨by repeat (first | (with_reducible first | exact HB.out | apply below_alloc | apply pw_below_drewN | apply below_drew1) | exact HB.out)⟩⟩
              · rw [if_neg c10] at H
                exact absurd H (by simp)
            · rw [if_neg c9] at H
              exact absurd H (by simp)
          · rw [if_neg c8] at H
            exact absurd H (by simp)
        · rw [if_neg c6] at H
          have c6b0 : decide (x10_1 < a2) = false := decide_eq_false c6
          clear c6
          simp only [Option.some.injEq, Prod.mk.injEq] at H
          obtain ⟨rfl, rfl⟩ := H
          go_wp2
          go_ret2
          exact ⟨_, by first | rfl | (simp [errW_none, errW_some] <;> rfl) | (simp [*, errW_none, errW_some] <;> rfl), by (with_reducible repeat (first | apply Kd.R_alloc | apply Kd.R_drewN | apply Kd.R_drew)); exact HO_9.out, by repeat (first | (with_reducible first | exact HB.out | apply below_alloc | apply pw_below_drewN | apply below_drew1) | exact HB.out)⟩
  · replace c5 := Bool.eq_false_iff.mpr c5
    subst c5
    have H1 : (some (([] : List Int), false)) = some (r1, r2) := by rw [if_neg (show ¬ (false = true) by decide)] at H; exact H
    clear H
    have H := H1
    clear H1
    simp only [Option.some.injEq, Prod.mk.injEq] at H
    obtain ⟨rfl, rfl⟩ := H
    go_enter Tryd.func12, Tryd.ntmps12
    go_wp2_with (first | ((with_reducible refine gate_callee (f := 24) rfl ?_); refine goesL_ (some 16) rfl rfl Tryd.func24 (by kernel_rfl) rfl #[.int .u64 (IntKind.u64.wrap ((l0.length : Int))), .int .u64 a1, .int .u64 a2] rfl (by (try simp only [List.map_toArray, List.map_cons, List.map_nil]); first | done | rfl | (simp only [List.length_drop, List.length_take]; rfl)) ?_; (with_reducible refine (shackleref01_In.calls (IntKind.u64.wrap ((l0.length : Int))) a1 a2 false _ A4.out).mono ?_); rintro e w' ⟨rfl, ⟨nd, rfl⟩⟩; refine ⟨_, rfl, ?_⟩))
    go_ret2
    exact ⟨_, by first | rfl | (simp [errW_none, errW_some] <;> rfl) | (simp [*, errW_none, errW_some] <;> rfl), by first | exact Kd.R_nil _ _ _ _ _ | exact Kd.N_nil _ _ _ _ _ | exact Kd.V_nil _ _ _ _ _ | exact Kd.Q_nil _ _ _ _ _ | exact Kd.S_nil _ _ _ _ _, by repeat (first | (with_reducible first | exact HB.out | apply below_alloc | apply pw_below_drewN | apply below_drew1) | exact HB.out)⟩

end Go.Proofs.YthhlnhbmjkjmlaaDoor.PSpanNumbers
