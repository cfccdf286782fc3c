/- Printed by this session's own program (wip/tools: a turn of the kit's print) out of the translation: each Go function that the law reaches as a Lean function, and that the machine's call comes to what that function tells; no condition but what each theorem names. -/
import Derived.Test.YtjohdgejjnbddaaDoorPHeadNotesx0
import Derived.Test.YtjohdgejjnbddaaDoorPHeadNotesx6
namespace Go.Proofs.YtjohdgejjnbddaaDoor.PHeadNotes
open Go.RowKit Go.Proofs.YtjohdgejjnbddaaDoorW.PrintWords Go.Proofs.YtjohdgejjnbddaaDoorW.PrintLast Go.Proofs.YtjohdgejjnbddaaDoorW.PrintMore Go.Proofs.YtjohdgejjnbddaaDoorX
attribute [local go_sem] max2_int min2_int max_two min_two max_three min_three max_four min_four   -- for this text's walks alone
set_option linter.unusedVariables false
set_option linter.unusedSimpArgs false

/-! ### shacklelaw00_further: function 61 -/
def shacklelaw00_further.f (a0 : Option Int) : Option (Int) := if a0.isNone = true then (some (-1)) else (if (a0.getD 0) < 0 then (some (-1)) else (if (a0.getD 0) = 16 then (some 16) else (if (a0.getD 0) = 17 then (some 17) else (if (a0.getD 0) = 18 then (some 18) else (if (a0.getD 0) = 19 then (some 19) else (if (a0.getD 0) = 20 then (some 20) else (if (a0.getD 0) = 21 then (some 21) else (if (a0.getD 0) = 22 then (some 22) else (if (a0.getD 0) = 23 then (some 23) else (if (a0.getD 0) = 24 then (some 24) else (if (a0.getD 0) = 25 then (some 25) else (if (a0.getD 0) = 26 then (some 26) else (if (a0.getD 0) = 27 then (some 27) else (if (a0.getD 0) = 28 then (some 28) else (if (a0.getD 0) = 29 then (some 29) else (if (a0.getD 0) = 30 then (some 30) else (some (-1))))))))))))))))))
set_option maxHeartbeats 8000000 in
set_option maxRecDepth 100000 in
theorem shacklelaw00_further.calls (e0 : Value) (a0 : Option Int) (r : Int) (w : World) (he0 : ErrAt 32 103 105 w 0 a0 e0) (h : shacklelaw00_further.f a0 = some r) :
  Calls Tryd.prog 61 #[e0] w fun e w' => e = .returned (.int .i64 r) ∧ Drawn0 w w' := by
 have hu29 := Tryd.underlying29; have hu32 := Tryd.underlying32
 have hcm32 : (Tryd.prog.info? 32).map (fun i => i.comparable) = some true := by kernel_rfl
 have EA149 := aM he0; have H : (if a0.isNone = true then (some (-1)) else (if (a0.getD 0) < 0 then (some (-1)) else (if (a0.getD 0) = 16 then (some 16) else (if (a0.getD 0) = 17 then (some 17) else (if (a0.getD 0) = 18 then (some 18) else (if (a0.getD 0) = 19 then (some 19) else (if (a0.getD 0) = 20 then (some 20) else (if (a0.getD 0) = 21 then (some 21) else (if (a0.getD 0) = 22 then (some 22) else (if (a0.getD 0) = 23 then (some 23) else (if (a0.getD 0) = 24 then (some 24) else (if (a0.getD 0) = 25 then (some 25) else (if (a0.getD 0) = 26 then (some 26) else (if (a0.getD 0) = 27 then (some 27) else (if (a0.getD 0) = 28 then (some 28) else (if (a0.getD 0) = 29 then (some 29) else (if (a0.getD 0) = 30 then (some 30) else (some (-1))))))))))))))))))) = some r := h; clear h
 rcases a0 with _ | q151
 ·have H1 : (some (-1)) = some r := by rw [if_pos (show (none : Option Int).isNone = true by rfl)] at H; exact H
  clear H; have H := H1; clear H1; obtain rfl := ErrAt.none_eq he0; obtain rfl := Option.some.inj H
  go_enter Tryd.func61, Tryd.ntmps61
  go_wp2
  go_ret
  exact ⟨by first | rfl | (simp; done) | (simp [*]; done), by repeat (first | exact Drawn0.refl _ | apply Drawn0.step)⟩
 ·have H1 : (if q151 < 0 then (some (-1)) else (if q151 = 16 then (some 16) else (if q151 = 17 then (some 17) else (if q151 = 18 then (some 18) else (if q151 = 19 then (some 19) else (if q151 = 20 then (some 20) else (if q151 = 21 then (some 21) else (if q151 = 22 then (some 22) else (if q151 = 23 then (some 23) else (if q151 = 24 then (some 24) else (if q151 = 25 then (some 25) else (if q151 = 26 then (some 26) else (if q151 = 27 then (some 27) else (if q151 = 28 then (some 28) else (if q151 = 29 then (some 29) else (if q151 = 30 then (some 30) else (some (-1)))))))))))))))))) = some r := by rw [if_neg (show ¬ (some q151).isNone = true by simp)] at H; exact H
  clear H; have H := H1; clear H1
  skip
  by_cases c2 : q151 < 0
  ·rw [if_pos c2] at H; have SQq151 := aM c2; clear c2; obtain ⟨gb149, rfl, _, hbx_⟩ := ErrAt.spot_eq he0 SQq151.out; have BK149 := aM hbx_; clear hbx_; obtain rfl := Option.some.inj H
   go_enter Tryd.func61, Tryd.ntmps61
   go_wp2
   go_ret
   exact ⟨by first | rfl | (simp; done) | (simp [*]; done), by repeat (first | exact Drawn0.refl _ | apply Drawn0.step)⟩
  ·rw [if_neg c2] at H; have SQq151 := aM c2; have c2b1 : decide (0 ≤ q151) = true := decide_eq_true (Int.not_lt.1 c2); clear c2; obtain rfl := ErrAt.code_eq he0 SQq151.out
   by_cases c3 : q151 = 16
   ·rw [if_pos c3] at H; have c3b0 : (q151 == 16) = true := beq_iff_eq.mpr c3; have c3b1 : (q151 != 16) = false := bne_eq_false_iff_eq.mpr c3; clear c3; obtain rfl := Option.some.inj H
    go_enter Tryd.func61, Tryd.ntmps61
    go_wp2
    go_ret
    exact ⟨by first | rfl | (simp; done) | (simp [*]; done), by repeat (first | exact Drawn0.refl _ | apply Drawn0.step)⟩
   ·rw [if_neg c3] at H; have c3b0 : (q151 == 16) = false := beq_eq_false_iff_ne.mpr c3; have c3b1 : (q151 != 16) = true := bne_iff_ne.mpr c3
    by_cases c4 : q151 = 17
    ·rw [if_pos c4] at H; have c4b0 : (q151 == 17) = true := beq_iff_eq.mpr c4; have c4b1 : (q151 != 17) = false := bne_eq_false_iff_eq.mpr c4; clear c4; obtain rfl := Option.some.inj H
     go_enter Tryd.func61, Tryd.ntmps61
     go_wp2
     go_ret
     exact ⟨by first | rfl | (simp; done) | (simp [*]; done), by repeat (first | exact Drawn0.refl _ | apply Drawn0.step)⟩
    ·rw [if_neg c4] at H; have c4b0 : (q151 == 17) = false := beq_eq_false_iff_ne.mpr c4; have c4b1 : (q151 != 17) = true := bne_iff_ne.mpr c4
     by_cases c5 : q151 = 18
     ·rw [if_pos c5] at H; have c5b0 : (q151 == 18) = true := beq_iff_eq.mpr c5; have c5b1 : (q151 != 18) = false := bne_eq_false_iff_eq.mpr c5; clear c5; obtain rfl := Option.some.inj H
      go_enter Tryd.func61, Tryd.ntmps61
      go_wp2
      go_ret
      exact ⟨by first | rfl | (simp; done) | (simp [*]; done), by repeat (first | exact Drawn0.refl _ | apply Drawn0.step)⟩
     ·rw [if_neg c5] at H; have c5b0 : (q151 == 18) = false := beq_eq_false_iff_ne.mpr c5; have c5b1 : (q151 != 18) = true := bne_iff_ne.mpr c5
      by_cases c6 : q151 = 19
      ·rw [if_pos c6] at H; have c6b0 : (q151 == 19) = true := beq_iff_eq.mpr c6; have c6b1 : (q151 != 19) = false := bne_eq_false_iff_eq.mpr c6; clear c6; obtain rfl := Option.some.inj H
       go_enter Tryd.func61, Tryd.ntmps61
       go_wp2
       go_ret
       exact ⟨by first | rfl | (simp; done) | (simp [*]; done), by repeat (first | exact Drawn0.refl _ | apply Drawn0.step)⟩
      ·rw [if_neg c6] at H; have c6b0 : (q151 == 19) = false := beq_eq_false_iff_ne.mpr c6; have c6b1 : (q151 != 19) = true := bne_iff_ne.mpr c6
       by_cases c7 : q151 = 20
       ·rw [if_pos c7] at H; have c7b0 : (q151 == 20) = true := beq_iff_eq.mpr c7; have c7b1 : (q151 != 20) = false := bne_eq_false_iff_eq.mpr c7; clear c7; obtain rfl := Option.some.inj H
        go_enter Tryd.func61, Tryd.ntmps61
        go_wp2
        go_ret
        exact ⟨by first | rfl | (simp; done) | (simp [*]; done), by repeat (first | exact Drawn0.refl _ | apply Drawn0.step)⟩
       ·rw [if_neg c7] at H; have c7b0 : (q151 == 20) = false := beq_eq_false_iff_ne.mpr c7; have c7b1 : (q151 != 20) = true := bne_iff_ne.mpr c7
        by_cases c8 : q151 = 21
        ·rw [if_pos c8] at H; have c8b0 : (q151 == 21) = true := beq_iff_eq.mpr c8; have c8b1 : (q151 != 21) = false := bne_eq_false_iff_eq.mpr c8; clear c8; obtain rfl := Option.some.inj H
         go_enter Tryd.func61, Tryd.ntmps61
         go_wp2
         go_ret
         exact ⟨by first | rfl | (simp; done) | (simp [*]; done), by repeat (first | exact Drawn0.refl _ | apply Drawn0.step)⟩
        ·rw [if_neg c8] at H; have c8b0 : (q151 == 21) = false := beq_eq_false_iff_ne.mpr c8; have c8b1 : (q151 != 21) = true := bne_iff_ne.mpr c8
         by_cases c9 : q151 = 22
         ·rw [if_pos c9] at H; have c9b0 : (q151 == 22) = true := beq_iff_eq.mpr c9; have c9b1 : (q151 != 22) = false := bne_eq_false_iff_eq.mpr c9; clear c9; obtain rfl := Option.some.inj H
          go_enter Tryd.func61, Tryd.ntmps61
          go_wp2
          go_ret
          exact ⟨by first | rfl | (simp; done) | (simp [*]; done), by repeat (first | exact Drawn0.refl _ | apply Drawn0.step)⟩
         ·rw [if_neg c9] at H; have c9b0 : (q151 == 22) = false := beq_eq_false_iff_ne.mpr c9; have c9b1 : (q151 != 22) = true := bne_iff_ne.mpr c9
          by_cases c10 : q151 = 23
          ·rw [if_pos c10] at H; have c10b0 : (q151 == 23) = true := beq_iff_eq.mpr c10; have c10b1 : (q151 != 23) = false := bne_eq_false_iff_eq.mpr c10; clear c10; obtain rfl := Option.some.inj H
           go_enter Tryd.func61, Tryd.ntmps61
           go_wp2
           go_ret
           exact ⟨by first | rfl | (simp; done) | (simp [*]; done), by repeat (first | exact Drawn0.refl _ | apply Drawn0.step)⟩
          ·rw [if_neg c10] at H; have c10b0 : (q151 == 23) = false := beq_eq_false_iff_ne.mpr c10; have c10b1 : (q151 != 23) = true := bne_iff_ne.mpr c10
           by_cases c11 : q151 = 24
           ·rw [if_pos c11] at H; have c11b0 : (q151 == 24) = true := beq_iff_eq.mpr c11; have c11b1 : (q151 != 24) = false := bne_eq_false_iff_eq.mpr c11; clear c11; obtain rfl := Option.some.inj H
            go_enter Tryd.func61, Tryd.ntmps61
            go_wp2
            go_ret
            exact ⟨by first | rfl | (simp; done) | (simp [*]; done), by repeat (first | exact Drawn0.refl _ | apply Drawn0.step)⟩
           ·rw [if_neg c11] at H; have c11b0 : (q151 == 24) = false := beq_eq_false_iff_ne.mpr c11; have c11b1 : (q151 != 24) = true := bne_iff_ne.mpr c11
            by_cases c12 : q151 = 25
            ·rw [if_pos c12] at H; have c12b0 : (q151 == 25) = true := beq_iff_eq.mpr c12; have c12b1 : (q151 != 25) = false := bne_eq_false_iff_eq.mpr c12; clear c12; obtain rfl := Option.some.inj H
             go_enter Tryd.func61, Tryd.ntmps61
             go_wp2
             go_ret
             exact ⟨by first | rfl | (simp; done) | (simp [*]; done), by repeat (first | exact Drawn0.refl _ | apply Drawn0.step)⟩
            ·rw [if_neg c12] at H; have c12b0 : (q151 == 25) = false := beq_eq_false_iff_ne.mpr c12; have c12b1 : (q151 != 25) = true := bne_iff_ne.mpr c12
             by_cases c13 : q151 = 26
             ·rw [if_pos c13] at H; have c13b0 : (q151 == 26) = true := beq_iff_eq.mpr c13; have c13b1 : (q151 != 26) = false := bne_eq_false_iff_eq.mpr c13; clear c13; obtain rfl := Option.some.inj H
              go_enter Tryd.func61, Tryd.ntmps61
              go_wp2
              go_ret
              exact ⟨by first | rfl | (simp; done) | (simp [*]; done), by repeat (first | exact Drawn0.refl _ | apply Drawn0.step)⟩
             ·rw [if_neg c13] at H; have c13b0 : (q151 == 26) = false := beq_eq_false_iff_ne.mpr c13; have c13b1 : (q151 != 26) = true := bne_iff_ne.mpr c13
              by_cases c14 : q151 = 27
              ·rw [if_pos c14] at H; have c14b0 : (q151 == 27) = true := beq_iff_eq.mpr c14; have c14b1 : (q151 != 27) = false := bne_eq_false_iff_eq.mpr c14; clear c14; obtain rfl := Option.some.inj H
               go_enter Tryd.func61, Tryd.ntmps61
               go_wp2
               go_ret
               exact ⟨by first | rfl | (simp; done) | (simp [*]; done), by repeat (first | exact Drawn0.refl _ | apply Drawn0.step)⟩
              ·rw [if_neg c14] at H; have c14b0 : (q151 == 27) = false := beq_eq_false_iff_ne.mpr c14; have c14b1 : (q151 != 27) = true := bne_iff_ne.mpr c14
               by_cases c15 : q151 = 28
               ·rw [if_pos c15] at H; have c15b0 : (q151 == 28) = true := beq_iff_eq.mpr c15; have c15b1 : (q151 != 28) = false := bne_eq_false_iff_eq.mpr c15; clear c15; obtain rfl := Option.some.inj H
                go_enter Tryd.func61, Tryd.ntmps61
                go_wp2
                go_ret
                exact ⟨by first | rfl | (simp; done) | (simp [*]; done), by repeat (first | exact Drawn0.refl _ | apply Drawn0.step)⟩
               ·rw [if_neg c15] at H; have c15b0 : (q151 == 28) = false := beq_eq_false_iff_ne.mpr c15; have c15b1 : (q151 != 28) = true := bne_iff_ne.mpr c15
                by_cases c16 : q151 = 29
                ·rw [if_pos c16] at H; have c16b0 : (q151 == 29) = true := beq_iff_eq.mpr c16; have c16b1 : (q151 != 29) = false := bne_eq_false_iff_eq.mpr c16; clear c16; obtain rfl := Option.some.inj H
                 go_enter Tryd.func61, Tryd.ntmps61
                 go_wp2
                 go_ret
                 exact ⟨by first | rfl | (simp; done) | (simp [*]; done), by repeat (first | exact Drawn0.refl _ | apply Drawn0.step)⟩
                ·rw [if_neg c16] at H; have c16b0 : (q151 == 29) = false := beq_eq_false_iff_ne.mpr c16; have c16b1 : (q151 != 29) = true := bne_iff_ne.mpr c16
                 by_cases c17 : q151 = 30
                 ·rw [if_pos c17] at H; have c17b0 : (q151 == 30) = true := beq_iff_eq.mpr c17; have c17b1 : (q151 != 30) = false := bne_eq_false_iff_eq.mpr c17; clear c17; obtain rfl := Option.some.inj H
                  go_enter Tryd.func61, Tryd.ntmps61
                  go_wp2
                  go_ret
                  exact ⟨by first | rfl | (simp; done) | (simp [*]; done), by repeat (first | exact Drawn0.refl _ | apply Drawn0.step)⟩
                 ·rw [if_neg c17] at H; have c17b0 : (q151 == 30) = false := beq_eq_false_iff_ne.mpr c17; have c17b1 : (q151 != 30) = true := bne_iff_ne.mpr c17; obtain rfl := Option.some.inj H
                  go_enter Tryd.func61, Tryd.ntmps61
                  go_wp2
                  go_ret
                  exact ⟨by first | rfl | (simp; done) | (simp [*]; done), by repeat (first | exact Drawn0.refl _ | apply Drawn0.step)⟩

/-! ### shacklelaw00_Code: function 33 -/
def shacklelaw00_Code.f (a0 : Option Int) : Option (Int) := if a0.isNone = true then (some 0) else (if (a0.getD 0) < 0 then ((shacklelaw00_further.f (some (a0.getD 0))).bind fun t155 => (some t155)) else (if (a0.getD 0) = 1 then (some 1) else (if (a0.getD 0) = 2 then (some 2) else (if (a0.getD 0) = 3 then (some 3) else (if (a0.getD 0) = 4 then (some 4) else (if (a0.getD 0) = 5 then (some 5) else (if (a0.getD 0) = 6 then (some 6) else (if (a0.getD 0) = 7 then (some 7) else (if (a0.getD 0) = 8 then (some 8) else (if (a0.getD 0) = 9 then (some 9) else (if (a0.getD 0) = 10 then (some 10) else (if (a0.getD 0) = 11 then (some 11) else (if (a0.getD 0) = 12 then (some 12) else (if (a0.getD 0) = 13 then (some 13) else (if (a0.getD 0) = 14 then (some 14) else (if (a0.getD 0) = 15 then (some 15) else ((shacklelaw00_further.f (some (a0.getD 0))).bind fun t156 => (some t156))))))))))))))))))
set_option maxHeartbeats 8000000 in
set_option maxRecDepth 100000 in
theorem shacklelaw00_Code.calls (e0 : Value) (a0 : Option Int) (r : Int) (w : World) (he0 : ErrAt 32 103 105 w 0 a0 e0) (h : shacklelaw00_Code.f a0 = some r) :
  Calls Tryd.prog 33 #[e0] w fun e w' => e = .returned (.int .i64 r) ∧ Drawn0 w w' := by
 have hu29 := Tryd.underlying29; have hu32 := Tryd.underlying32
 have hcm32 : (Tryd.prog.info? 32).map (fun i => i.comparable) = some true := by kernel_rfl
 have EA152 := aM he0; have H : (if a0.isNone = true then (some 0) else (if (a0.getD 0) < 0 then ((shacklelaw00_further.f (some (a0.getD 0))).bind fun t155 => (some t155)) else (if (a0.getD 0) = 1 then (some 1) else (if (a0.getD 0) = 2 then (some 2) else (if (a0.getD 0) = 3 then (some 3) else (if (a0.getD 0) = 4 then (some 4) else (if (a0.getD 0) = 5 then (some 5) else (if (a0.getD 0) = 6 then (some 6) else (if (a0.getD 0) = 7 then (some 7) else (if (a0.getD 0) = 8 then (some 8) else (if (a0.getD 0) = 9 then (some 9) else (if (a0.getD 0) = 10 then (some 10) else (if (a0.getD 0) = 11 then (some 11) else (if (a0.getD 0) = 12 then (some 12) else (if (a0.getD 0) = 13 then (some 13) else (if (a0.getD 0) = 14 then (some 14) else (if (a0.getD 0) = 15 then (some 15) else ((shacklelaw00_further.f (some (a0.getD 0))).bind fun t156 => (some t156))))))))))))))))))) = some r := h; clear h
 rcases a0 with _ | q154
 ·have H1 : (some 0) = some r := by rw [if_pos (show (none : Option Int).isNone = true by rfl)] at H; exact H
  clear H; have H := H1; clear H1; obtain rfl := ErrAt.none_eq he0; obtain rfl := Option.some.inj H
  go_enter Tryd.func33, Tryd.ntmps33
  go_wp2
  go_ret
  exact ⟨by first | rfl | (simp; done) | (simp [*]; done), by repeat (first | exact Drawn0.refl _ | apply Drawn0.step)⟩
 ·have H1 : (if q154 < 0 then ((shacklelaw00_further.f (some q154)).bind fun t155 => (some t155)) else (if q154 = 1 then (some 1) else (if q154 = 2 then (some 2) else (if q154 = 3 then (some 3) else (if q154 = 4 then (some 4) else (if q154 = 5 then (some 5) else (if q154 = 6 then (some 6) else (if q154 = 7 then (some 7) else (if q154 = 8 then (some 8) else (if q154 = 9 then (some 9) else (if q154 = 10 then (some 10) else (if q154 = 11 then (some 11) else (if q154 = 12 then (some 12) else (if q154 = 13 then (some 13) else (if q154 = 14 then (some 14) else (if q154 = 15 then (some 15) else ((shacklelaw00_further.f (some q154)).bind fun t156 => (some t156)))))))))))))))))) = some r := by rw [if_neg (show ¬ (some q154).isNone = true by simp)] at H; exact H
  clear H; have H := H1; clear H1
  skip
  by_cases c2 : q154 < 0
  ·rw [if_pos c2] at H; have SQq154 := aM c2; clear c2; obtain ⟨gb152, rfl, _, hbx_⟩ := ErrAt.spot_eq he0 SQq154.out; have BK152 := aM hbx_; clear hbx_; replace H := Option.bind_eq_some_iff.mp H; obtain ⟨t155, A30, H⟩ := H; replace H : (some t155) = some r := H; have A3 := aM A30; clear A30; obtain rfl := Option.some.inj H
   go_enter Tryd.func33, Tryd.ntmps33
   go_wp2_with (first | (go_at_call 61; (with_reducible refine (shacklelaw00_further.calls (.iface 103 (.pointer (some ⟨gb152, 0, none⟩))) (some q154) t155 _ ?side1 A3.out).mono ?_); (case side1 => exact (ErrAt.of_spot SQq154.out (Nat.zero_le _) (by (with_reducible repeat (first | refine kN ?_ _ | refine kD ?_ | refine kA ?_ _)); exact BK152.out))); rintro e w' ⟨rfl, ⟨nd, rfl⟩⟩))
   go_ret
   exact ⟨by first | rfl | (simp; done) | (simp [*]; done), by repeat (first | exact Drawn0.refl _ | apply Drawn0.step)⟩
  ·rw [if_neg c2] at H; have SQq154 := aM c2; have c2b1 : decide (0 ≤ q154) = true := decide_eq_true (Int.not_lt.1 c2); clear c2; obtain rfl := ErrAt.code_eq he0 SQq154.out
   by_cases c4 : q154 = 1
   ·rw [if_pos c4] at H; have c4b0 : (q154 == 1) = true := beq_iff_eq.mpr c4; have c4b1 : (q154 != 1) = false := bne_eq_false_iff_eq.mpr c4; clear c4; obtain rfl := Option.some.inj H
    go_enter Tryd.func33, Tryd.ntmps33
    go_wp2
    go_ret
    exact ⟨by first | rfl | (simp; done) | (simp [*]; done), by repeat (first | exact Drawn0.refl _ | apply Drawn0.step)⟩
   ·rw [if_neg c4] at H; have c4b0 : (q154 == 1) = false := beq_eq_false_iff_ne.mpr c4; have c4b1 : (q154 != 1) = true := bne_iff_ne.mpr c4
    by_cases c5 : q154 = 2
    ·rw [if_pos c5] at H; have c5b0 : (q154 == 2) = true := beq_iff_eq.mpr c5; have c5b1 : (q154 != 2) = false := bne_eq_false_iff_eq.mpr c5; clear c5; obtain rfl := Option.some.inj H
     go_enter Tryd.func33, Tryd.ntmps33
     go_wp2
     go_ret
     exact ⟨by first | rfl | (simp; done) | (simp [*]; done), by repeat (first | exact Drawn0.refl _ | apply Drawn0.step)⟩
    ·rw [if_neg c5] at H; have c5b0 : (q154 == 2) = false := beq_eq_false_iff_ne.mpr c5; have c5b1 : (q154 != 2) = true := bne_iff_ne.mpr c5
     by_cases c6 : q154 = 3
     ·rw [if_pos c6] at H; have c6b0 : (q154 == 3) = true := beq_iff_eq.mpr c6; have c6b1 : (q154 != 3) = false := bne_eq_false_iff_eq.mpr c6; clear c6; obtain rfl := Option.some.inj H
      go_enter Tryd.func33, Tryd.ntmps33
      go_wp2
      go_ret
      exact ⟨by first | rfl | (simp; done) | (simp [*]; done), by repeat (first | exact Drawn0.refl _ | apply Drawn0.step)⟩
     ·rw [if_neg c6] at H; have c6b0 : (q154 == 3) = false := beq_eq_false_iff_ne.mpr c6; have c6b1 : (q154 != 3) = true := bne_iff_ne.mpr c6
      by_cases c7 : q154 = 4
      ·rw [if_pos c7] at H; have c7b0 : (q154 == 4) = true := beq_iff_eq.mpr c7; have c7b1 : (q154 != 4) = false := bne_eq_false_iff_eq.mpr c7; clear c7; obtain rfl := Option.some.inj H
       go_enter Tryd.func33, Tryd.ntmps33
       go_wp2
       go_ret
       exact ⟨by first | rfl | (simp; done) | (simp [*]; done), by repeat (first | exact Drawn0.refl _ | apply Drawn0.step)⟩
      ·rw [if_neg c7] at H; have c7b0 : (q154 == 4) = false := beq_eq_false_iff_ne.mpr c7; have c7b1 : (q154 != 4) = true := bne_iff_ne.mpr c7
       by_cases c8 : q154 = 5
       ·rw [if_pos c8] at H; have c8b0 : (q154 == 5) = true := beq_iff_eq.mpr c8; have c8b1 : (q154 != 5) = false := bne_eq_false_iff_eq.mpr c8; clear c8; obtain rfl := Option.some.inj H
        go_enter Tryd.func33, Tryd.ntmps33
        go_wp2
        go_ret
        exact ⟨by first | rfl | (simp; done) | (simp [*]; done), by repeat (first | exact Drawn0.refl _ | apply Drawn0.step)⟩
       ·rw [if_neg c8] at H; have c8b0 : (q154 == 5) = false := beq_eq_false_iff_ne.mpr c8; have c8b1 : (q154 != 5) = true := bne_iff_ne.mpr c8
        by_cases c9 : q154 = 6
        ·rw [if_pos c9] at H; have c9b0 : (q154 == 6) = true := beq_iff_eq.mpr c9; have c9b1 : (q154 != 6) = false := bne_eq_false_iff_eq.mpr c9; clear c9; obtain rfl := Option.some.inj H
         go_enter Tryd.func33, Tryd.ntmps33
         go_wp2
         go_ret
         exact ⟨by first | rfl | (simp; done) | (simp [*]; done), by repeat (first | exact Drawn0.refl _ | apply Drawn0.step)⟩
        ·rw [if_neg c9] at H; have c9b0 : (q154 == 6) = false := beq_eq_false_iff_ne.mpr c9; have c9b1 : (q154 != 6) = true := bne_iff_ne.mpr c9
         by_cases c10 : q154 = 7
         ·rw [if_pos c10] at H; have c10b0 : (q154 == 7) = true := beq_iff_eq.mpr c10; have c10b1 : (q154 != 7) = false := bne_eq_false_iff_eq.mpr c10; clear c10; obtain rfl := Option.some.inj H
          go_enter Tryd.func33, Tryd.ntmps33
          go_wp2
          go_ret
          exact ⟨by first | rfl | (simp; done) | (simp [*]; done), by repeat (first | exact Drawn0.refl _ | apply Drawn0.step)⟩
         ·rw [if_neg c10] at H; have c10b0 : (q154 == 7) = false := beq_eq_false_iff_ne.mpr c10; have c10b1 : (q154 != 7) = true := bne_iff_ne.mpr c10
          by_cases c11 : q154 = 8
          ·rw [if_pos c11] at H; have c11b0 : (q154 == 8) = true := beq_iff_eq.mpr c11; have c11b1 : (q154 != 8) = false := bne_eq_false_iff_eq.mpr c11; clear c11; obtain rfl := Option.some.inj H
           go_enter Tryd.func33, Tryd.ntmps33
           go_wp2
           go_ret
           exact ⟨by first | rfl | (simp; done) | (simp [*]; done), by repeat (first | exact Drawn0.refl _ | apply Drawn0.step)⟩
          ·rw [if_neg c11] at H; have c11b0 : (q154 == 8) = false := beq_eq_false_iff_ne.mpr c11; have c11b1 : (q154 != 8) = true := bne_iff_ne.mpr c11
           by_cases c12 : q154 = 9
           ·rw [if_pos c12] at H; have c12b0 : (q154 == 9) = true := beq_iff_eq.mpr c12; have c12b1 : (q154 != 9) = false := bne_eq_false_iff_eq.mpr c12; clear c12; obtain rfl := Option.some.inj H
            go_enter Tryd.func33, Tryd.ntmps33
            go_wp2
            go_ret
            exact ⟨by first | rfl | (simp; done) | (simp [*]; done), by repeat (first | exact Drawn0.refl _ | apply Drawn0.step)⟩
           ·rw [if_neg c12] at H; have c12b0 : (q154 == 9) = false := beq_eq_false_iff_ne.mpr c12; have c12b1 : (q154 != 9) = true := bne_iff_ne.mpr c12
            by_cases c13 : q154 = 10
            ·rw [if_pos c13] at H; have c13b0 : (q154 == 10) = true := beq_iff_eq.mpr c13; have c13b1 : (q154 != 10) = false := bne_eq_false_iff_eq.mpr c13; clear c13; obtain rfl := Option.some.inj H
             go_enter Tryd.func33, Tryd.ntmps33
             go_wp2
             go_ret
             exact ⟨by first | rfl | (simp; done) | (simp [*]; done), by repeat (first | exact Drawn0.refl _ | apply Drawn0.step)⟩
            ·rw [if_neg c13] at H; have c13b0 : (q154 == 10) = false := beq_eq_false_iff_ne.mpr c13; have c13b1 : (q154 != 10) = true := bne_iff_ne.mpr c13
             by_cases c14 : q154 = 11
             ·rw [if_pos c14] at H; have c14b0 : (q154 == 11) = true := beq_iff_eq.mpr c14; have c14b1 : (q154 != 11) = false := bne_eq_false_iff_eq.mpr c14; clear c14; obtain rfl := Option.some.inj H
              go_enter Tryd.func33, Tryd.ntmps33
              go_wp2
              go_ret
              exact ⟨by first | rfl | (simp; done) | (simp [*]; done), by repeat (first | exact Drawn0.refl _ | apply Drawn0.step)⟩
             ·rw [if_neg c14] at H; have c14b0 : (q154 == 11) = false := beq_eq_false_iff_ne.mpr c14; have c14b1 : (q154 != 11) = true := bne_iff_ne.mpr c14
              by_cases c15 : q154 = 12
              ·rw [if_pos c15] at H; have c15b0 : (q154 == 12) = true := beq_iff_eq.mpr c15; have c15b1 : (q154 != 12) = false := bne_eq_false_iff_eq.mpr c15; clear c15; obtain rfl := Option.some.inj H
               go_enter Tryd.func33, Tryd.ntmps33
               go_wp2
               go_ret
               exact ⟨by first | rfl | (simp; done) | (simp [*]; done), by repeat (first | exact Drawn0.refl _ | apply Drawn0.step)⟩
              ·rw [if_neg c15] at H; have c15b0 : (q154 == 12) = false := beq_eq_false_iff_ne.mpr c15; have c15b1 : (q154 != 12) = true := bne_iff_ne.mpr c15
               by_cases c16 : q154 = 13
               ·rw [if_pos c16] at H; have c16b0 : (q154 == 13) = true := beq_iff_eq.mpr c16; have c16b1 : (q154 != 13) = false := bne_eq_false_iff_eq.mpr c16; clear c16; obtain rfl := Option.some.inj H
                go_enter Tryd.func33, Tryd.ntmps33
                go_wp2
                go_ret
                exact ⟨by first | rfl | (simp; done) | (simp [*]; done), by repeat (first | exact Drawn0.refl _ | apply Drawn0.step)⟩
               ·rw [if_neg c16] at H; have c16b0 : (q154 == 13) = false := beq_eq_false_iff_ne.mpr c16; have c16b1 : (q154 != 13) = true := bne_iff_ne.mpr c16
                by_cases c17 : q154 = 14
                ·rw [if_pos c17] at H; have c17b0 : (q154 == 14) = true := beq_iff_eq.mpr c17; have c17b1 : (q154 != 14) = false := bne_eq_false_iff_eq.mpr c17; clear c17; obtain rfl := Option.some.inj H
                 go_enter Tryd.func33, Tryd.ntmps33
                 go_wp2
                 go_ret
                 exact ⟨by first | rfl | (simp; done) | (simp [*]; done), by repeat (first | exact Drawn0.refl _ | apply Drawn0.step)⟩
                ·rw [if_neg c17] at H; have c17b0 : (q154 == 14) = false := beq_eq_false_iff_ne.mpr c17; have c17b1 : (q154 != 14) = true := bne_iff_ne.mpr c17
                 by_cases c18 : q154 = 15
                 ·rw [if_pos c18] at H; have c18b0 : (q154 == 15) = true := beq_iff_eq.mpr c18; have c18b1 : (q154 != 15) = false := bne_eq_false_iff_eq.mpr c18; clear c18; obtain rfl := Option.some.inj H
                  go_enter Tryd.func33, Tryd.ntmps33
                  go_wp2
                  go_ret
                  exact ⟨by first | rfl | (simp; done) | (simp [*]; done), by repeat (first | exact Drawn0.refl _ | apply Drawn0.step)⟩
                 ·rw [if_neg c18] at H; have c18b0 : (q154 == 15) = false := beq_eq_false_iff_ne.mpr c18; have c18b1 : (q154 != 15) = true := bne_iff_ne.mpr c18; replace H := Option.bind_eq_some_iff.mp H; obtain ⟨t156, A190, H⟩ := H; replace H : (some t156) = some r := H; have A19 := aM A190; clear A190; obtain rfl := Option.some.inj H
                  go_enter Tryd.func33, Tryd.ntmps33
                  go_wp2_with (first | (go_at_call 61; (with_reducible refine (shacklelaw00_further.calls (.iface 32 (.int .i64 q154)) (some q154) t156 _ ?side1 A19.out).mono ?_); (case side1 => exact (ErrAt.of_code (by first | (with_reducible exact of_decide_eq_true (by assumption)) | exact of_decide_eq_true (by assumption) | decide | omega))); rintro e w' ⟨rfl, ⟨nd, rfl⟩⟩))
                  go_ret
                  exact ⟨by first | rfl | (simp; done) | (simp [*]; done), by repeat (first | exact Drawn0.refl _ | apply Drawn0.step)⟩

/-! ### shacklelaw04_right: function 13 -/
def shacklelaw04_right.f (a0 : Option Int) (a1_0 : Int) (a1_1 : Bool) (a1_2 : Int) : Option (Bool) := if a1_1 = true then ((shacklelaw00_Is.f a0 a1_2 a1_0).bind fun t160 => (some t160)) else ((shacklelaw00_Code.f a0).bind fun t161 => (some (t161 == a1_0)))
set_option maxHeartbeats 8000000 in
set_option maxRecDepth 100000 in
theorem shacklelaw04_right.calls (e0 : Value) (a0 : Option Int) (a1_0 : Int) (a1_1 : Bool) (a1_2 : Int) (r : Bool) (w : World) (hG : ErrTy w) (he0 : ErrAt 32 103 105 w 0 a0 e0) (h : shacklelaw04_right.f a0 a1_0 a1_1 a1_2 = some r) :
  Calls Tryd.prog 13 #[e0, .agg #[.int .i64 a1_0, .bool a1_1, .int .u64 a1_2]] w fun e w' => e = .returned (.bool r) ∧ Below w.heap.size w w' := by
 have hu34 := Tryd.underlying34; have HB := aM (Below.refl w.heap.size w); have EA157 := aM he0; have H : (if a1_1 = true then ((shacklelaw00_Is.f a0 a1_2 a1_0).bind fun t160 => (some t160)) else ((shacklelaw00_Code.f a0).bind fun t161 => (some (t161 == a1_0)))) = some r := h; clear h
 by_cases c3 : a1_1 = true
 ·subst c3
  have H1 : ((shacklelaw00_Is.f a0 a1_2 a1_0).bind fun t160 => (some t160)) = some r := by rw [if_pos rfl] at H; exact H
  clear H; have H := H1; clear H1; replace H := Option.bind_eq_some_iff.mp H; obtain ⟨t160, A40, H⟩ := H; replace H : (some t160) = some r := H; have A4 := aM A40; clear A40; obtain rfl := Option.some.inj H
  go_enter Tryd.func13, Tryd.ntmps13
  go_wp2_with (first | ((with_reducible refine gate_dst (N := 3) rfl ?_); refine box_event ?hg (N := 3) ?hd (cs := #[.int .i64 a1_0, .bool true, .int .u64 a1_2]) (t := 34) ?hr ?_; (case hd => rfl); (case hg => rfl); (case hr => first | (go_simp; done) | (go_simp; rfl)); intro gb159 hg w5 hbox hb; replace EA157 := aM (ErrAt.below (by repeat (first | (with_reducible first | exact EA157.out | apply ErrAt.alloc | apply ErrAt.drewN | apply ErrAt.drew | (apply ErrAt.set; rotate_left; (repeat (first | (apply IsRow.of; apply Aside0.out; assumption) | apply IsRow.set | apply IsRow.alloc | apply IsRow.drewN | apply IsRow.drew)); rotate_right) | decide) | exact EA157.out)) hb); have BK159 := aM (hbox); have GW159 := aM ((by rw [hg]; exact (below_size (by repeat (first | (with_reducible first | exact HB.out | apply bA | apply bN | apply bD) | exact HB.out))) : w.heap.size ≤ gb159)); have GE159 := aM ((by rw [hg]; exact (below_size (by repeat (first | (with_reducible first | exact HB.out | apply bA | apply bN | apply bD) | exact HB.out))) : w.heap.size ≤ gb159)); replace HB := aM (below_step (by repeat (first | (with_reducible first | exact HB.out | apply bA | apply bN | apply bD) | exact HB.out)) hb); clear hb hbox hg; obtain ⟨hcz6_0, hcz6_1, hcz6_2, hfz6_0, hfz6_1, hfz6_2⟩ := bx3 BK159.out) | (go_at_call 22; (with_reducible refine (shacklelaw00_Is.calls e0 a0 a1_2 a1_0 t160 _ ?side1 ?side2 A4.out).mono ?_); (case side1 => exact ErrTy.below (by repeat (first | (with_reducible first | exact HB.out | apply bA | apply bN | apply bD | refine below_set ?_ GE159.out) | exact HB.out)) hG); (case side2 => exact (ErrAt.lower (by repeat (first | (with_reducible first | exact EA157.out | apply ErrAt.alloc | apply ErrAt.drewN | apply ErrAt.drew | (apply ErrAt.set; rotate_left; (repeat (first | (apply IsRow.of; apply Aside0.out; assumption) | apply IsRow.set | apply IsRow.alloc | apply IsRow.drewN | apply IsRow.drew)); rotate_right) | decide) | exact EA157.out)) (Nat.zero_le _))); rintro e w7 ⟨rfl, hb⟩; replace EA157 := aM (ErrAt.below (by repeat (first | (with_reducible first | exact EA157.out | apply ErrAt.alloc | apply ErrAt.drewN | apply ErrAt.drew | (apply ErrAt.set; rotate_left; (repeat (first | (apply IsRow.of; apply Aside0.out; assumption) | apply IsRow.set | apply IsRow.alloc | apply IsRow.drewN | apply IsRow.drew)); rotate_right) | decide) | exact EA157.out)) hb); replace BK159 := aM (blk_below (g := gb159) (o := .cells #[.int .i64 a1_0, .bool true, .int .u64 a1_2] 34 (0, 0)) (by (with_reducible repeat (first | refine kN ?_ _ | refine kD ?_ | refine kA ?_ _)); exact BK159.out) hb); replace HB := aM (below_step (by repeat (first | (with_reducible first | exact HB.out | apply bA | apply bN | apply bD | refine below_set ?_ GE159.out) | exact HB.out)) hb); (try clear hb); (try clear hb2); (try clear hk); (try clear hi)))
  repeat (go_quiet (first | ((with_reducible refine gate_dst (N := 3) rfl ?_); refine box_event ?hg (N := 3) ?hd (cs := #[.int .i64 a1_0, .bool true, .int .u64 a1_2]) (t := 34) ?hr ?_; (case hd => rfl); (case hg => rfl); (case hr => first | (go_simp; done) | (go_simp; rfl)); intro gb159 hg w5 hbox hb; replace EA157 := aM (ErrAt.below (by repeat (first | (with_reducible first | exact EA157.out | apply ErrAt.alloc | apply ErrAt.drewN | apply ErrAt.drew | (apply ErrAt.set; rotate_left; (repeat (first | (apply IsRow.of; apply Aside0.out; assumption) | apply IsRow.set | apply IsRow.alloc | apply IsRow.drewN | apply IsRow.drew)); rotate_right) | decide) | exact EA157.out)) hb); have BK159 := aM (hbox); have GW159 := aM ((by rw [hg]; exact (below_size (by repeat (first | (with_reducible first | exact HB.out | apply bA | apply bN | apply bD) | exact HB.out))) : w.heap.size ≤ gb159)); have GE159 := aM ((by rw [hg]; exact (below_size (by repeat (first | (with_reducible first | exact HB.out | apply bA | apply bN | apply bD) | exact HB.out))) : w.heap.size ≤ gb159)); replace HB := aM (below_step (by repeat (first | (with_reducible first | exact HB.out | apply bA | apply bN | apply bD) | exact HB.out)) hb); clear hb hbox hg; obtain ⟨hcz6_0, hcz6_1, hcz6_2, hfz6_0, hfz6_1, hfz6_2⟩ := bx3 BK159.out) | (go_at_call 22; (with_reducible refine (shacklelaw00_Is.calls e0 a0 a1_2 a1_0 t160 _ ?side1 ?side2 A4.out).mono ?_); (case side1 => exact ErrTy.below (by repeat (first | (with_reducible first | exact HB.out | apply bA | apply bN | apply bD | refine below_set ?_ GE159.out) | exact HB.out)) hG); (case side2 => exact (ErrAt.lower (by repeat (first | (with_reducible first | exact EA157.out | apply ErrAt.alloc | apply ErrAt.drewN | apply ErrAt.drew | (apply ErrAt.set; rotate_left; (repeat (first | (apply IsRow.of; apply Aside0.out; assumption) | apply IsRow.set | apply IsRow.alloc | apply IsRow.drewN | apply IsRow.drew)); rotate_right) | decide) | exact EA157.out)) (Nat.zero_le _))); rintro e w7 ⟨rfl, hb⟩; replace EA157 := aM (ErrAt.below (by repeat (first | (with_reducible first | exact EA157.out | apply ErrAt.alloc | apply ErrAt.drewN | apply ErrAt.drew | (apply ErrAt.set; rotate_left; (repeat (first | (apply IsRow.of; apply Aside0.out; assumption) | apply IsRow.set | apply IsRow.alloc | apply IsRow.drewN | apply IsRow.drew)); rotate_right) | decide) | exact EA157.out)) hb); replace BK159 := aM (blk_below (g := gb159) (o := .cells #[.int .i64 a1_0, .bool true, .int .u64 a1_2] 34 (0, 0)) (by (with_reducible repeat (first | refine kN ?_ _ | refine kD ?_ | refine kA ?_ _)); exact BK159.out) hb); replace HB := aM (below_step (by repeat (first | (with_reducible first | exact HB.out | apply bA | apply bN | apply bD | refine below_set ?_ GE159.out) | exact HB.out)) hb); (try clear hb); (try clear hb2); (try clear hk); (try clear hi))); try go_wp2_with (first | ((with_reducible refine gate_dst (N := 3) rfl ?_); refine box_event ?hg (N := 3) ?hd (cs := #[.int .i64 a1_0, .bool true, .int .u64 a1_2]) (t := 34) ?hr ?_; (case hd => rfl); (case hg => rfl); (case hr => first | (go_simp; done) | (go_simp; rfl)); intro gb159 hg w5 hbox hb; replace EA157 := aM (ErrAt.below (by repeat (first | (with_reducible first | exact EA157.out | apply ErrAt.alloc | apply ErrAt.drewN | apply ErrAt.drew | (apply ErrAt.set; rotate_left; (repeat (first | (apply IsRow.of; apply Aside0.out; assumption) | apply IsRow.set | apply IsRow.alloc | apply IsRow.drewN | apply IsRow.drew)); rotate_right) | decide) | exact EA157.out)) hb); have BK159 := aM (hbox); have GW159 := aM ((by rw [hg]; exact (below_size (by repeat (first | (with_reducible first | exact HB.out | apply bA | apply bN | apply bD) | exact HB.out))) : w.heap.size ≤ gb159)); have GE159 := aM ((by rw [hg]; exact (below_size (by repeat (first | (with_reducible first | exact HB.out | apply bA | apply bN | apply bD) | exact HB.out))) : w.heap.size ≤ gb159)); replace HB := aM (below_step (by repeat (first | (with_reducible first | exact HB.out | apply bA | apply bN | apply bD) | exact HB.out)) hb); clear hb hbox hg; obtain ⟨hcz6_0, hcz6_1, hcz6_2, hfz6_0, hfz6_1, hfz6_2⟩ := bx3 BK159.out) | (go_at_call 22; (with_reducible refine (shacklelaw00_Is.calls e0 a0 a1_2 a1_0 t160 _ ?side1 ?side2 A4.out).mono ?_); (case side1 => exact ErrTy.below (by repeat (first | (with_reducible first | exact HB.out | apply bA | apply bN | apply bD | refine below_set ?_ GE159.out) | exact HB.out)) hG); (case side2 => exact (ErrAt.lower (by repeat (first | (with_reducible first | exact EA157.out | apply ErrAt.alloc | apply ErrAt.drewN | apply ErrAt.drew | (apply ErrAt.set; rotate_left; (repeat (first | (apply IsRow.of; apply Aside0.out; assumption) | apply IsRow.set | apply IsRow.alloc | apply IsRow.drewN | apply IsRow.drew)); rotate_right) | decide) | exact EA157.out)) (Nat.zero_le _))); rintro e w7 ⟨rfl, hb⟩; replace EA157 := aM (ErrAt.below (by repeat (first | (with_reducible first | exact EA157.out | apply ErrAt.alloc | apply ErrAt.drewN | apply ErrAt.drew | (apply ErrAt.set; rotate_left; (repeat (first | (apply IsRow.of; apply Aside0.out; assumption) | apply IsRow.set | apply IsRow.alloc | apply IsRow.drewN | apply IsRow.drew)); rotate_right) | decide) | exact EA157.out)) hb); replace BK159 := aM (blk_below (g := gb159) (o := .cells #[.int .i64 a1_0, .bool true, .int .u64 a1_2] 34 (0, 0)) (by (with_reducible repeat (first | refine kN ?_ _ | refine kD ?_ | refine kA ?_ _)); exact BK159.out) hb); replace HB := aM (below_step (by repeat (first | (with_reducible first | exact HB.out | apply bA | apply bN | apply bD | refine below_set ?_ GE159.out) | exact HB.out)) hb); (try clear hb); (try clear hb2); (try clear hk); (try clear hi))))
  go_ret
  exact ⟨by first | rfl | (simp [errW_none, errW_some] <;> rfl) | (simp [*, errW_none, errW_some] <;> rfl), by repeat (first | (with_reducible first | exact HB.out | apply bA | apply bN | apply bD | refine below_set ?_ GE159.out) | exact HB.out)⟩
 ·replace c3 := Bool.eq_false_iff.mpr c3; subst c3
  have H1 : ((shacklelaw00_Code.f a0).bind fun t161 => (some (t161 == a1_0))) = some r := by rw [if_neg (show ¬ (false = true) by decide)] at H; exact H
  clear H; have H := H1; clear H1; replace H := Option.bind_eq_some_iff.mp H; obtain ⟨t161, A80, H⟩ := H; replace H : (some (t161 == a1_0)) = some r := H; have A8 := aM A80; clear A80; obtain rfl := Option.some.inj H
  go_enter Tryd.func13, Tryd.ntmps13
  go_wp2_with (first | ((with_reducible refine gate_dst (N := 3) rfl ?_); refine box_event ?hg (N := 3) ?hd (cs := #[.int .i64 a1_0, .bool false, .int .u64 a1_2]) (t := 34) ?hr ?_; (case hd => rfl); (case hg => rfl); (case hr => first | (go_simp; done) | (go_simp; rfl)); intro gb159 hg w9 hbox hb; replace EA157 := aM (ErrAt.below (by repeat (first | (with_reducible first | exact EA157.out | apply ErrAt.alloc | apply ErrAt.drewN | apply ErrAt.drew | (apply ErrAt.set; rotate_left; (repeat (first | (apply IsRow.of; apply Aside0.out; assumption) | apply IsRow.set | apply IsRow.alloc | apply IsRow.drewN | apply IsRow.drew)); rotate_right) | decide) | exact EA157.out)) hb); have BK159 := aM (hbox); have GW159 := aM ((by rw [hg]; exact (below_size (by repeat (first | (with_reducible first | exact HB.out | apply bA | apply bN | apply bD) | exact HB.out))) : w.heap.size ≤ gb159)); have GE159 := aM ((by rw [hg]; exact (below_size (by repeat (first | (with_reducible first | exact HB.out | apply bA | apply bN | apply bD) | exact HB.out))) : w.heap.size ≤ gb159)); replace HB := aM (below_step (by repeat (first | (with_reducible first | exact HB.out | apply bA | apply bN | apply bD) | exact HB.out)) hb); clear hb hbox hg; obtain ⟨hcz10_0, hcz10_1, hcz10_2, hfz10_0, hfz10_1, hfz10_2⟩ := bx3 BK159.out) | (go_at_call 33; (with_reducible refine (shacklelaw00_Code.calls e0 a0 t161 _ ?side1 A8.out).mono ?_); (case side1 => exact (ErrAt.lower (by repeat (first | (with_reducible first | exact EA157.out | apply ErrAt.alloc | apply ErrAt.drewN | apply ErrAt.drew | (apply ErrAt.set; rotate_left; (repeat (first | (apply IsRow.of; apply Aside0.out; assumption) | apply IsRow.set | apply IsRow.alloc | apply IsRow.drewN | apply IsRow.drew)); rotate_right) | decide) | exact EA157.out)) (Nat.zero_le _))); rintro e w' ⟨rfl, ⟨nd, rfl⟩⟩; (try first | exact ⟨rfl, _, World.drewN_drewN _ _ _⟩ | exact ⟨rfl, _, Eq.trans (World.drewN_drewN _ _ _) (congrArg (World.drewN _) (Nat.add_assoc _ _ _))⟩)))
  repeat (go_quiet (first | ((with_reducible refine gate_dst (N := 3) rfl ?_); refine box_event ?hg (N := 3) ?hd (cs := #[.int .i64 a1_0, .bool false, .int .u64 a1_2]) (t := 34) ?hr ?_; (case hd => rfl); (case hg => rfl); (case hr => first | (go_simp; done) | (go_simp; rfl)); intro gb159 hg w9 hbox hb; replace EA157 := aM (ErrAt.below (by repeat (first | (with_reducible first | exact EA157.out | apply ErrAt.alloc | apply ErrAt.drewN | apply ErrAt.drew | (apply ErrAt.set; rotate_left; (repeat (first | (apply IsRow.of; apply Aside0.out; assumption) | apply IsRow.set | apply IsRow.alloc | apply IsRow.drewN | apply IsRow.drew)); rotate_right) | decide) | exact EA157.out)) hb); have BK159 := aM (hbox); have GW159 := aM ((by rw [hg]; exact (below_size (by repeat (first | (with_reducible first | exact HB.out | apply bA | apply bN | apply bD) | exact HB.out))) : w.heap.size ≤ gb159)); have GE159 := aM ((by rw [hg]; exact (below_size (by repeat (first | (with_reducible first | exact HB.out | apply bA | apply bN | apply bD) | exact HB.out))) : w.heap.size ≤ gb159)); replace HB := aM (below_step (by repeat (first | (with_reducible first | exact HB.out | apply bA | apply bN | apply bD) | exact HB.out)) hb); clear hb hbox hg; obtain ⟨hcz10_0, hcz10_1, hcz10_2, hfz10_0, hfz10_1, hfz10_2⟩ := bx3 BK159.out) | (go_at_call 33; (with_reducible refine (shacklelaw00_Code.calls e0 a0 t161 _ ?side1 A8.out).mono ?_); (case side1 => exact (ErrAt.lower (by repeat (first | (with_reducible first | exact EA157.out | apply ErrAt.alloc | apply ErrAt.drewN | apply ErrAt.drew | (apply ErrAt.set; rotate_left; (repeat (first | (apply IsRow.of; apply Aside0.out; assumption) | apply IsRow.set | apply IsRow.alloc | apply IsRow.drewN | apply IsRow.drew)); rotate_right) | decide) | exact EA157.out)) (Nat.zero_le _))); rintro e w' ⟨rfl, ⟨nd, rfl⟩⟩; (try first | exact ⟨rfl, _, World.drewN_drewN _ _ _⟩ | exact ⟨rfl, _, Eq.trans (World.drewN_drewN _ _ _) (congrArg (World.drewN _) (Nat.add_assoc _ _ _))⟩))); try go_wp2_with (first | ((with_reducible refine gate_dst (N := 3) rfl ?_); refine box_event ?hg (N := 3) ?hd (cs := #[.int .i64 a1_0, .bool false, .int .u64 a1_2]) (t := 34) ?hr ?_; (case hd => rfl); (case hg => rfl); (case hr => first | (go_simp; done) | (go_simp; rfl)); intro gb159 hg w9 hbox hb; replace EA157 := aM (ErrAt.below (by repeat (first | (with_reducible first | exact EA157.out | apply ErrAt.alloc | apply ErrAt.drewN | apply ErrAt.drew | (apply ErrAt.set; rotate_left; (repeat (first | (apply IsRow.of; apply Aside0.out; assumption) | apply IsRow.set | apply IsRow.alloc | apply IsRow.drewN | apply IsRow.drew)); rotate_right) | decide) | exact EA157.out)) hb); have BK159 := aM (hbox); have GW159 := aM ((by rw [hg]; exact (below_size (by repeat (first | (with_reducible first | exact HB.out | apply bA | apply bN | apply bD) | exact HB.out))) : w.heap.size ≤ gb159)); have GE159 := aM ((by rw [hg]; exact (below_size (by repeat (first | (with_reducible first | exact HB.out | apply bA | apply bN | apply bD) | exact HB.out))) : w.heap.size ≤ gb159)); replace HB := aM (below_step (by repeat (first | (with_reducible first | exact HB.out | apply bA | apply bN | apply bD) | exact HB.out)) hb); clear hb hbox hg; obtain ⟨hcz10_0, hcz10_1, hcz10_2, hfz10_0, hfz10_1, hfz10_2⟩ := bx3 BK159.out) | (go_at_call 33; (with_reducible refine (shacklelaw00_Code.calls e0 a0 t161 _ ?side1 A8.out).mono ?_); (case side1 => exact (ErrAt.lower (by repeat (first | (with_reducible first | exact EA157.out | apply ErrAt.alloc | apply ErrAt.drewN | apply ErrAt.drew | (apply ErrAt.set; rotate_left; (repeat (first | (apply IsRow.of; apply Aside0.out; assumption) | apply IsRow.set | apply IsRow.alloc | apply IsRow.drewN | apply IsRow.drew)); rotate_right) | decide) | exact EA157.out)) (Nat.zero_le _))); rintro e w' ⟨rfl, ⟨nd, rfl⟩⟩; (try first | exact ⟨rfl, _, World.drewN_drewN _ _ _⟩ | exact ⟨rfl, _, Eq.trans (World.drewN_drewN _ _ _) (congrArg (World.drewN _) (Nat.add_assoc _ _ _))⟩))))
  go_ret
  exact ⟨by first | rfl | (simp [errW_none, errW_some] <;> rfl) | (simp [*, errW_none, errW_some] <;> rfl), by repeat (first | (with_reducible first | exact HB.out | apply bA | apply bN | apply bD | refine below_set ?_ GE159.out) | exact HB.out)⟩

/-! ### head_four: function 65 -/
def head_four.f (a0 : Int) : Option (Int) := some (Go.bits .andNot .u64 (IntKind.u64.wrap (a0 + 3)) 3)
set_option maxHeartbeats 8000000 in
set_option maxRecDepth 100000 in
theorem head_four.calls (a0 : Int) (r : Int) (w : World) (h : head_four.f a0 = some r) :
  Calls Tryd.prog 65 #[.int .u64 a0] w fun e w' => e = .returned (.int .u64 r) ∧ Drawn0 w w' := by
 have H : (some (Go.bits .andNot .u64 (IntKind.u64.wrap (a0 + 3)) 3)) = some r := h; clear h; obtain rfl := Option.some.inj H
 go_enter Tryd.func65, Tryd.ntmps65
 go_wp2
 go_ret
 exact ⟨by first | rfl | (simp; done) | (simp [*]; done), by repeat (first | exact Drawn0.refl _ | apply Drawn0.step)⟩

/-! ### slices_Clone_byte_byte: function 66 (by hand) -/
def slices_Clone_byte_byte.f (l0 : List Int) : Option (List Int) := if l0.length < 140737488355328 then some l0 else none
set_option maxHeartbeats 4000000 in
set_option maxRecDepth 100000 in
theorem slices_Clone_byte_byte.calls (A0 : Option Addr) (c0 : Nat) (l0 : List Int) (r : List Int) (w : World) (hr0 : Kd.C (Kd.int .u8) w A0 l0.length l0) (hc0 : l0.length ≤ c0) (h : slices_Clone_byte_byte.f l0 = some r) :
  Calls Tryd.prog 66 #[.slice A0 l0.length c0] w fun e w' => ∃ v0_ : Value, e = .returned v0_ ∧ Kd.R (Kd.int .u8) 5 w' w.heap.size (fun _ => True) v0_ r ∧ Below w.heap.size w w' := by
 unfold slices_Clone_byte_byte.f at h
 split at h
 case isFalse => cases h
 rename_i hl
 obtain rfl := Option.some.inj h; have hu22 := Tryd.underlying22; have hu5 := Tryd.underlying5; obtain ⟨i0, hi, hz0, hz1, hz2⟩ := info_parts (show (Tryd.prog.info? 5).map (fun i => (i.zero, i.size, i.bytes)) = some (some (.int .u8 0), 1, 1) by kernel_rfl)
 have hq : ∀ (w : World) (a : Option Addr) (n c n' c' : Nat), (binOp .eql 22 (.slice a n c) (.slice none n' c')).run Tryd.prog w = .ok (.bool a.isNone) w := fun w a n c n' c' => Lib.run_eql_slice_nil w _ _ a n c n' c' hu22
 have hu : ∀ w, Sem.run Tryd.prog (underlying 22) w = .ok (TypeDesc.slice 5) w := run_underlying hu22
 have hz : ∀ w, Sem.run Tryd.prog (Go.sizeOf 5) w = .ok 1 w := fun w => by simp [Go.sizeOf, typeInfo, hi, hz1]
 rcases A0 with _ | a
 ·obtain rfl : l0 = [] := by
   rcases l0 with _ | ⟨x, xs⟩
   ·rfl
   ·obtain ⟨ad, e, _⟩ := hr0.2.2 (by simp)
    cases e
  clear h hl hr0 hc0
  go_enter Tryd.func66, Tryd.ntmps66
  go_wp2
  go_ret
  exact ⟨_, rfl, Kd.R_nil _ _ _ _ _, Below.refl _ _⟩
 ·have HC : Aside (∀ i, i < l0.length → w.cell? (a.add i) = some (.int .u8 (l0.getD i 0))) := fun i hi => by
   obtain ⟨ad, e, hc⟩ := hr0.2.2 (by omega); obtain rfl := Option.some.inj e; obtain ⟨cs, hl, hK, hcs⟩ := hc i _ (List.getElem?_eq_getElem hi); have hK2 : cs = [.int .u8 l0[i]] := hK; subst hK2; have := hcs 0 _ rfl; rw [List.getD_eq_getElem?_getD, List.getElem?_eq_getElem hi]
   have h1 : i * (Kd.int .u8).sz + 0 = i := by show i * 1 + 0 = i; omega
   rw [h1] at this; exact this
  clear h hr0 hc0
  go_enter Tryd.func66, Tryd.ntmps66
  go_wp2_with (at_builtin; refine wpList_append_own _ rfl _ _ 22 rfl w.heap.size 5 i0 (.int .u8 0) 1 1 hu22 hi hz0 hz1 hz2 rfl (by decide) _ _ _ rfl (World.ownsRow_made w #[] 0 (Nat.le_refl _) (Nat.zero_le _) rfl) a l0.length c0 (l0.map (Value.int .u8)) rfl ?k1 ?k2 ?k3 ?k4 ?k5 ?k6 ?_)
  case k1 => simp
  case k2 =>
   intro j u hj
   have hjn : j < l0.length := by
    have := (List.getElem?_eq_some_iff.1 hj).1
    simpa using this
   refine Lib.cell?_alloc_some _ ?_; rw [HC.out j hjn]; rw [List.getElem?_map, List.getElem?_eq_getElem hjn] at hj; rw [List.getD_eq_getElem?_getD, List.getElem?_eq_getElem hjn]; exact hj
  case k3 => intro u hu; obtain ⟨x, _, rfl⟩ := List.mem_map.1 hu; rfl
  case k4 => unfold maxLen; omega
  case k5 => omega
  case k6 => simp
  intro v' w1 hown hgrow hnil
  go_wp2
  go_ret
  have hown2 : w1.ownsRow w.heap.size 5 1 v' l0.length (l0.map (Value.int .u8)) := by simpa using hown
  exact ⟨v', rfl, Kd.R_of_own hown2 (fun _ _ => trivial), ((Below.refl _ w).alloc (Nat.le_refl _) _).grown hgrow (by simp) (by intro k hk; simp [Value.ownBlock] at hk; omega)⟩

end Go.Proofs.YtjohdgejjnbddaaDoor.PHeadNotes
