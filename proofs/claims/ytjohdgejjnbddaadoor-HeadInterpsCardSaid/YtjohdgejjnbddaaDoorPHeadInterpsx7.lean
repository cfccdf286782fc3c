/- Printed by this session's own program (wip/tools: a turn of the kit's print) out of the translation: each Go function that the law reaches as a Lean function, and that the machine's call comes to what that function tells; no condition but what each theorem names. -/
import Derived.Test.YtjohdgejjnbddaaDoorPHeadInterpsx0
import Derived.Test.YtjohdgejjnbddaaDoorPHeadInterpsx6
namespace Go.Proofs.YtjohdgejjnbddaaDoor.PHeadInterps
open Go.RowKit Go.Proofs.YtjohdgejjnbddaaDoorW.PrintWords Go.Proofs.YtjohdgejjnbddaaDoorW.PrintLast Go.Proofs.YtjohdgejjnbddaaDoorW.PrintMore Go.Proofs.YtjohdgejjnbddaaDoorX
attribute [local go_sem] max2_int min2_int max_two min_two max_three min_three max_four min_four   -- for this text's walks alone
set_option linter.unusedVariables false
set_option linter.unusedSimpArgs false

/-! ### shacklelaw00_Code: function 33 -/
def shacklelaw00_Code.f (a0 : Option Int) : Option (Int) := if a0.isNone = true then (some 0) else (if (a0.getD 0) < 0 then ((shacklelaw00_further.f (some (a0.getD 0))).bind fun t153 => (some t153)) else (if (a0.getD 0) = 1 then (some 1) else (if (a0.getD 0) = 2 then (some 2) else (if (a0.getD 0) = 3 then (some 3) else (if (a0.getD 0) = 4 then (some 4) else (if (a0.getD 0) = 5 then (some 5) else (if (a0.getD 0) = 6 then (some 6) else (if (a0.getD 0) = 7 then (some 7) else (if (a0.getD 0) = 8 then (some 8) else (if (a0.getD 0) = 9 then (some 9) else (if (a0.getD 0) = 10 then (some 10) else (if (a0.getD 0) = 11 then (some 11) else (if (a0.getD 0) = 12 then (some 12) else (if (a0.getD 0) = 13 then (some 13) else (if (a0.getD 0) = 14 then (some 14) else (if (a0.getD 0) = 15 then (some 15) else ((shacklelaw00_further.f (some (a0.getD 0))).bind fun t154 => (some t154))))))))))))))))))
set_option maxHeartbeats 8000000 in
set_option maxRecDepth 100000 in
theorem shacklelaw00_Code.calls (e0 : Value) (a0 : Option Int) (r : Int) (w : World) (he0 : ErrAt 32 103 105 w 0 a0 e0) (h : shacklelaw00_Code.f a0 = some r) :
  Calls Tryd.prog 33 #[e0] w fun e w' => e = .returned (.int .i64 r) ∧ Drawn0 w w' := by
 have hu29 := Tryd.underlying29; have hu32 := Tryd.underlying32
 have hcm32 : (Tryd.prog.info? 32).map (fun i => i.comparable) = some true := by kernel_rfl
 have EA150 := aM he0; have H : (if a0.isNone = true then (some 0) else (if (a0.getD 0) < 0 then ((shacklelaw00_further.f (some (a0.getD 0))).bind fun t153 => (some t153)) else (if (a0.getD 0) = 1 then (some 1) else (if (a0.getD 0) = 2 then (some 2) else (if (a0.getD 0) = 3 then (some 3) else (if (a0.getD 0) = 4 then (some 4) else (if (a0.getD 0) = 5 then (some 5) else (if (a0.getD 0) = 6 then (some 6) else (if (a0.getD 0) = 7 then (some 7) else (if (a0.getD 0) = 8 then (some 8) else (if (a0.getD 0) = 9 then (some 9) else (if (a0.getD 0) = 10 then (some 10) else (if (a0.getD 0) = 11 then (some 11) else (if (a0.getD 0) = 12 then (some 12) else (if (a0.getD 0) = 13 then (some 13) else (if (a0.getD 0) = 14 then (some 14) else (if (a0.getD 0) = 15 then (some 15) else ((shacklelaw00_further.f (some (a0.getD 0))).bind fun t154 => (some t154))))))))))))))))))) = some r := h; clear h
 rcases a0 with _ | q152
 ·have H1 : (some 0) = some r := by rw [if_pos (show (none : Option Int).isNone = true by rfl)] at H; exact H
  clear H; have H := H1; clear H1; obtain rfl := ErrAt.none_eq he0; obtain rfl := Option.some.inj H
  go_enter Tryd.func33, Tryd.ntmps33
  go_wp2
  go_ret
  exact ⟨by first | rfl | (simp; done) | (simp [*]; done), by repeat (first | exact Drawn0.refl _ | apply Drawn0.step)⟩
 ·have H1 : (if q152 < 0 then ((shacklelaw00_further.f (some q152)).bind fun t153 => (some t153)) else (if q152 = 1 then (some 1) else (if q152 = 2 then (some 2) else (if q152 = 3 then (some 3) else (if q152 = 4 then (some 4) else (if q152 = 5 then (some 5) else (if q152 = 6 then (some 6) else (if q152 = 7 then (some 7) else (if q152 = 8 then (some 8) else (if q152 = 9 then (some 9) else (if q152 = 10 then (some 10) else (if q152 = 11 then (some 11) else (if q152 = 12 then (some 12) else (if q152 = 13 then (some 13) else (if q152 = 14 then (some 14) else (if q152 = 15 then (some 15) else ((shacklelaw00_further.f (some q152)).bind fun t154 => (some t154)))))))))))))))))) = some r := by rw [if_neg (show ¬ (some q152).isNone = true by simp)] at H; exact H
  clear H; have H := H1; clear H1
  skip
  by_cases c2 : q152 < 0
  ·rw [if_pos c2] at H; have SQq152 := aM c2; clear c2; obtain ⟨gb150, rfl, _, hbx_⟩ := ErrAt.spot_eq he0 SQq152.out; have BK150 := aM hbx_; clear hbx_; replace H := Option.bind_eq_some_iff.mp H; obtain ⟨t153, A30, H⟩ := H; replace H : (some t153) = some r := H; have A3 := aM A30; clear A30; obtain rfl := Option.some.inj H
   go_enter Tryd.func33, Tryd.ntmps33
   go_wp2_with (first | (go_at_call 61; (with_reducible refine (shacklelaw00_further.calls (.iface 103 (.pointer (some ⟨gb150, 0, none⟩))) (some q152) t153 _ ?side1 A3.out).mono ?_); (case side1 => exact (ErrAt.of_spot SQq152.out (Nat.zero_le _) (by (with_reducible repeat (first | refine kN ?_ _ | refine kD ?_ | refine kA ?_ _)); exact BK150.out))); rintro e w' ⟨rfl, ⟨nd, rfl⟩⟩))
   go_ret
   exact ⟨by first | rfl | (simp; done) | (simp [*]; done), by repeat (first | exact Drawn0.refl _ | apply Drawn0.step)⟩
  ·rw [if_neg c2] at H; have SQq152 := aM c2; have c2b1 : decide (0 ≤ q152) = true := decide_eq_true (Int.not_lt.1 c2); clear c2; obtain rfl := ErrAt.code_eq he0 SQq152.out
   by_cases c4 : q152 = 1
   ·rw [if_pos c4] at H; have c4b0 : (q152 == 1) = true := beq_iff_eq.mpr c4; have c4b1 : (q152 != 1) = false := bne_eq_false_iff_eq.mpr c4; clear c4; obtain rfl := Option.some.inj H
    go_enter Tryd.func33, Tryd.ntmps33
    go_wp2
    go_ret
    exact ⟨by first | rfl | (simp; done) | (simp [*]; done), by repeat (first | exact Drawn0.refl _ | apply Drawn0.step)⟩
   ·rw [if_neg c4] at H; have c4b0 : (q152 == 1) = false := beq_eq_false_iff_ne.mpr c4; have c4b1 : (q152 != 1) = true := bne_iff_ne.mpr c4
    by_cases c5 : q152 = 2
    ·rw [if_pos c5] at H; have c5b0 : (q152 == 2) = true := beq_iff_eq.mpr c5; have c5b1 : (q152 != 2) = false := bne_eq_false_iff_eq.mpr c5; clear c5; obtain rfl := Option.some.inj H
     go_enter Tryd.func33, Tryd.ntmps33
     go_wp2
     go_ret
     exact ⟨by first | rfl | (simp; done) | (simp [*]; done), by repeat (first | exact Drawn0.refl _ | apply Drawn0.step)⟩
    ·rw [if_neg c5] at H; have c5b0 : (q152 == 2) = false := beq_eq_false_iff_ne.mpr c5; have c5b1 : (q152 != 2) = true := bne_iff_ne.mpr c5
     by_cases c6 : q152 = 3
     ·rw [if_pos c6] at H; have c6b0 : (q152 == 3) = true := beq_iff_eq.mpr c6; have c6b1 : (q152 != 3) = false := bne_eq_false_iff_eq.mpr c6; clear c6; obtain rfl := Option.some.inj H
      go_enter Tryd.func33, Tryd.ntmps33
      go_wp2
      go_ret
      exact ⟨by first | rfl | (simp; done) | (simp [*]; done), by repeat (first | exact Drawn0.refl _ | apply Drawn0.step)⟩
     ·rw [if_neg c6] at H; have c6b0 : (q152 == 3) = false := beq_eq_false_iff_ne.mpr c6; have c6b1 : (q152 != 3) = true := bne_iff_ne.mpr c6
      by_cases c7 : q152 = 4
      ·rw [if_pos c7] at H; have c7b0 : (q152 == 4) = true := beq_iff_eq.mpr c7; have c7b1 : (q152 != 4) = false := bne_eq_false_iff_eq.mpr c7; clear c7; obtain rfl := Option.some.inj H
       go_enter Tryd.func33, Tryd.ntmps33
       go_wp2
       go_ret
       exact ⟨by first | rfl | (simp; done) | (simp [*]; done), by repeat (first | exact Drawn0.refl _ | apply Drawn0.step)⟩
      ·rw [if_neg c7] at H; have c7b0 : (q152 == 4) = false := beq_eq_false_iff_ne.mpr c7; have c7b1 : (q152 != 4) = true := bne_iff_ne.mpr c7
       by_cases c8 : q152 = 5
       ·rw [if_pos c8] at H; have c8b0 : (q152 == 5) = true := beq_iff_eq.mpr c8; have c8b1 : (q152 != 5) = false := bne_eq_false_iff_eq.mpr c8; clear c8; obtain rfl := Option.some.inj H
        go_enter Tryd.func33, Tryd.ntmps33
        go_wp2
        go_ret
        exact ⟨by first | rfl | (simp; done) | (simp [*]; done), by repeat (first | exact Drawn0.refl _ | apply Drawn0.step)⟩
       ·rw [if_neg c8] at H; have c8b0 : (q152 == 5) = false := beq_eq_false_iff_ne.mpr c8; have c8b1 : (q152 != 5) = true := bne_iff_ne.mpr c8
        by_cases c9 : q152 = 6
        ·rw [if_pos c9] at H; have c9b0 : (q152 == 6) = true := beq_iff_eq.mpr c9; have c9b1 : (q152 != 6) = false := bne_eq_false_iff_eq.mpr c9; clear c9; obtain rfl := Option.some.inj H
         go_enter Tryd.func33, Tryd.ntmps33
         go_wp2
         go_ret
         exact ⟨by first | rfl | (simp; done) | (simp [*]; done), by repeat (first | exact Drawn0.refl _ | apply Drawn0.step)⟩
        ·rw [if_neg c9] at H; have c9b0 : (q152 == 6) = false := beq_eq_false_iff_ne.mpr c9; have c9b1 : (q152 != 6) = true := bne_iff_ne.mpr c9
         by_cases c10 : q152 = 7
         ·rw [if_pos c10] at H; have c10b0 : (q152 == 7) = true := beq_iff_eq.mpr c10; have c10b1 : (q152 != 7) = false := bne_eq_false_iff_eq.mpr c10; clear c10; obtain rfl := Option.some.inj H
          go_enter Tryd.func33, Tryd.ntmps33
          go_wp2
          go_ret
          exact ⟨by first | rfl | (simp; done) | (simp [*]; done), by repeat (first | exact Drawn0.refl _ | apply Drawn0.step)⟩
         ·rw [if_neg c10] at H; have c10b0 : (q152 == 7) = false := beq_eq_false_iff_ne.mpr c10; have c10b1 : (q152 != 7) = true := bne_iff_ne.mpr c10
          by_cases c11 : q152 = 8
          ·rw [if_pos c11] at H; have c11b0 : (q152 == 8) = true := beq_iff_eq.mpr c11; have c11b1 : (q152 != 8) = false := bne_eq_false_iff_eq.mpr c11; clear c11; obtain rfl := Option.some.inj H
           go_enter Tryd.func33, Tryd.ntmps33
           go_wp2
           go_ret
           exact ⟨by first | rfl | (simp; done) | (simp [*]; done), by repeat (first | exact Drawn0.refl _ | apply Drawn0.step)⟩
          ·rw [if_neg c11] at H; have c11b0 : (q152 == 8) = false := beq_eq_false_iff_ne.mpr c11; have c11b1 : (q152 != 8) = true := bne_iff_ne.mpr c11
           by_cases c12 : q152 = 9
           ·rw [if_pos c12] at H; have c12b0 : (q152 == 9) = true := beq_iff_eq.mpr c12; have c12b1 : (q152 != 9) = false := bne_eq_false_iff_eq.mpr c12; clear c12; obtain rfl := Option.some.inj H
            go_enter Tryd.func33, Tryd.ntmps33
            go_wp2
            go_ret
            exact ⟨by first | rfl | (simp; done) | (simp [*]; done), by repeat (first | exact Drawn0.refl _ | apply Drawn0.step)⟩
           ·rw [if_neg c12] at H; have c12b0 : (q152 == 9) = false := beq_eq_false_iff_ne.mpr c12; have c12b1 : (q152 != 9) = true := bne_iff_ne.mpr c12
            by_cases c13 : q152 = 10
            ·rw [if_pos c13] at H; have c13b0 : (q152 == 10) = true := beq_iff_eq.mpr c13; have c13b1 : (q152 != 10) = false := bne_eq_false_iff_eq.mpr c13; clear c13; obtain rfl := Option.some.inj H
             go_enter Tryd.func33, Tryd.ntmps33
             go_wp2
             go_ret
             exact ⟨by first | rfl | (simp; done) | (simp [*]; done), by repeat (first | exact Drawn0.refl _ | apply Drawn0.step)⟩
            ·rw [if_neg c13] at H; have c13b0 : (q152 == 10) = false := beq_eq_false_iff_ne.mpr c13; have c13b1 : (q152 != 10) = true := bne_iff_ne.mpr c13
             by_cases c14 : q152 = 11
             ·rw [if_pos c14] at H; have c14b0 : (q152 == 11) = true := beq_iff_eq.mpr c14; have c14b1 : (q152 != 11) = false := bne_eq_false_iff_eq.mpr c14; clear c14; obtain rfl := Option.some.inj H
              go_enter Tryd.func33, Tryd.ntmps33
              go_wp2
              go_ret
              exact ⟨by first | rfl | (simp; done) | (simp [*]; done), by repeat (first | exact Drawn0.refl _ | apply Drawn0.step)⟩
             ·rw [if_neg c14] at H; have c14b0 : (q152 == 11) = false := beq_eq_false_iff_ne.mpr c14; have c14b1 : (q152 != 11) = true := bne_iff_ne.mpr c14
              by_cases c15 : q152 = 12
              ·rw [if_pos c15] at H; have c15b0 : (q152 == 12) = true := beq_iff_eq.mpr c15; have c15b1 : (q152 != 12) = false := bne_eq_false_iff_eq.mpr c15; clear c15; obtain rfl := Option.some.inj H
               go_enter Tryd.func33, Tryd.ntmps33
               go_wp2
               go_ret
               exact ⟨by first | rfl | (simp; done) | (simp [*]; done), by repeat (first | exact Drawn0.refl _ | apply Drawn0.step)⟩
              ·rw [if_neg c15] at H; have c15b0 : (q152 == 12) = false := beq_eq_false_iff_ne.mpr c15; have c15b1 : (q152 != 12) = true := bne_iff_ne.mpr c15
               by_cases c16 : q152 = 13
               ·rw [if_pos c16] at H; have c16b0 : (q152 == 13) = true := beq_iff_eq.mpr c16; have c16b1 : (q152 != 13) = false := bne_eq_false_iff_eq.mpr c16; clear c16; obtain rfl := Option.some.inj H
                go_enter Tryd.func33, Tryd.ntmps33
                go_wp2
                go_ret
                exact ⟨by first | rfl | (simp; done) | (simp [*]; done), by repeat (first | exact Drawn0.refl _ | apply Drawn0.step)⟩
               ·rw [if_neg c16] at H; have c16b0 : (q152 == 13) = false := beq_eq_false_iff_ne.mpr c16; have c16b1 : (q152 != 13) = true := bne_iff_ne.mpr c16
                by_cases c17 : q152 = 14
                ·rw [if_pos c17] at H; have c17b0 : (q152 == 14) = true := beq_iff_eq.mpr c17; have c17b1 : (q152 != 14) = false := bne_eq_false_iff_eq.mpr c17; clear c17; obtain rfl := Option.some.inj H
                 go_enter Tryd.func33, Tryd.ntmps33
                 go_wp2
                 go_ret
                 exact ⟨by first | rfl | (simp; done) | (simp [*]; done), by repeat (first | exact Drawn0.refl _ | apply Drawn0.step)⟩
                ·rw [if_neg c17] at H; have c17b0 : (q152 == 14) = false := beq_eq_false_iff_ne.mpr c17; have c17b1 : (q152 != 14) = true := bne_iff_ne.mpr c17
                 by_cases c18 : q152 = 15
                 ·rw [if_pos c18] at H; have c18b0 : (q152 == 15) = true := beq_iff_eq.mpr c18; have c18b1 : (q152 != 15) = false := bne_eq_false_iff_eq.mpr c18; clear c18; obtain rfl := Option.some.inj H
                  go_enter Tryd.func33, Tryd.ntmps33
                  go_wp2
                  go_ret
                  exact ⟨by first | rfl | (simp; done) | (simp [*]; done), by repeat (first | exact Drawn0.refl _ | apply Drawn0.step)⟩
                 ·rw [if_neg c18] at H; have c18b0 : (q152 == 15) = false := beq_eq_false_iff_ne.mpr c18; have c18b1 : (q152 != 15) = true := bne_iff_ne.mpr c18; replace H := Option.bind_eq_some_iff.mp H; obtain ⟨t154, A190, H⟩ := H; replace H : (some t154) = some r := H; have A19 := aM A190; clear A190; obtain rfl := Option.some.inj H
                  go_enter Tryd.func33, Tryd.ntmps33
                  go_wp2_with (first | (go_at_call 61; (with_reducible refine (shacklelaw00_further.calls (.iface 32 (.int .i64 q152)) (some q152) t154 _ ?side1 A19.out).mono ?_); (case side1 => exact (ErrAt.of_code (by first | (with_reducible exact of_decide_eq_true (by assumption)) | exact of_decide_eq_true (by assumption) | decide | omega))); rintro e w' ⟨rfl, ⟨nd, rfl⟩⟩))
                  go_ret
                  exact ⟨by first | rfl | (simp; done) | (simp [*]; done), by repeat (first | exact Drawn0.refl _ | apply Drawn0.step)⟩

/-! ### shacklelaw04_right: function 13 -/
def shacklelaw04_right.f (a0 : Option Int) (a1_0 : Int) (a1_1 : Bool) (a1_2 : Int) : Option (Bool) := if a1_1 = true then ((shacklelaw00_Is.f a0 a1_2 a1_0).bind fun t158 => (some t158)) else ((shacklelaw00_Code.f a0).bind fun t159 => (some (t159 == a1_0)))
set_option maxHeartbeats 8000000 in
set_option maxRecDepth 100000 in
theorem shacklelaw04_right.calls (e0 : Value) (a0 : Option Int) (a1_0 : Int) (a1_1 : Bool) (a1_2 : Int) (r : Bool) (w : World) (hG : ErrTy w) (he0 : ErrAt 32 103 105 w 0 a0 e0) (h : shacklelaw04_right.f a0 a1_0 a1_1 a1_2 = some r) :
  Calls Tryd.prog 13 #[e0, .agg #[.int .i64 a1_0, .bool a1_1, .int .u64 a1_2]] w fun e w' => e = .returned (.bool r) ∧ Below w.heap.size w w' := by
 have hu34 := Tryd.underlying34; have HB := aM (Below.refl w.heap.size w); have EA155 := aM he0; have H : (if a1_1 = true then ((shacklelaw00_Is.f a0 a1_2 a1_0).bind fun t158 => (some t158)) else ((shacklelaw00_Code.f a0).bind fun t159 => (some (t159 == a1_0)))) = some r := h; clear h
 by_cases c3 : a1_1 = true
 ·subst c3
  have H1 : ((shacklelaw00_Is.f a0 a1_2 a1_0).bind fun t158 => (some t158)) = some r := by rw [if_pos rfl] at H; exact H
  clear H; have H := H1; clear H1; replace H := Option.bind_eq_some_iff.mp H; obtain ⟨t158, A40, H⟩ := H; replace H : (some t158) = some r := H; have A4 := aM A40; clear A40; obtain rfl := Option.some.inj H
  go_enter Tryd.func13, Tryd.ntmps13
  go_wp2_with (first | ((with_reducible refine gate_dst (N := 3) rfl ?_); refine box_event ?hg (N := 3) ?hd (cs := #[.int .i64 a1_0, .bool true, .int .u64 a1_2]) (t := 34) ?hr ?_; (case hd => rfl); (case hg => rfl); (case hr => first | (go_simp; done) | (go_simp; rfl)); intro gb157 hg w5 hbox hb; have n0_ := aM (ErrAt.below (by repeat (first | (with_reducible first | exact EA155.out | apply ErrAt.alloc | apply ErrAt.drewN | apply ErrAt.drew | (apply ErrAt.set; rotate_left; (repeat (first | (apply IsRow.of; apply Aside0.out; assumption) | apply IsRow.set | apply IsRow.alloc | apply IsRow.drewN | apply IsRow.drew)); rotate_right) | decide) | exact EA155.out)) hb); have n1_ := aM (below_step (by repeat (first | (with_reducible first | exact HB.out | apply bA | apply bN | apply bD) | exact HB.out)) hb); have n2_ := aM (hbox); have n3_ := aM ((by rw [hg]; exact (below_size (by repeat (first | (with_reducible first | exact HB.out | apply bA | apply bN | apply bD) | exact HB.out))) : w.heap.size ≤ gb157)); have n4_ := aM ((by rw [hg]; exact (below_size (by repeat (first | (with_reducible first | exact HB.out | apply bA | apply bN | apply bD) | exact HB.out))) : w.heap.size ≤ gb157)); clear EA155; clear HB; have EA155 := n0_; have HB := n1_; have BK157 := n2_; have GW157 := n3_; have GE157 := n4_; clear n0_ n1_ n2_ n3_ n4_; clear hb hbox hg; have hcz6_0 : w5.cell? ⟨gb157, 0, none⟩ = some (.int .i64 a1_0) := (blk_cell BK157.out 0).trans rfl; have hcz6_1 : w5.cell? ⟨gb157, 1, none⟩ = some (.bool true) := (blk_cell BK157.out 1).trans rfl; have hcz6_2 : w5.cell? ⟨gb157, 2, none⟩ = some (.int .u64 a1_2) := (blk_cell BK157.out 2).trans rfl; have hfz6_0 := blk_frozen BK157.out 0; have hfz6_1 := blk_frozen BK157.out 1; have hfz6_2 := blk_frozen BK157.out 2) | (go_at_call 22; (with_reducible refine (shacklelaw00_Is.calls e0 a0 a1_2 a1_0 t158 _ ?side1 ?side2 A4.out).mono ?_); (case side1 => exact ErrTy.below (by repeat (first | (with_reducible first | exact HB.out | apply bA | apply bN | apply bD | refine below_set ?_ GE157.out) | exact HB.out)) hG); (case side2 => exact (ErrAt.lower (by repeat (first | (with_reducible first | exact EA155.out | apply ErrAt.alloc | apply ErrAt.drewN | apply ErrAt.drew | (apply ErrAt.set; rotate_left; (repeat (first | (apply IsRow.of; apply Aside0.out; assumption) | apply IsRow.set | apply IsRow.alloc | apply IsRow.drewN | apply IsRow.drew)); rotate_right) | decide) | exact EA155.out)) (Nat.zero_le _))); rintro e w7 ⟨rfl, hb⟩; have n0_ := aM (ErrAt.below (by repeat (first | (with_reducible first | exact EA155.out | apply ErrAt.alloc | apply ErrAt.drewN | apply ErrAt.drew | (apply ErrAt.set; rotate_left; (repeat (first | (apply IsRow.of; apply Aside0.out; assumption) | apply IsRow.set | apply IsRow.alloc | apply IsRow.drewN | apply IsRow.drew)); rotate_right) | decide) | exact EA155.out)) hb); have n1_ := aM (blk_below (g := gb157) (o := .cells #[.int .i64 a1_0, .bool true, .int .u64 a1_2] 34 (0, 0)) (by (with_reducible repeat (first | refine kN ?_ _ | refine kD ?_ | refine kA ?_ _)); exact BK157.out) hb); have n2_ := aM (below_step (by repeat (first | (with_reducible first | exact HB.out | apply bA | apply bN | apply bD | refine below_set ?_ GE157.out) | exact HB.out)) hb); clear EA155; clear BK157; clear HB; have EA155 := n0_; have BK157 := n1_; have HB := n2_; clear n0_ n1_ n2_; (try clear hb); (try clear hb2); (try clear hk); (try clear hi)))
  repeat (go_quiet (first | ((with_reducible refine gate_dst (N := 3) rfl ?_); refine box_event ?hg (N := 3) ?hd (cs := #[.int .i64 a1_0, .bool true, .int .u64 a1_2]) (t := 34) ?hr ?_; (case hd => rfl); (case hg => rfl); (case hr => first | (go_simp; done) | (go_simp; rfl)); intro gb157 hg w5 hbox hb; have n0_ := aM (ErrAt.below (by repeat (first | (with_reducible first | exact EA155.out | apply ErrAt.alloc | apply ErrAt.drewN | apply ErrAt.drew | (apply ErrAt.set; rotate_left; (repeat (first | (apply IsRow.of; apply Aside0.out; assumption) | apply IsRow.set | apply IsRow.alloc | apply IsRow.drewN | apply IsRow.drew)); rotate_right) | decide) | exact EA155.out)) hb); have n1_ := aM (below_step (by repeat (first | (with_reducible first | exact HB.out | apply bA | apply bN | apply bD) | exact HB.out)) hb); have n2_ := aM (hbox); have n3_ := aM ((by rw [hg]; exact (below_size (by repeat (first | (with_reducible first | exact HB.out | apply bA | apply bN | apply bD) | exact HB.out))) : w.heap.size ≤ gb157)); have n4_ := aM ((by rw [hg]; exact (below_size (by repeat (first | (with_reducible first | exact HB.out | apply bA | apply bN | apply bD) | exact HB.out))) : w.heap.size ≤ gb157)); clear EA155; clear HB; have EA155 := n0_; have HB := n1_; have BK157 := n2_; have GW157 := n3_; have GE157 := n4_; clear n0_ n1_ n2_ n3_ n4_; clear hb hbox hg; have hcz6_0 : w5.cell? ⟨gb157, 0, none⟩ = some (.int .i64 a1_0) := (blk_cell BK157.out 0).trans rfl; have hcz6_1 : w5.cell? ⟨gb157, 1, none⟩ = some (.bool true) := (blk_cell BK157.out 1).trans rfl; have hcz6_2 : w5.cell? ⟨gb157, 2, none⟩ = some (.int .u64 a1_2) := (blk_cell BK157.out 2).trans rfl; have hfz6_0 := blk_frozen BK157.out 0; have hfz6_1 := blk_frozen BK157.out 1; have hfz6_2 := blk_frozen BK157.out 2) | (go_at_call 22; (with_reducible refine (shacklelaw00_Is.calls e0 a0 a1_2 a1_0 t158 _ ?side1 ?side2 A4.out).mono ?_); (case side1 => exact ErrTy.below (by repeat (first | (with_reducible first | exact HB.out | apply bA | apply bN | apply bD | refine below_set ?_ GE157.out) | exact HB.out)) hG); (case side2 => exact (ErrAt.lower (by repeat (first | (with_reducible first | exact EA155.out | apply ErrAt.alloc | apply ErrAt.drewN | apply ErrAt.drew | (apply ErrAt.set; rotate_left; (repeat (first | (apply IsRow.of; apply Aside0.out; assumption) | apply IsRow.set | apply IsRow.alloc | apply IsRow.drewN | apply IsRow.drew)); rotate_right) | decide) | exact EA155.out)) (Nat.zero_le _))); rintro e w7 ⟨rfl, hb⟩; have n0_ := aM (ErrAt.below (by repeat (first | (with_reducible first | exact EA155.out | apply ErrAt.alloc | apply ErrAt.drewN | apply ErrAt.drew | (apply ErrAt.set; rotate_left; (repeat (first | (apply IsRow.of; apply Aside0.out; assumption) | apply IsRow.set | apply IsRow.alloc | apply IsRow.drewN | apply IsRow.drew)); rotate_right) | decide) | exact EA155.out)) hb); have n1_ := aM (blk_below (g := gb157) (o := .cells #[.int .i64 a1_0, .bool true, .int .u64 a1_2] 34 (0, 0)) (by (with_reducible repeat (first | refine kN ?_ _ | refine kD ?_ | refine kA ?_ _)); exact BK157.out) hb); have n2_ := aM (below_step (by repeat (first | (with_reducible first | exact HB.out | apply bA | apply bN | apply bD | refine below_set ?_ GE157.out) | exact HB.out)) hb); clear EA155; clear BK157; clear HB; have EA155 := n0_; have BK157 := n1_; have HB := n2_; clear n0_ n1_ n2_; (try clear hb); (try clear hb2); (try clear hk); (try clear hi))); try go_wp2_with (first | ((with_reducible refine gate_dst (N := 3) rfl ?_); refine box_event ?hg (N := 3) ?hd (cs := #[.int .i64 a1_0, .bool true, .int .u64 a1_2]) (t := 34) ?hr ?_; (case hd => rfl); (case hg => rfl); (case hr => first | (go_simp; done) | (go_simp; rfl)); intro gb157 hg w5 hbox hb; have n0_ := aM (ErrAt.below (by repeat (first | (with_reducible first | exact EA155.out | apply ErrAt.alloc | apply ErrAt.drewN | apply ErrAt.drew | (apply ErrAt.set; rotate_left; (repeat (first | (apply IsRow.of; apply Aside0.out; assumption) | apply IsRow.set | apply IsRow.alloc | apply IsRow.drewN | apply IsRow.drew)); rotate_right) | decide) | exact EA155.out)) hb); have n1_ := aM (below_step (by repeat (first | (with_reducible first | exact HB.out | apply bA | apply bN | apply bD) | exact HB.out)) hb); have n2_ := aM (hbox); have n3_ := aM ((by rw [hg]; exact (below_size (by repeat (first | (with_reducible first | exact HB.out | apply bA | apply bN | apply bD) | exact HB.out))) : w.heap.size ≤ gb157)); have n4_ := aM ((by rw [hg]; exact (below_size (by repeat (first | (with_reducible first | exact HB.out | apply bA | apply bN | apply bD) | exact HB.out))) : w.heap.size ≤ gb157)); clear EA155; clear HB; have EA155 := n0_; have HB := n1_; have BK157 := n2_; have GW157 := n3_; have GE157 := n4_; clear n0_ n1_ n2_ n3_ n4_; clear hb hbox hg; have hcz6_0 : w5.cell? ⟨gb157, 0, none⟩ = some (.int .i64 a1_0) := (blk_cell BK157.out 0).trans rfl; have hcz6_1 : w5.cell? ⟨gb157, 1, none⟩ = some (.bool true) := (blk_cell BK157.out 1).trans rfl; have hcz6_2 : w5.cell? ⟨gb157, 2, none⟩ = some (.int .u64 a1_2) := (blk_cell BK157.out 2).trans rfl; have hfz6_0 := blk_frozen BK157.out 0; have hfz6_1 := blk_frozen BK157.out 1; have hfz6_2 := blk_frozen BK157.out 2) | (go_at_call 22; (with_reducible refine (shacklelaw00_Is.calls e0 a0 a1_2 a1_0 t158 _ ?side1 ?side2 A4.out).mono ?_); (case side1 => exact ErrTy.below (by repeat (first | (with_reducible first | exact HB.out | apply bA | apply bN | apply bD | refine below_set ?_ GE157.out) | exact HB.out)) hG); (case side2 => exact (ErrAt.lower (by repeat (first | (with_reducible first | exact EA155.out | apply ErrAt.alloc | apply ErrAt.drewN | apply ErrAt.drew | (apply ErrAt.set; rotate_left; (repeat (first | (apply IsRow.of; apply Aside0.out; assumption) | apply IsRow.set | apply IsRow.alloc | apply IsRow.drewN | apply IsRow.drew)); rotate_right) | decide) | exact EA155.out)) (Nat.zero_le _))); rintro e w7 ⟨rfl, hb⟩; have n0_ := aM (ErrAt.below (by repeat (first | (with_reducible first | exact EA155.out | apply ErrAt.alloc | apply ErrAt.drewN | apply ErrAt.drew | (apply ErrAt.set; rotate_left; (repeat (first | (apply IsRow.of; apply Aside0.out; assumption) | apply IsRow.set | apply IsRow.alloc | apply IsRow.drewN | apply IsRow.drew)); rotate_right) | decide) | exact EA155.out)) hb); have n1_ := aM (blk_below (g := gb157) (o := .cells #[.int .i64 a1_0, .bool true, .int .u64 a1_2] 34 (0, 0)) (by (with_reducible repeat (first | refine kN ?_ _ | refine kD ?_ | refine kA ?_ _)); exact BK157.out) hb); have n2_ := aM (below_step (by repeat (first | (with_reducible first | exact HB.out | apply bA | apply bN | apply bD | refine below_set ?_ GE157.out) | exact HB.out)) hb); clear EA155; clear BK157; clear HB; have EA155 := n0_; have BK157 := n1_; have HB := n2_; clear n0_ n1_ n2_; (try clear hb); (try clear hb2); (try clear hk); (try clear hi))))
  go_ret
  exact ⟨by first | rfl | (simp [errW_none, errW_some] <;> rfl) | (simp [*, errW_none, errW_some] <;> rfl), by repeat (first | (with_reducible first | exact HB.out | apply bA | apply bN | apply bD | refine below_set ?_ GE157.out) | exact HB.out)⟩
 ·replace c3 := Bool.eq_false_iff.mpr c3; subst c3
  have H1 : ((shacklelaw00_Code.f a0).bind fun t159 => (some (t159 == a1_0))) = some r := by rw [if_neg (show ¬ (false = true) by decide)] at H; exact H
  clear H; have H := H1; clear H1; replace H := Option.bind_eq_some_iff.mp H; obtain ⟨t159, A80, H⟩ := H; replace H : (some (t159 == a1_0)) = some r := H; have A8 := aM A80; clear A80; obtain rfl := Option.some.inj H
  go_enter Tryd.func13, Tryd.ntmps13
  go_wp2_with (first | ((with_reducible refine gate_dst (N := 3) rfl ?_); refine box_event ?hg (N := 3) ?hd (cs := #[.int .i64 a1_0, .bool false, .int .u64 a1_2]) (t := 34) ?hr ?_; (case hd => rfl); (case hg => rfl); (case hr => first | (go_simp; done) | (go_simp; rfl)); intro gb157 hg w9 hbox hb; have n0_ := aM (ErrAt.below (by repeat (first | (with_reducible first | exact EA155.out | apply ErrAt.alloc | apply ErrAt.drewN | apply ErrAt.drew | (apply ErrAt.set; rotate_left; (repeat (first | (apply IsRow.of; apply Aside0.out; assumption) | apply IsRow.set | apply IsRow.alloc | apply IsRow.drewN | apply IsRow.drew)); rotate_right) | decide) | exact EA155.out)) hb); have n1_ := aM (below_step (by repeat (first | (with_reducible first | exact HB.out | apply bA | apply bN | apply bD) | exact HB.out)) hb); have n2_ := aM (hbox); have n3_ := aM ((by rw [hg]; exact (below_size (by repeat (first | (with_reducible first | exact HB.out | apply bA | apply bN | apply bD) | exact HB.out))) : w.heap.size ≤ gb157)); have n4_ := aM ((by rw [hg]; exact (below_size (by repeat (first | (with_reducible first | exact HB.out | apply bA | apply bN | apply bD) | exact HB.out))) : w.heap.size ≤ gb157)); clear EA155; clear HB; have EA155 := n0_; have HB := n1_; have BK157 := n2_; have GW157 := n3_; have GE157 := n4_; clear n0_ n1_ n2_ n3_ n4_; clear hb hbox hg; have hcz10_0 : w9.cell? ⟨gb157, 0, none⟩ = some (.int .i64 a1_0) := (blk_cell BK157.out 0).trans rfl; have hcz10_1 : w9.cell? ⟨gb157, 1, none⟩ = some (.bool false) := (blk_cell BK157.out 1).trans rfl; have hcz10_2 : w9.cell? ⟨gb157, 2, none⟩ = some (.int .u64 a1_2) := (blk_cell BK157.out 2).trans rfl; have hfz10_0 := blk_frozen BK157.out 0; have hfz10_1 := blk_frozen BK157.out 1; have hfz10_2 := blk_frozen BK157.out 2) | (go_at_call 33; (with_reducible refine (shacklelaw00_Code.calls e0 a0 t159 _ ?side1 A8.out).mono ?_); (case side1 => exact (ErrAt.lower (by repeat (first | (with_reducible first | exact EA155.out | apply ErrAt.alloc | apply ErrAt.drewN | apply ErrAt.drew | (apply ErrAt.set; rotate_left; (repeat (first | (apply IsRow.of; apply Aside0.out; assumption) | apply IsRow.set | apply IsRow.alloc | apply IsRow.drewN | apply IsRow.drew)); rotate_right) | decide) | exact EA155.out)) (Nat.zero_le _))); rintro e w' ⟨rfl, ⟨nd, rfl⟩⟩; (try first | exact ⟨rfl, _, World.drewN_drewN _ _ _⟩ | exact ⟨rfl, _, Eq.trans (World.drewN_drewN _ _ _) (congrArg (World.drewN _) (Nat.add_assoc _ _ _))⟩)))
  repeat (go_quiet (first | ((with_reducible refine gate_dst (N := 3) rfl ?_); refine box_event ?hg (N := 3) ?hd (cs := #[.int .i64 a1_0, .bool false, .int .u64 a1_2]) (t := 34) ?hr ?_; (case hd => rfl); (case hg => rfl); (case hr => first | (go_simp; done) | (go_simp; rfl)); intro gb157 hg w9 hbox hb; have n0_ := aM (ErrAt.below (by repeat (first | (with_reducible first | exact EA155.out | apply ErrAt.alloc | apply ErrAt.drewN | apply ErrAt.drew | (apply ErrAt.set; rotate_left; (repeat (first | (apply IsRow.of; apply Aside0.out; assumption) | apply IsRow.set | apply IsRow.alloc | apply IsRow.drewN | apply IsRow.drew)); rotate_right) | decide) | exact EA155.out)) hb); have n1_ := aM (below_step (by repeat (first | (with_reducible first | exact HB.out | apply bA | apply bN | apply bD) | exact HB.out)) hb); have n2_ := aM (hbox); have n3_ := aM ((by rw [hg]; exact (below_size (by repeat (first | (with_reducible first | exact HB.out | apply bA | apply bN | apply bD) | exact HB.out))) : w.heap.size ≤ gb157)); have n4_ := aM ((by rw [hg]; exact (below_size (by repeat (first | (with_reducible first | exact HB.out | apply bA | apply bN | apply bD) | exact HB.out))) : w.heap.size ≤ gb157)); clear EA155; clear HB; have EA155 := n0_; have HB := n1_; have BK157 := n2_; have GW157 := n3_; have GE157 := n4_; clear n0_ n1_ n2_ n3_ n4_; clear hb hbox hg; have hcz10_0 : w9.cell? ⟨gb157, 0, none⟩ = some (.int .i64 a1_0) := (blk_cell BK157.out 0).trans rfl; have hcz10_1 : w9.cell? ⟨gb157, 1, none⟩ = some (.bool false) := (blk_cell BK157.out 1).trans rfl; have hcz10_2 : w9.cell? ⟨gb157, 2, none⟩ = some (.int .u64 a1_2) := (blk_cell BK157.out 2).trans rfl; have hfz10_0 := blk_frozen BK157.out 0; have hfz10_1 := blk_frozen BK157.out 1; have hfz10_2 := blk_frozen BK157.out 2) | (go_at_call 33; (with_reducible refine (shacklelaw00_Code.calls e0 a0 t159 _ ?side1 A8.out).mono ?_); (case side1 => exact (ErrAt.lower (by repeat (first | (with_reducible first | exact EA155.out | apply ErrAt.alloc | apply ErrAt.drewN | apply ErrAt.drew | (apply ErrAt.set; rotate_left; (repeat (first | (apply IsRow.of; apply Aside0.out; assumption) | apply IsRow.set | apply IsRow.alloc | apply IsRow.drewN | apply IsRow.drew)); rotate_right) | decide) | exact EA155.out)) (Nat.zero_le _))); rintro e w' ⟨rfl, ⟨nd, rfl⟩⟩; (try first | exact ⟨rfl, _, World.drewN_drewN _ _ _⟩ | exact ⟨rfl, _, Eq.trans (World.drewN_drewN _ _ _) (congrArg (World.drewN _) (Nat.add_assoc _ _ _))⟩))); try go_wp2_with (first | ((with_reducible refine gate_dst (N := 3) rfl ?_); refine box_event ?hg (N := 3) ?hd (cs := #[.int .i64 a1_0, .bool false, .int .u64 a1_2]) (t := 34) ?hr ?_; (case hd => rfl); (case hg => rfl); (case hr => first | (go_simp; done) | (go_simp; rfl)); intro gb157 hg w9 hbox hb; have n0_ := aM (ErrAt.below (by repeat (first | (with_reducible first | exact EA155.out | apply ErrAt.alloc | apply ErrAt.drewN | apply ErrAt.drew | (apply ErrAt.set; rotate_left; (repeat (first | (apply IsRow.of; apply Aside0.out; assumption) | apply IsRow.set | apply IsRow.alloc | apply IsRow.drewN | apply IsRow.drew)); rotate_right) | decide) | exact EA155.out)) hb); have n1_ := aM (below_step (by repeat (first | (with_reducible first | exact HB.out | apply bA | apply bN | apply bD) | exact HB.out)) hb); have n2_ := aM (hbox); have n3_ := aM ((by rw [hg]; exact (below_size (by repeat (first | (with_reducible first | exact HB.out | apply bA | apply bN | apply bD) | exact HB.out))) : w.heap.size ≤ gb157)); have n4_ := aM ((by rw [hg]; exact (below_size (by repeat (first | (with_reducible first | exact HB.out | apply bA | apply bN | apply bD) | exact HB.out))) : w.heap.size ≤ gb157)); clear EA155; clear HB; have EA155 := n0_; have HB := n1_; have BK157 := n2_; have GW157 := n3_; have GE157 := n4_; clear n0_ n1_ n2_ n3_ n4_; clear hb hbox hg; have hcz10_0 : w9.cell? ⟨gb157, 0, none⟩ = some (.int .i64 a1_0) := (blk_cell BK157.out 0).trans rfl; have hcz10_1 : w9.cell? ⟨gb157, 1, none⟩ = some (.bool false) := (blk_cell BK157.out 1).trans rfl; have hcz10_2 : w9.cell? ⟨gb157, 2, none⟩ = some (.int .u64 a1_2) := (blk_cell BK157.out 2).trans rfl; have hfz10_0 := blk_frozen BK157.out 0; have hfz10_1 := blk_frozen BK157.out 1; have hfz10_2 := blk_frozen BK157.out 2) | (go_at_call 33; (with_reducible refine (shacklelaw00_Code.calls e0 a0 t159 _ ?side1 A8.out).mono ?_); (case side1 => exact (ErrAt.lower (by repeat (first | (with_reducible first | exact EA155.out | apply ErrAt.alloc | apply ErrAt.drewN | apply ErrAt.drew | (apply ErrAt.set; rotate_left; (repeat (first | (apply IsRow.of; apply Aside0.out; assumption) | apply IsRow.set | apply IsRow.alloc | apply IsRow.drewN | apply IsRow.drew)); rotate_right) | decide) | exact EA155.out)) (Nat.zero_le _))); rintro e w' ⟨rfl, ⟨nd, rfl⟩⟩; (try first | exact ⟨rfl, _, World.drewN_drewN _ _ _⟩ | exact ⟨rfl, _, Eq.trans (World.drewN_drewN _ _ _) (congrArg (World.drewN _) (Nat.add_assoc _ _ _))⟩))))
  go_ret
  exact ⟨by first | rfl | (simp [errW_none, errW_some] <;> rfl) | (simp [*, errW_none, errW_some] <;> rfl), by repeat (first | (with_reducible first | exact HB.out | apply bA | apply bN | apply bD | refine below_set ?_ GE157.out) | exact HB.out)⟩

/-! ### shackleref04_at: function 30 -/
def shackleref04_at.f (a0 : Int) (a1 : Int) : Option (Int × Bool × Int) := some (a0, true, a1)
set_option maxHeartbeats 8000000 in
set_option maxRecDepth 100000 in
theorem shackleref04_at.calls (a0 : Int) (a1 : Int) (r1 : Int) (r2 : Bool) (r3 : Int) (w : World) (h : shackleref04_at.f a0 a1 = some (r1, r2, r3)) :
  Calls Tryd.prog 30 #[.int .i64 a0, .int .u64 a1] w fun e w' => e = .returned (.agg #[.int .i64 r1, .bool r2, .int .u64 r3]) ∧ Below w.heap.size w w' := by
 have hu34 := Tryd.underlying34; have HB := aM (Below.refl w.heap.size w); have H : (some (a0, true, a1)) = some (r1, r2, r3) := h; clear h; simp only [Option.some.injEq, Prod.mk.injEq] at H; obtain ⟨rfl, rfl, rfl⟩ := H
 go_enter Tryd.func30, Tryd.ntmps30
 go_wp2_with (first | ((with_reducible refine gate_dst (N := 4) rfl ?_); refine box_event ?hg (N := 4) ?hd (cs := #[.int .i64 0, .bool false, .int .u64 0]) (t := 34) ?hr ?_; (case hd => rfl); (case hg => rfl); (case hr => first | (go_simp; done) | (go_simp; rfl)); intro gb160 hg w3 hbox hb; have n0_ := aM (below_step (by repeat (first | (with_reducible first | exact HB.out | apply bA | apply bN | apply bD) | exact HB.out)) hb); have n1_ := aM (hbox); have n2_ := aM ((by rw [hg]; exact (below_size (by repeat (first | (with_reducible first | exact HB.out | apply bA | apply bN | apply bD) | exact HB.out))) : w.heap.size ≤ gb160)); have n3_ := aM ((by rw [hg]; exact (below_size (by repeat (first | (with_reducible first | exact HB.out | apply bA | apply bN | apply bD) | exact HB.out))) : w.heap.size ≤ gb160)); clear HB; have HB := n0_; have BK160 := n1_; have GW160 := n2_; have GE160 := n3_; clear n0_ n1_ n2_ n3_; clear hb hbox hg; have hcz4_0 : w3.cell? ⟨gb160, 0, none⟩ = some (.int .i64 0) := (blk_cell BK160.out 0).trans rfl; have hcz4_1 : w3.cell? ⟨gb160, 1, none⟩ = some (.bool false) := (blk_cell BK160.out 1).trans rfl; have hcz4_2 : w3.cell? ⟨gb160, 2, none⟩ = some (.int .u64 0) := (blk_cell BK160.out 2).trans rfl; have hfz4_0 := blk_frozen BK160.out 0; have hfz4_1 := blk_frozen BK160.out 1; have hfz4_2 := blk_frozen BK160.out 2))
 refine bodyPost_ret (results_cell_row rfl _ _ gb160 34 #[.int .i64 a0, .bool true, .int .u64 a1] (0, 0) _ rfl (by (with_reducible repeat (first | refine kN ?_ _ | refine kD ?_ | refine kA ?_ _)); refine blk_put (cs := #[.int .i64 a0, .bool true, .int .u64 0]) ?_ 2 _ rfl; (with_reducible repeat (first | refine kN ?_ _ | refine kD ?_ | refine kA ?_ _)); refine blk_put (cs := #[.int .i64 a0, .bool false, .int .u64 0]) ?_ 1 _ rfl; (with_reducible repeat (first | refine kN ?_ _ | refine kD ?_ | refine kA ?_ _)); refine blk_put (cs := #[.int .i64 0, .bool false, .int .u64 0]) ?_ 0 _ rfl; (with_reducible repeat (first | refine kN ?_ _ | refine kD ?_ | refine kA ?_ _)); exact BK160.out) Tryd.underlying34 rfl (by kernel_rfl)) rfl ?_; exact ⟨by first | rfl | (simp [errW_none, errW_some] <;> rfl) | (simp [*, errW_none, errW_some] <;> rfl), by repeat (first | (with_reducible first | exact HB.out | apply bA | apply bN | apply bD | refine below_set ?_ GE160.out) | exact HB.out)⟩

/-! ### shackleref01_In: function 31 -/
def shackleref01_In.f (a0 : Int) (a1 : Int) (a2 : Int) : Option (Bool) := if a1 ≤ a0 then (some (decide (a2 ≤ (IntKind.u64.wrap (a0 - a1))))) else (some false)
set_option maxHeartbeats 8000000 in
set_option maxRecDepth 100000 in
theorem shackleref01_In.calls (a0 : Int) (a1 : Int) (a2 : Int) (r : Bool) (w : World) (h : shackleref01_In.f a0 a1 a2 = some r) :
  Calls Tryd.prog 31 #[.int .u64 a0, .int .u64 a1, .int .u64 a2] w fun e w' => e = .returned (.bool r) ∧ Drawn0 w w' := by
 have H : (if a1 ≤ a0 then (some (decide (a2 ≤ (IntKind.u64.wrap (a0 - a1))))) else (some false)) = some r := h; clear h
 by_cases c4 : a1 ≤ a0
 ·rw [if_pos c4] at H; have c4b0 : decide (a1 ≤ a0) = true := decide_eq_true c4; clear c4; obtain rfl := Option.some.inj H
  go_enter Tryd.func31, Tryd.ntmps31
  go_wp2
  go_ret
  exact ⟨by first | rfl | (simp; done) | (simp [*]; done), by repeat (first | exact Drawn0.refl _ | apply Drawn0.step)⟩
 ·rw [if_neg c4] at H; have c4b0 : decide (a1 ≤ a0) = false := decide_eq_false c4; clear c4; obtain rfl := Option.some.inj H
  go_enter Tryd.func31, Tryd.ntmps31
  go_wp2
  go_ret
  exact ⟨by first | rfl | (simp; done) | (simp [*]; done), by repeat (first | exact Drawn0.refl _ | apply Drawn0.step)⟩

/-! ### shackleref01_Cut: function 39 -/
def shackleref01_Cut.l0 : Nat → List Int → Int → Int → List Int → Int → Option (List Int × Bool)
 | 0, _, _, _, _, _ => none
 | k + 1, x0, x1, x2, x9, x10 => if x10 < x2 then (if 0 ≤ (IntKind.u64.wrap (x1 + x10)) then (if (IntKind.u64.wrap (x1 + x10)) < (x0.length : Int) then (if x9.length < 140737488355328 then (shackleref01_Cut.l0 k x0 x1 x2 (x9 ++ [rd x0 (IntKind.u64.wrap (x1 + x10))]) (IntKind.u64.wrap (x10 + 1))) else (none)) else (none)) else (none)) else (some (x9, true))
def shackleref01_Cut.f (k : Nat) (l0 : List Int) (a1 : Int) (a2 : Int) : Option (List Int × Bool) := (shackleref01_In.f (IntKind.u64.wrap ((l0.length : Int))) a1 a2).bind fun t161 => (if t161 = true then (shackleref01_Cut.l0 k l0 a1 a2 ([] : List Int) 0) else (some (([] : List Int), false)))
theorem shackleref01_Cut.mono_l : ∀ k, (∀ y0 y1 y2 y3 y4, LeO (shackleref01_Cut.l0 k y0 y1 y2 y3 y4) (shackleref01_Cut.l0 (k + 1) y0 y1 y2 y3 y4))
 | 0 => fun _ _ _ _ _ r h => by simp [shackleref01_Cut.l0] at h
 | k + 1 => by
  have ih0 := shackleref01_Cut.mono_l k
  ·intro y0 y1 y2 y3 y4
   unfold shackleref01_Cut.l0
   repeat' first
   | (with_reducible exact ih0 _ _ _ _ _)
   | (with_reducible exact LeO.refl _)
   | (with_reducible exact LeO.none _)
   | (with_reducible refine LeO.ite ?_ ?_)
   | (with_reducible refine LeO.bind ?_ (fun _ => ?_))
   | exact ih0 _ _ _ _ _
   | exact LeO.none _
   | refine LeO.ite ?_ ?_
   | refine LeO.bind ?_ (fun _ => ?_)
theorem shackleref01_Cut.mono : ∀ a0 a1 a2 k, LeO (shackleref01_Cut.f k a0 a1 a2) (shackleref01_Cut.f (k + 1) a0 a1 a2) := by
 intro a0 a1 a2 k; have ih0 := shackleref01_Cut.mono_l k
 unfold shackleref01_Cut.f
 repeat' first
   | (with_reducible exact ih0 _ _ _ _ _)
   | (with_reducible exact LeO.refl _)
   | (with_reducible exact LeO.none _)
   | (with_reducible refine LeO.ite ?_ ?_)
   | (with_reducible refine LeO.bind ?_ (fun _ => ?_))
   | exact ih0 _ _ _ _ _
   | exact LeO.none _
   | refine LeO.ite ?_ ?_
   | refine LeO.bind ?_ (fun _ => ?_)
set_option maxHeartbeats 8000000 in
set_option maxRecDepth 100000 in
theorem shackleref01_Cut.calls (k : Nat) (A0 : Option Addr) (c0 : Nat) (l0 : List Int) (a1 : Int) (a2 : Int) (r1 : List Int) (r2 : Bool) (w : World) (hr0 : Kd.C (Kd.int .u8) w A0 l0.length l0) (hc0 : l0.length ≤ c0) (h : shackleref01_Cut.f k l0 a1 a2 = some (r1, r2)) :
  Calls Tryd.prog 39 #[.slice A0 l0.length c0, .int .u64 a1, .int .u64 a2] w fun e w' => ∃ v0_ : Value, e = .returned (.tuple #[v0_, .bool r2]) ∧ Kd.R (Kd.int .u8) 5 w' w.heap.size (fun _ => True) v0_ r1 ∧ Below w.heap.size w w' := by
 have HR0 := aM hr0; have HC0 := aM hc0; clear hr0 hc0; have HB := aM (Below.refl w.heap.size w); have H : ((shackleref01_In.f (IntKind.u64.wrap ((l0.length : Int))) a1 a2).bind fun t161 => (if t161 = true then (shackleref01_Cut.l0 k l0 a1 a2 ([] : List Int) 0) else (some (([] : List Int), false)))) = some (r1, r2) := h; clear h; replace H := Option.bind_eq_some_iff.mp H; obtain ⟨t161, A40, H⟩ := H; replace H : (if t161 = true then (shackleref01_Cut.l0 k l0 a1 a2 ([] : List Int) 0) else (some (([] : List Int), false))) = some (r1, r2) := H; have A4 := aM A40; clear A40
 by_cases c5 : t161 = true
 ·subst c5
  have H1 : (shackleref01_Cut.l0 k l0 a1 a2 ([] : List Int) 0) = some (r1, r2) := by rw [if_pos rfl] at H; exact H
  clear H; have H := H1; clear H1; have H' := aM H; clear H
  go_enter Tryd.func39, Tryd.ntmps39
  go_wp2_with (first | ((with_reducible refine gate_callee (f := 31) rfl ?_); refine goesL_ (some 16) rfl rfl Tryd.func31 (by kernel_rfl) rfl #[.int .u64 (IntKind.u64.wrap ((l0.length : Int))), .int .u64 a1, .int .u64 a2] rfl (by (try simp only [List.map_toArray, List.map_cons, List.map_nil]); first | done | rfl | (simp only [List.length_drop, List.length_take]; rfl)) ?_; (with_reducible refine (shackleref01_In.calls (IntKind.u64.wrap ((l0.length : Int))) a1 a2 true _ A4.out).mono ?_); rintro e w' ⟨rfl, ⟨nd, rfl⟩⟩; refine ⟨_, rfl, ?_⟩))
  go_loopg [9, 10] k (fun kq v9 v10 w' => ∃ (x9_1 : List Int) (x10_1 : Int), v10 = .int .u64 x10_1 ∧ Aside0 (shackleref01_Cut.l0 kq l0 a1 a2 x9_1 x10_1 = some (r1, r2)) ∧ Aside0 (kq ≤ k) ∧ Aside0 (Kd.R (Kd.int .u8) 5 w' w.heap.size (fun _ => True) v9 x9_1) ∧ Aside0 (Below w.heap.size w w'))
  case atStart => exact ⟨(([] : List Int)), (0), (by first | rfl | (simp; done) | (simp [*]; done)), H', ⟨Nat.le_refl _⟩, ⟨by first | exact Kd.R_nil _ _ _ _ _ | exact Kd.N_nil _ _ _ _ _ | exact Kd.V_nil _ _ _ _ _ | exact Kd.Q_nil _ _ _ _ _ | exact Kd.S_nil _ _ _ _ _⟩, ⟨by repeat (first | (with_reducible first | exact HB.out | apply bA | apply bN | apply bD) | exact HB.out)⟩⟩
  case round =>
   clear H'
   try clear p2
   try clear c3
   try clear c5
   obtain ⟨x9_1, x10_1, rfl, HA, HK1, HO_9, HB⟩ := hrel
   cases gk with
   | zero => exact absurd HA.out (by simp [shackleref01_Cut.l0])
   | succ k1 =>
    have H := HA.out; clear HA; simp only [shackleref01_Cut.l0] at H
    by_cases c6 : x10_1 < a2
    ·rw [if_pos c6] at H; have c6b0 : decide (x10_1 < a2) = true := decide_eq_true c6; clear c6; obtain ⟨ji7, hji7⟩ : ∃ j_ : Int, (IntKind.u64.wrap (a1 + x10_1)) = j_ := ⟨_, rfl⟩
     replace H : (if 0 ≤ (ji7) then (if (ji7) < (l0.length : Int) then (if x9_1.length < 140737488355328 then (shackleref01_Cut.l0 k1 l0 a1 a2 (x9_1 ++ [rd l0 (ji7)]) (IntKind.u64.wrap (x10_1 + 1))) else (none)) else (none)) else (none)) = some (r1, r2) := by first | (rw [hji7] at H; exact H) | (simp only [hji7] at H ⊢; exact H)
     by_cases c8 : 0 ≤ (ji7)
     ·rw [if_pos c8] at H; have c8b0 : decide (0 ≤ (ji7)) = true := decide_eq_true c8; clear c8
      by_cases c9 : (ji7) < (l0.length : Int)
      ·rw [if_pos c9] at H; have c9b0 : decide ((ji7) < (l0.length : Int)) = true := decide_eq_true c9; clear c9
       by_cases c10 : x9_1.length < 140737488355328
       ·rw [if_pos c10] at H; have LMc10 := aM c10; clear c10; obtain ⟨y163, hy163⟩ : ∃ y_ : List Int, y_ = (x9_1 ++ [rd l0 (ji7)]) := ⟨_, rfl⟩
        replace H : (shackleref01_Cut.l0 k1 l0 a1 a2 y163 (IntKind.u64.wrap (x10_1 + 1))) = some (r1, r2) := by first | (rw [hy163]; with_reducible exact H) | (have H2_ := (Option.bind_some _ _).symm.trans H; rw [hy163]; with_reducible exact H2_) | (have H2_ := (Option.bind_some _ _).symm.trans H; with_reducible exact H2_) | with_reducible exact H | (rw [hy163]; exact H) | exact H
        have Ny163 := aM hy163; clear hy163; have H' := aM H; clear H; have p162 : 0 ≤ ((ji7) : Int) := of_decide_eq_true (by first | (with_reducible assumption) | assumption); have q162 : (ji7) < (l0.length : Int) := of_decide_eq_true (by first | (with_reducible assumption) | assumption); obtain ⟨ad162, e162, hx162_0⟩ := Kd.at_int HR0.out (ji7) p162 q162
        cases e162
        replace hx162_0 := (HB.out.cell (World.block_lt_of_cell? w _ hx162_0)).trans hx162_0; replace p162 := eq_true p162; replace q162 := eq_true q162
        go_wp2_with (first | ((with_reducible refine gate_builtin (b := .append) (xs := #[.tmp 24, .tmp 31]) rfl ?_); at_builtin; refine Kd.R_append (Kd.int .u8) (w0 := w) w.heap.size rfl (.tmp 24) (.tmp 31) 22 5 (.int .u8 0) 1 rfl Tryd.underlying22 info5 rfl (by decide) (by omega) u9 x9_1 (rd l0 (ji7)) [.int .u8 (rd l0 (ji7))] (fun _ => True) (fun _ => False) rfl rfl ?aP (fun _ hk => hk.elim) ?aF ?aO ?aB ?aS ?aL ?_; (case aP => exact rfl); (case aB => exact (by repeat (first | (with_reducible first | exact HB.out | apply bA | apply bN | apply bD) | exact HB.out))); (case aF => exact (fun _ _ => trivial)); (case aO => exact (by (with_reducible repeat (first | apply rA | apply rN | apply rD)); exact HO_9.out)); (case aS => exact (below_size (by repeat (first | (with_reducible first | exact HB.out | apply bA | apply bN | apply bD) | exact HB.out)))); (case aL => have := LMc10.out; omega); intro v164 w11 ho hb hg hat; rw [← Ny163.out] at ho; have n0_ := aM (hb); have n1_ := aM (ho); clear HB; clear HO_9; have HB := n0_; have HO165 := n1_; clear n0_ n1_; clear ho hb hg hat))
        go_roundg k1
        case measure => have := HK1.out; omega
        case rel => exact ⟨(y163), (IntKind.u64.wrap (x10_1 + 1)), (by first | rfl | (simp; done) | (simp [*]; done)), H', ⟨by have := HK1.out; omega⟩, ⟨by (with_reducible repeat (first | apply rA | apply rN | apply rD)); exact HO165.out⟩, ⟨by repeat (first | (with_reducible first | exact HB.out | apply bA | apply bN | apply bD) | exact HB.out)⟩⟩
       ·rw [if_neg c10] at H; exact absurd H (by simp)
      ·rw [if_neg c9] at H; exact absurd H (by simp)
     ·rw [if_neg c8] at H; exact absurd H (by simp)
    ·rw [if_neg c6] at H; have c6b0 : decide (x10_1 < a2) = false := decide_eq_false c6; clear c6; simp only [Option.some.injEq, Prod.mk.injEq] at H; obtain ⟨rfl, rfl⟩ := H
     go_wp2
     go_ret2
     exact ⟨_, by first | rfl | (simp [errW_none, errW_some] <;> rfl) | (simp [*, errW_none, errW_some] <;> rfl), by (with_reducible repeat (first | apply rA | apply rN | apply rD)); exact HO_9.out, by repeat (first | (with_reducible first | exact HB.out | apply bA | apply bN | apply bD) | exact HB.out)⟩
 ·replace c5 := Bool.eq_false_iff.mpr c5; subst c5
  have H1 : (some (([] : List Int), false)) = some (r1, r2) := by rw [if_neg (show ¬ (false = true) by decide)] at H; exact H
  clear H; have H := H1; clear H1; simp only [Option.some.injEq, Prod.mk.injEq] at H; obtain ⟨rfl, rfl⟩ := H
  go_enter Tryd.func39, Tryd.ntmps39
  go_wp2_with (first | ((with_reducible refine gate_callee (f := 31) rfl ?_); refine goesL_ (some 16) rfl rfl Tryd.func31 (by kernel_rfl) rfl #[.int .u64 (IntKind.u64.wrap ((l0.length : Int))), .int .u64 a1, .int .u64 a2] rfl (by (try simp only [List.map_toArray, List.map_cons, List.map_nil]); first | done | rfl | (simp only [List.length_drop, List.length_take]; rfl)) ?_; (with_reducible refine (shackleref01_In.calls (IntKind.u64.wrap ((l0.length : Int))) a1 a2 false _ A4.out).mono ?_); rintro e w' ⟨rfl, ⟨nd, rfl⟩⟩; refine ⟨_, rfl, ?_⟩))
  go_ret2
  exact ⟨_, by first | rfl | (simp [errW_none, errW_some] <;> rfl) | (simp [*, errW_none, errW_some] <;> rfl), by first | exact Kd.R_nil _ _ _ _ _ | exact Kd.N_nil _ _ _ _ _ | exact Kd.V_nil _ _ _ _ _ | exact Kd.Q_nil _ _ _ _ _ | exact Kd.S_nil _ _ _ _ _, by repeat (first | (with_reducible first | exact HB.out | apply bA | apply bN | apply bD) | exact HB.out)⟩

/-! ### shackleref01_Text: function 40 -/
def shackleref01_Text.l0 : Nat → List Int → Int → Int → Option (ByteArray × Int)
 | 0, _, _, _ => none
 | k + 1, x0, x1, x6 => if x6 < (x0.length : Int) then (if 0 ≤ x6 then (if (rd x0 x6) = 0 then (if 0 ≤ x1 then (if x1 ≤ x6 then (if x6 ≤ (x0.length : Int) then (some (strOfNums ((x0.take (x6 : Int).toNat).drop (x1 : Int).toNat), 0)) else (none)) else (none)) else (none)) else (shackleref01_Text.l0 k x0 x1 (wrap64 (x6 + 1)))) else (none)) else (some ((⟨#[]⟩ : ByteArray), 29))
def shackleref01_Text.f (k : Nat) (l0 : List Int) (a1 : Int) : Option (ByteArray × Int) := if a1 ≥ (IntKind.u64.wrap ((l0.length : Int))) then (some ((⟨#[]⟩ : ByteArray), 4)) else (shackleref01_Text.l0 k l0 a1 (wrap64 (a1)))
theorem shackleref01_Text.mono_l : ∀ k, (∀ y0 y1 y2, LeO (shackleref01_Text.l0 k y0 y1 y2) (shackleref01_Text.l0 (k + 1) y0 y1 y2))
 | 0 => fun _ _ _ r h => by simp [shackleref01_Text.l0] at h
 | k + 1 => by
  have ih0 := shackleref01_Text.mono_l k
  ·intro y0 y1 y2
   unfold shackleref01_Text.l0
   repeat' first
   | (with_reducible exact ih0 _ _ _)
   | (with_reducible exact LeO.refl _)
   | (with_reducible exact LeO.none _)
   | (with_reducible refine LeO.ite ?_ ?_)
   | (with_reducible refine LeO.bind ?_ (fun _ => ?_))
   | exact ih0 _ _ _
   | exact LeO.none _
   | refine LeO.ite ?_ ?_
   | refine LeO.bind ?_ (fun _ => ?_)
theorem shackleref01_Text.mono : ∀ a0 a1 k, LeO (shackleref01_Text.f k a0 a1) (shackleref01_Text.f (k + 1) a0 a1) := by
 intro a0 a1 k; have ih0 := shackleref01_Text.mono_l k
 unfold shackleref01_Text.f
 repeat' first
   | (with_reducible exact ih0 _ _ _)
   | (with_reducible exact LeO.refl _)
   | (with_reducible exact LeO.none _)
   | (with_reducible refine LeO.ite ?_ ?_)
   | (with_reducible refine LeO.bind ?_ (fun _ => ?_))
   | exact ih0 _ _ _
   | exact LeO.none _
   | refine LeO.ite ?_ ?_
   | refine LeO.bind ?_ (fun _ => ?_)
set_option maxHeartbeats 8000000 in
set_option maxRecDepth 100000 in
theorem shackleref01_Text.calls (k : Nat) (A0 : Option Addr) (c0 : Nat) (l0 : List Int) (a1 : Int) (r1 : ByteArray) (r2 : Int) (w : World) (hr0 : Kd.C (Kd.int .u8) w A0 l0.length l0) (hc0 : l0.length ≤ c0) (h : shackleref01_Text.f k l0 a1 = some (r1, r2)) :
  Calls Tryd.prog 40 #[.slice A0 l0.length c0, .int .u64 a1] w fun e w' => e = .returned (.tuple #[.string r1, .int .i64 r2]) ∧ Drawn0 w w' := by
 have HR0 := aM hr0; have HC0 := aM hc0; clear hr0 hc0; have H : (if a1 ≥ (IntKind.u64.wrap ((l0.length : Int))) then (some ((⟨#[]⟩ : ByteArray), 4)) else (shackleref01_Text.l0 k l0 a1 (wrap64 (a1)))) = some (r1, r2) := h; clear h
 by_cases c3 : a1 ≥ (IntKind.u64.wrap ((l0.length : Int)))
 ·rw [if_pos c3] at H; have c3b0 : decide ((IntKind.u64.wrap ((l0.length : Int))) ≤ a1) = true := decide_eq_true c3; clear c3; simp only [Option.some.injEq, Prod.mk.injEq] at H; obtain ⟨rfl, rfl⟩ := H
  go_enter Tryd.func40, Tryd.ntmps40
  go_wp2
  go_ret2
  exact ⟨by first | rfl | (simp; done) | (simp [*]; done), by repeat (first | exact Drawn0.refl _ | apply Drawn0.step)⟩
 ·rw [if_neg c3] at H; have c3b0 : decide ((IntKind.u64.wrap ((l0.length : Int))) ≤ a1) = false := decide_eq_false c3; clear c3; have H' := aM H; clear H
  go_enter Tryd.func40, Tryd.ntmps40
  go_wp2
  go_loopg [6] k (fun kq v6 w' => ∃ (x6_1 : Int), v6 = .int .i64 x6_1 ∧ Aside0 (shackleref01_Text.l0 kq l0 a1 x6_1 = some (r1, r2)) ∧ Aside0 (kq ≤ k) ∧ Drawn0 w w')
  case atStart => exact ⟨(wrap64 (a1)), (by first | rfl | (simp; done) | (simp [*]; done)), H', ⟨Nat.le_refl _⟩, by repeat (first | exact Drawn0.refl _ | apply Drawn0.step)⟩
  case round =>
   clear H'
   try clear p2
   try clear c3
   try clear c3b0
   obtain ⟨x6_1, rfl, HA, HK1, ⟨m1, rfl⟩⟩ := hrel
   cases gk with
   | zero => exact absurd HA.out (by simp [shackleref01_Text.l0])
   | succ k1 =>
    have H := HA.out; clear HA; simp only [shackleref01_Text.l0] at H
    by_cases c4 : x6_1 < (l0.length : Int)
    ·rw [if_pos c4] at H; have c4b0 : decide (x6_1 < (l0.length : Int)) = true := decide_eq_true c4; clear c4
     by_cases c5 : 0 ≤ x6_1
     ·rw [if_pos c5] at H; have c5b0 : decide (0 ≤ x6_1) = true := decide_eq_true c5; clear c5
      by_cases c6 : (rd l0 x6_1) = 0
      ·rw [if_pos c6] at H; have c6b0 : ((rd l0 x6_1) == 0) = true := beq_iff_eq.mpr c6; have c6b1 : ((rd l0 x6_1) != 0) = false := bne_eq_false_iff_eq.mpr c6; clear c6
       by_cases c7 : 0 ≤ a1
       ·rw [if_pos c7] at H; have c7b0 := eq_true c7; have c7b1 : decide (0 ≤ a1) = true := decide_eq_true c7; clear c7
        by_cases c8 : a1 ≤ x6_1
        ·rw [if_pos c8] at H; have c8b0 := eq_true c8; have c8b1 : decide (a1 ≤ x6_1) = true := decide_eq_true c8; clear c8
         by_cases c9 : x6_1 ≤ (l0.length : Int)
         ·rw [if_pos c9] at H; have c9b0 := eq_true c9; have c9b1 : decide (x6_1 ≤ (l0.length : Int)) = true := decide_eq_true c9; clear c9; simp only [Option.some.injEq, Prod.mk.injEq] at H; obtain ⟨rfl, rfl⟩ := H; have p166 : 0 ≤ (x6_1 : Int) := of_decide_eq_true (by first | (with_reducible assumption) | assumption); have q166 : x6_1 < (l0.length : Int) := of_decide_eq_true (by first | (with_reducible assumption) | assumption); obtain ⟨ad166, e166, hx166_0⟩ := Kd.at_int HR0.out x6_1 p166 q166
          cases e166
          replace p166 := eq_true p166; replace q166 := eq_true q166; obtain ⟨i010, hi010, _, hsz10, _⟩ := info_parts info5; obtain ⟨A10, hcut10, hA10, hC10⟩ := print_mid_of (P := Tryd.prog) (Value.int .u8) 0 22 5 .u64 .i64 Tryd.underlying22 hi010 hsz10 (some ad166) c0 l0 a1 x6_1 (of_decide_eq_true (by first | (with_reducible assumption) | assumption)) (by first | omega | exact of_decide_eq_true (by first | (with_reducible assumption) | assumption)) (of_decide_eq_true (by first | (with_reducible assumption) | assumption)) HC0.out; have HR167 := aM (Kd.C_of_reads (h1 := fun _ => rfl) (hA10 _ (Kd.reads_of_C HR0.out))); have HC167 := aM hC10; clear hA10 hC10 hi010 hsz10; have hcv11 := Kd.C_string (P := Tryd.prog) (A := A10) (c := (c0 - a1.toNat)) Tryd.underlying22 Tryd.underlying5 Tryd.underlying9 HR167.out
          have hcv11n := fun nq => Kd.C_string (P := Tryd.prog) (A := A10) (c := (c0 - a1.toNat)) Tryd.underlying22 Tryd.underlying5 Tryd.underlying9 (Kd.C_drewN HR167.out nq)
          (try rw [show ((l0.take (x6_1 : Int).toNat).drop (a1 : Int).toNat).length = (x6_1.toNat - a1.toNat) from (by rw [List.length_drop, List.length_take]; have h_ : (x6_1 : Int) ≤ (l0.length : Int) := of_decide_eq_true (by first | (with_reducible assumption) | assumption); omega)] at hcv11)
          (try rw [show ((l0.take (x6_1 : Int).toNat).drop (a1 : Int).toNat).length = (x6_1.toNat - a1.toNat) from (by rw [List.length_drop, List.length_take]; have h_ : (x6_1 : Int) ≤ (l0.length : Int) := of_decide_eq_true (by first | (with_reducible assumption) | assumption); omega)] at hcv11n)
          go_wp2
          go_ret2
          exact ⟨by first | rfl | (simp; done) | (simp [*]; done), by repeat (first | exact Drawn0.refl _ | apply Drawn0.step)⟩
         ·rw [if_neg c9] at H; exact absurd H (by simp)
        ·rw [if_neg c8] at H; exact absurd H (by simp)
       ·rw [if_neg c7] at H; exact absurd H (by simp)
      ·rw [if_neg c6] at H; have c6b0 : ((rd l0 x6_1) == 0) = false := beq_eq_false_iff_ne.mpr c6; have c6b1 : ((rd l0 x6_1) != 0) = true := bne_iff_ne.mpr c6; have H' := aM H; clear H; have p166 : 0 ≤ (x6_1 : Int) := of_decide_eq_true (by first | (with_reducible assumption) | assumption); have q166 : x6_1 < (l0.length : Int) := of_decide_eq_true (by first | (with_reducible assumption) | assumption); obtain ⟨ad166, e166, hx166_0⟩ := Kd.at_int HR0.out x6_1 p166 q166
       cases e166
       replace p166 := eq_true p166; replace q166 := eq_true q166
       go_wp2
       go_roundg k1
       case measure => have := HK1.out; omega
       case rel => exact ⟨(wrap64 (x6_1 + 1)), (by first | rfl | (simp; done) | (simp [*]; done)), H', ⟨by have := HK1.out; omega⟩, by repeat (first | exact Drawn0.refl _ | apply Drawn0.step)⟩
     ·rw [if_neg c5] at H; exact absurd H (by simp)
    ·rw [if_neg c4] at H; have c4b0 : decide (x6_1 < (l0.length : Int)) = false := decide_eq_false c4; clear c4; simp only [Option.some.injEq, Prod.mk.injEq] at H; obtain ⟨rfl, rfl⟩ := H
     go_wp2
     go_ret2
     exact ⟨by first | rfl | (simp; done) | (simp [*]; done), by repeat (first | exact Drawn0.refl _ | apply Drawn0.step)⟩

end Go.Proofs.YtjohdgejjnbddaaDoor.PHeadInterps
