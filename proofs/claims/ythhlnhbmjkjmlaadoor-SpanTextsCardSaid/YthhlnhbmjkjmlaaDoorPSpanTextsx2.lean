/- Printed by this session's own program (wip/tools: a turn of the kit's print) out of the translation: each Go function that the law reaches as a Lean function, and that the machine's call comes to what that function tells; no condition but what each theorem names. -/
import Derived.Test.YthhlnhbmjkjmlaaDoorPSpanTextsx0
namespace Go.Proofs.YthhlnhbmjkjmlaaDoor.PSpanTexts
open Go.RowKit Go.Proofs.YthhlnhbmjkjmlaaDoorW.PrintWords Go.Proofs.YthhlnhbmjkjmlaaDoorW.PrintLast Go.Proofs.YthhlnhbmjkjmlaaDoorW.PrintMore Go.Proofs.YthhlnhbmjkjmlaaDoorX
attribute [local go_sem] max2_int min2_int max_two min_two max_three min_three max_four min_four   -- for this text's walks alone
set_option linter.unusedVariables false
set_option linter.unusedSimpArgs false

/-! ### shackleref01_Text: function 8 -/
def shackleref01_Text.l0 : Nat → List Int → Int → Int → Option (ByteArray × Int)
  | 0, _, _, _ => none
  | k + 1, x0, x1, x6 => if x6 < (x0.length : Int) then (if 0 ≤ x6 then (if (rd x0 x6) = 0 then (if 0 ≤ x1 then (if x1 ≤ x6 then (if x6 ≤ (x0.length : Int) then (some (strOfNums ((x0.take (x6 : Int).toNat).drop (x1 : Int).toNat), 0)) else (none)) else (none)) else (none)) else (shackleref01_Text.l0 k x0 x1 (wrap64 (x6 + 1)))) else (none)) else (some ((⟨#[]⟩ : ByteArray), 29))
def shackleref01_Text.f (k : Nat) (l0 : List Int) (a1 : Int) : Option (ByteArray × Int) := if a1 ≥ (IntKind.u64.wrap ((l0.length : Int))) then (some ((⟨#[]⟩ : ByteArray), 4)) else (shackleref01_Text.l0 k l0 a1 (wrap64 (a1)))
theorem shackleref01_Text.mono_l : ∀ k, (∀ y0 y1 y2, LeO (shackleref01_Text.l0 k y0 y1 y2) (shackleref01_Text.l0 (k + 1) y0 y1 y2))
  | 0 => fun _ _ _ r h => by simp [shackleref01_Text.l0] at h
  | k + 1 => by
    have ih0 := shackleref01_Text.mono_l k
    · intro y0 y1 y2
      unfold shackleref01_Text.l0
      repeat' first
      | (with_reducible exact ih0 _ _ _)
      | (with_reducible exact LeO.refl _)
      | (with_reducible exact LeO.none _)
      | (with_reducible refine LeO.ite ?_ ?_)
      | (with_reducible refine LeO.bind ?_ (fun _ => ?_))
      | exact ih0 _ _ _
      | exact LeO.none _
      | refine LeO.ite ?_ ?_
      | refine LeO.bind ?_ (fun _ => ?_)
theorem shackleref01_Text.mono : ∀ a0 a1 k, LeO (shackleref01_Text.f k a0 a1) (shackleref01_Text.f (k + 1) a0 a1) := by
  intro a0 a1 k
  have ih0 := shackleref01_Text.mono_l k
  unfold shackleref01_Text.f
  repeat' first
      | (with_reducible exact ih0 _ _ _)
      | (with_reducible exact LeO.refl _)
      | (with_reducible exact LeO.none _)
      | (with_reducible refine LeO.ite ?_ ?_)
      | (with_reducible refine LeO.bind ?_ (fun _ => ?_))
      | exact ih0 _ _ _
      | exact LeO.none _
      | refine LeO.ite ?_ ?_
      | refine LeO.bind ?_ (fun _ => ?_)
set_option maxHeartbeats 8000000 in
set_option maxRecDepth 100000 in
theorem shackleref01_Text.calls (k : Nat) (A0 : Option Addr) (c0 : Nat) (l0 : List Int) (a1 : Int) (r1 : ByteArray) (r2 : Int) (w : World) (hr0 : Kd.C (Kd.int .u8) w A0 l0.length l0) (hc0 : l0.length ≤ c0) (h : shackleref01_Text.f k l0 a1 = some (r1, r2)) :
    Calls Tryd.prog 8 #[.slice A0 l0.length c0, .int .u64 a1] w fun e w' => e = .returned (.tuple #[.string r1, .int .i64 r2]) ∧ Drawn0 w w' := by
  have HR0 := Aside0.mk hr0
  have HC0 := Aside0.mk hc0
  clear hr0 hc0
  have H : (if a1 ≥ (IntKind.u64.wrap ((l0.length : Int))) then (some ((⟨#[]⟩ : ByteArray), 4)) else (shackleref01_Text.l0 k l0 a1 (wrap64 (a1)))) = some (r1, r2) := h
  clear h
  by_cases c3 : a1 ≥ (IntKind.u64.wrap ((l0.length : Int)))
  · rw [if_pos c3] at H
    have c3b0 : decide ((IntKind.u64.wrap ((l0.length : Int))) ≤ a1) = true := decide_eq_true c3
    clear c3
    simp only [Option.some.injEq, Prod.mk.injEq] at H
    obtain ⟨rfl, rfl⟩ := H
    go_enter Tryd.func8, Tryd.ntmps8
    go_wp2
    go_ret2
    exact ⟨by first | rfl | (simp; done) | (simp [*]; done), by repeat (first | exact Drawn0.refl _ | apply Drawn0.step)⟩
  · rw [if_neg c3] at H
    have c3b0 : decide ((IntKind.u64.wrap ((l0.length : Int))) ≤ a1) = false := decide_eq_false c3
    clear c3
    have H' := Aside0.mk H
    clear H
    go_enter Tryd.func8, Tryd.ntmps8
    go_wp2
    go_loopg [6] k (fun kq v6 w' => ∃ (x6_1 : Int), v6 = .int .i64 x6_1 ∧ Aside0 (shackleref01_Text.l0 kq l0 a1 x6_1 = some (r1, r2)) ∧ Aside0 (kq ≤ k) ∧ Drawn0 w w')
    case atStart => exact ⟨(wrap64 (a1)), (by first | rfl | (simp; done) | (simp [*]; done)), H', ⟨Nat.le_refl _⟩, by repeat (first | exact Drawn0.refl _ | apply Drawn0.step)⟩
    case round =>
      clear H'
      try clear p2
      try clear c3
      try clear c3b0
      obtain ⟨x6_1, rfl, HA, HK1, ⟨m1, rfl⟩⟩ := hrel
      cases gk with
      | zero => exact absurd HA.out (by simp [shackleref01_Text.l0])
      | succ k1 =>
        have H := HA.out
        clear HA
        simp only [shackleref01_Text.l0] at H
        by_cases c4 : x6_1 < (l0.length : Int)
        · rw [if_pos c4] at H
          have c4b0 : decide (x6_1 < (l0.length : Int)) = true := decide_eq_true c4
          clear c4
          by_cases c5 : 0 ≤ x6_1
          · rw [if_pos c5] at H
            have c5b0 : decide (0 ≤ x6_1) = true := decide_eq_true c5
            clear c5
            by_cases c6 : (rd l0 x6_1) = 0
            · rw [if_pos c6] at H
              have c6b0 : ((rd l0 x6_1) == 0) = true := beq_iff_eq.mpr c6
              have c6b1 : ((rd l0 x6_1) != 0) = false := bne_eq_false_iff_eq.mpr c6
              clear c6
              by_cases c7 : 0 ≤ a1
              · rw [if_pos c7] at H
                have c7b0 := eq_true c7
                have c7b1 : decide (0 ≤ a1) = true := decide_eq_true c7
                clear c7
                by_cases c8 : a1 ≤ x6_1
                · rw [if_pos c8] at H
                  have c8b0 := eq_true c8
                  have c8b1 : decide (a1 ≤ x6_1) = true := decide_eq_true c8
                  clear c8
                  by_cases c9 : x6_1 ≤ (l0.length : Int)
                  · rw [if_pos c9] at H
                    have c9b0 := eq_true c9
                    have c9b1 : decide (x6_1 ≤ (l0.length : Int)) = true := decide_eq_true c9
                    clear c9
                    simp only [Option.some.injEq, Prod.mk.injEq] at H
                    obtain ⟨rfl, rfl⟩ := H
                    have p147 : 0 ≤ (x6_1 : Int) := of_decide_eq_true (by first | (with_reducible assumption) | assumption)
                    have q147 : x6_1 < (l0.length : Int) := of_decide_eq_true (by first | (with_reducible assumption) | assumption)
                    obtain ⟨ad147, e147, hx147_0⟩ := Kd.at_int HR0.out x6_1 p147 q147
                    cases e147
                    replace p147 := eq_true p147
                    replace q147 := eq_true q147
                    obtain ⟨i010, hi010, _, hsz10, _⟩ := info_parts info5
                    obtain ⟨A10, hcut10, hA10, hC10⟩ := print_mid_of (P := Tryd.prog) (Value.int .u8) 0 22 5 .u64 .i64 Tryd.underlying22 hi010 hsz10 (some ad147) c0 l0 a1 x6_1 (of_decide_eq_true (by first | (with_reducible assumption) | assumption)) (by first | omega | exact of_decide_eq_true (by first | (with_reducible assumption) | assumption)) (of_decide_eq_true (by first | (with_reducible assumption) | assumption)) HC0.out
                    have HR148 := Aside0.mk (Kd.C_of_reads (h1 := fun _ => rfl) (hA10 _ (Kd.reads_of_C HR0.out)))
                    have HC148 := Aside0.mk hC10
                    clear hA10 hC10 hi010 hsz10
                    have hcv11 := Kd.C_string (P := Tryd.prog) (A := A10) (c := (c0 - a1.toNat)) Tryd.underlying22 Tryd.underlying5 Tryd.underlying9 HR148.out
                    have hcv11n := fun nq => Kd.C_string (P := Tryd.prog) (A := A10) (c := (c0 - a1.toNat)) Tryd.underlying22 Tryd.underlying5 Tryd.underlying9 (Kd.C_drewN HR148.out nq)
                    (try rw [show ((l0.take (x6_1 : Int).toNat).drop (a1 : Int).toNat).length = (x6_1.toNat - a1.toNat) from (by rw [List.length_drop, List.length_take]; have h_ : (x6_1 : Int) ≤ (l0.length : Int) := of_decide_eq_true (by first | (with_reducible assumption) | assumption); omega)] at hcv11)
                    (try rw [show ((l0.take (x6_1 : Int).toNat).drop (a1 : Int).toNat).length = (x6_1.toNat - a1.toNat) from (by rw [List.length_drop, List.length_take]; have h_ : (x6_1 : Int) ≤ (l0.length : Int) := of_decide_eq_true (by first | (with_reducible assumption) | assumption); omega)] at hcv11n)
                    go_wp2
                    go_ret2
                    exact ⟨by first | rfl | (simp; done) | (simp [*]; done), by repeat (first | exact Drawn0.refl _ | apply Drawn0.step)⟩
                  · rw [if_neg c9] at H
                    exact absurd H (by simp)
                · rw [if_neg c8] at H
                  exact absurd H (by simp)
              · rw [if_neg c7] at H
                exact absurd H (by simp)
            · rw [if_neg c6] at H
              have c6b0 : ((rd l0 x6_1) == 0) = false := beq_eq_false_iff_ne.mpr c6
              have c6b1 : ((rd l0 x6_1) != 0) = true := bne_iff_ne.mpr c6
              have H' := Aside0.mk H
              clear H
              have p147 : 0 ≤ (x6_1 : Int) := of_decide_eq_true (by first | (with_reducible assumption) | assumption)
              have q147 : x6_1 < (l0.length : Int) := of_decide_eq_true (by first | (with_reducible assumption) | assumption)
              obtain ⟨ad147, e147, hx147_0⟩ := Kd.at_int HR0.out x6_1 p147 q147
              cases e147
              replace p147 := eq_true p147
              replace q147 := eq_true q147
              go_wp2
              go_roundg k1
              case measure => have := HK1.out; omega
              case rel => exact ⟨(wrap64 (x6_1 + 1)), (by first | rfl | (simp; done) | (simp [*]; done)), H', ⟨by have := HK1.out; omega⟩, by repeat (first | exact Drawn0.refl _ | apply Drawn0.step)⟩
          · rw [if_neg c5] at H
            exact absurd H (by simp)
        · rw [if_neg c4] at H
          have c4b0 : decide (x6_1 < (l0.length : Int)) = false := decide_eq_false c4
          clear c4
          simp only [Option.some.injEq, Prod.mk.injEq] at H
          obtain ⟨rfl, rfl⟩ := H
          go_wp2
          go_ret2
          exact ⟨by first | rfl | (simp; done) | (simp [*]; done), by repeat (first | exact Drawn0.refl _ | apply Drawn0.step)⟩

-- NOT PRINTED: function 35 (reflectlite_ValueOf)

-- NOT PRINTED: function 36 (reflectlite_Value_Type)

-- NOT PRINTED: function 37 (reflectlite_Value_IsNil)

-- NOT PRINTED: function 39 (reflectlite_TypeOf)

-- NOT PRINTED: function 42 (reflectlite_Value_Elem)

-- NOT PRINTED: function 43 (reflectlite_Value_Set)

-- NOT PRINTED: function 38 (errors_as)

-- NOT PRINTED: function 25 (errors_As)

-- NOT PRINTED: function 40 (errors_is)

-- NOT PRINTED: function 26 (errors_Is)

/-! ### shacklelaw00_Is: function 14 (by hand) -/
def shacklelaw00_Is.f (a0 : Option Int) (a1 a2 : Int) : Option Bool := isF a0 a1 a2
theorem shacklelaw00_Is.calls (e0 : Value) (a0 : Option Int) (a1 a2 : Int) (r : Bool) (w : World) (hG : ErrTy w) (he0 : ErrAt 40 52 54 w 0 a0 e0) (h : shacklelaw00_Is.f a0 a1 a2 = some r) :
    Calls Tryd.prog 14 #[e0, .int .u64 a1, .int .i64 a2] w fun e w' => e = .returned (.bool r) ∧ Below w.heap.size w w' := isF_calls e0 a0 a1 a2 r w he0 hG h

/-! ### shacklelaw00_further: function 34 -/
def shacklelaw00_further.f (a0 : Option Int) : Option (Int) := if a0.isNone = true then (some (-1)) else (if (a0.getD 0) < 0 then (some (-1)) else (if (a0.getD 0) = 16 then (some 16) else (if (a0.getD 0) = 17 then (some 17) else (if (a0.getD 0) = 18 then (some 18) else (if (a0.getD 0) = 19 then (some 19) else (if (a0.getD 0) = 20 then (some 20) else (if (a0.getD 0) = 21 then (some 21) else (if (a0.getD 0) = 22 then (some 22) else (if (a0.getD 0) = 23 then (some 23) else (if (a0.getD 0) = 24 then (some 24) else (if (a0.getD 0) = 25 then (some 25) else (if (a0.getD 0) = 26 then (some 26) else (if (a0.getD 0) = 27 then (some 27) else (if (a0.getD 0) = 28 then (some 28) else (if (a0.getD 0) = 29 then (some 29) else (if (a0.getD 0) = 30 then (some 30) else (some (-1))))))))))))))))))
set_option maxHeartbeats 8000000 in
set_option maxRecDepth 100000 in
theorem shacklelaw00_further.calls (e0 : Value) (a0 : Option Int) (r : Int) (w : World) (he0 : ErrAt 40 52 54 w 0 a0 e0) (h : shacklelaw00_further.f a0 = some r) :
    Calls Tryd.prog 34 #[e0] w fun e w' => e = .returned (.int .i64 r) ∧ Drawn0 w w' := by
  have hu26 := Tryd.underlying26
  have hu40 := Tryd.underlying40
  have hcm40 : (Tryd.prog.info? 40).map (fun i => i.comparable) = some true := by kernel_rfl
  have H : (if a0.isNone = true then (some (-1)) else (if (a0.getD 0) < 0 then (some (-1)) else (if (a0.getD 0) = 16 then (some 16) else (if (a0.getD 0) = 17 then (some 17) else (if (a0.getD 0) = 18 then (some 18) else (if (a0.getD 0) = 19 then (some 19) else (if (a0.getD 0) = 20 then (some 20) else (if (a0.getD 0) = 21 then (some 21) else (if (a0.getD 0) = 22 then (some 22) else (if (a0.getD 0) = 23 then (some 23) else (if (a0.getD 0) = 24 then (some 24) else (if (a0.getD 0) = 25 then (some 25) else (if (a0.getD 0) = 26 then (some 26) else (if (a0.getD 0) = 27 then (some 27) else (if (a0.getD 0) = 28 then (some 28) else (if (a0.getD 0) = 29 then (some 29) else (if (a0.getD 0) = 30 then (some 30) else (some (-1))))))))))))))))))) = some r := h
  clear h
  rcases a0 with _ | q164
  · have H1 : (some (-1)) = some r := by rw [if_pos (show (none : Option Int).isNone = true by rfl)] at H; exact H
    clear H
    have H := H1
    clear H1
    obtain rfl := ErrAt.none_eq he0
    obtain rfl := Option.some.inj H
    go_enter Tryd.func34, Tryd.ntmps34
    go_wp2
    go_ret
    exact ⟨by first | rfl | (simp; done) | (simp [*]; done), by repeat (first | exact Drawn0.refl _ | apply Drawn0.step)⟩
  · have H1 : (if q164 < 0 then (some (-1)) else (if q164 = 16 then (some 16) else (if q164 = 17 then (some 17) else (if q164 = 18 then (some 18) else (if q164 = 19 then (some 19) else (if q164 = 20 then (some 20) else (if q164 = 21 then (some 21) else (if q164 = 22 then (some 22) else (if q164 = 23 then (some 23) else (if q164 = 24 then (some 24) else (if q164 = 25 then (some 25) else (if q164 = 26 then (some 26) else (if q164 = 27 then (some 27) else (if q164 = 28 then (some 28) else (if q164 = 29 then (some 29) else (if q164 = 30 then (some 30) else (some (-1)))))))))))))))))) = some r := by rw [if_neg (show ¬ (some q164).isNone = true by simp)] at H; exact H
    clear H
    have H := H1
    clear H1
    skip
    by_cases c2 : q164 < 0
    · rw [if_pos c2] at H
      have SQq164 := Aside0.mk c2
      clear c2
      obtain ⟨gb163, rfl, _, hbx_⟩ := ErrAt.spot_eq he0 SQq164.out
      have BK163 := Aside0.mk hbx_
      clear hbx_
      obtain rfl := Option.some.inj H
      go_enter Tryd.func34, Tryd.ntmps34
      go_wp2
      go_ret
      exact ⟨by first | rfl | (simp; done) | (simp [*]; done), by repeat (first | exact Drawn0.refl _ | apply Drawn0.step)⟩
    · rw [if_neg c2] at H
      have SQq164 := Aside0.mk c2
      have c2b1 : decide (0 ≤ q164) = true := decide_eq_true (Int.not_lt.1 c2)
      clear c2
      obtain rfl := ErrAt.code_eq he0 SQq164.out
      by_cases c3 : q164 = 16
      · rw [if_pos c3] at H
        have c3b0 : (q164 == 16) = true := beq_iff_eq.mpr c3
        have c3b1 : (q164 != 16) = false := bne_eq_false_iff_eq.mpr c3
        clear c3
        obtain rfl := Option.some.inj H
        go_enter Tryd.func34, Tryd.ntmps34
        go_wp2
        go_ret
        exact ⟨by first | rfl | (simp; done) | (simp [*]; done), by repeat (first | exact Drawn0.refl _ | apply Drawn0.step)⟩
      · rw [if_neg c3] at H
        have c3b0 : (q164 == 16) = false := beq_eq_false_iff_ne.mpr c3
        have c3b1 : (q164 != 16) = true := bne_iff_ne.mpr c3
        by_cases c4 : q164 = 17
        · rw [if_pos c4] at H
          have c4b0 : (q164 == 17) = true := beq_iff_eq.mpr c4
          have c4b1 : (q164 != 17) = false := bne_eq_false_iff_eq.mpr c4
          clear c4
          obtain rfl := Option.some.inj H
          go_enter Tryd.func34, Tryd.ntmps34
          go_wp2
          go_ret
          exact ⟨by first | rfl | (simp; done) | (simp [*]; done), by repeat (first | exact Drawn0.refl _ | apply Drawn0.step)⟩
        · rw [if_neg c4] at H
          have c4b0 : (q164 == 17) = false := beq_eq_false_iff_ne.mpr c4
          have c4b1 : (q164 != 17) = true := bne_iff_ne.mpr c4
          by_cases c5 : q164 = 18
          · rw [if_pos c5] at H
            have c5b0 : (q164 == 18) = true := beq_iff_eq.mpr c5
            have c5b1 : (q164 != 18) = false := bne_eq_false_iff_eq.mpr c5
            clear c5
            obtain rfl := Option.some.inj H
            go_enter Tryd.func34, Tryd.ntmps34
            go_wp2
            go_ret
            exact ⟨by first | rfl | (simp; done) | (simp [*]; done), by repeat (first | exact Drawn0.refl _ | apply Drawn0.step)⟩
          · rw [if_neg c5] at H
            have c5b0 : (q164 == 18) = false := beq_eq_false_iff_ne.mpr c5
            have c5b1 : (q164 != 18) = true := bne_iff_ne.mpr c5
            by_cases c6 : q164 = 19
            · rw [if_pos c6] at H
              have c6b0 : (q164 == 19) = true := beq_iff_eq.mpr c6
              have c6b1 : (q164 != 19) = false := bne_eq_false_iff_eq.mpr c6
              clear c6
              obtain rfl := Option.some.inj H
              go_enter Tryd.func34, Tryd.ntmps34
              go_wp2
              go_ret
              exact ⟨by first | rfl | (simp; done) | (simp [*]; done), by repeat (first | exact Drawn0.refl _ | apply Drawn0.step)⟩
            · rw [if_neg c6] at H
              have c6b0 : (q164 == 19) = false := beq_eq_false_iff_ne.mpr c6
              have c6b1 : (q164 != 19) = true := bne_iff_ne.mpr c6
              by_cases c7 : q164 = 20
              · rw [if_pos c7] at H
                have c7b0 : (q164 == 20) = true := beq_iff_eq.mpr c7
                have c7b1 : (q164 != 20) = false := bne_eq_false_iff_eq.mpr c7
                clear c7
                obtain rfl := Option.some.inj H
                go_enter Tryd.func34, Tryd.ntmps34
                go_wp2
                go_ret
                exact ⟨by first | rfl | (simp; done) | (simp [*]; done), by repeat (first | exact Drawn0.refl _ | apply Drawn0.step)⟩
              · rw [if_neg c7] at H
                have c7b0 : (q164 == 20) = false := beq_eq_false_iff_ne.mpr c7
                have c7b1 : (q164 != 20) = true := bne_iff_ne.mpr c7
                by_cases c8 : q164 = 21
                · rw [if_pos c8] at H
                  have c8b0 : (q164 == 21) = true := beq_iff_eq.mpr c8
                  have c8b1 : (q164 != 21) = false := bne_eq_false_iff_eq.mpr c8
                  clear c8
                  obtain rfl := Option.some.inj H
                  go_enter Tryd.func34, Tryd.ntmps34
                  go_wp2
                  go_ret
                  exact ⟨by first | rfl | (simp; done) | (simp [*]; done), by repeat (first | exact Drawn0.refl _ | apply Drawn0.step)⟩
                · rw [if_neg c8] at H
                  have c8b0 : (q164 == 21) = false := beq_eq_false_iff_ne.mpr c8
                  have c8b1 : (q164 != 21) = true := bne_iff_ne.mpr c8
                  by_cases c9 : q164 = 22
                  · rw [if_pos c9] at H
                    have c9b0 : (q164 == 22) = true := beq_iff_eq.mpr c9
                    have c9b1 : (q164 != 22) = false := bne_eq_false_iff_eq.mpr c9
                    clear c9
                    obtain rfl := Option.some.inj H
                    go_enter Tryd.func34, Tryd.ntmps34
                    go_wp2
                    go_ret
                    exact ⟨by first | rfl | (simp; done) | (simp [*]; done), by repeat (first | exact Drawn0.refl _ | apply Drawn0.step)⟩
                  · rw [if_neg c9] at H
                    have c9b0 : (q164 == 22) = false := beq_eq_false_iff_ne.mpr c9
                    have c9b1 : (q164 != 22) = true := bne_iff_ne.mpr c9
                    by_cases c10 : q164 = 23
                    · rw [if_pos c10] at H
                      have c10b0 : (q164 == 23) = true := beq_iff_eq.mpr c10
                      have c10b1 : (q164 != 23) = false := bne_eq_false_iff_eq.mpr c10
                      clear c10
                      obtain rfl := Option.some.inj H
                      go_enter Tryd.func34, Tryd.ntmps34
                      go_wp2
                      go_ret
                      exact ⟨by first | rfl | (simp; done) | (simp [*]; done), by repeat (first | exact Drawn0.refl _ | apply Drawn0.step)⟩
                    · rw [if_neg c10] at H
                      have c10b0 : (q164 == 23) = false := beq_eq_false_iff_ne.mpr c10
                      have c10b1 : (q164 != 23) = true := bne_iff_ne.mpr c10
                      by_cases c11 : q164 = 24
                      · rw [if_pos c11] at H
                        have c11b0 : (q164 == 24) = true := beq_iff_eq.mpr c11
                        have c11b1 : (q164 != 24) = false := bne_eq_false_iff_eq.mpr c11
                        clear c11
                        obtain rfl := Option.some.inj H
                        go_enter Tryd.func34, Tryd.ntmps34
                        go_wp2
                        go_ret
                        exact ⟨by first | rfl | (simp; done) | (simp [*]; done), by repeat (first | exact Drawn0.refl _ | apply Drawn0.step)⟩
                      · rw [if_neg c11] at H
                        have c11b0 : (q164 == 24) = false := beq_eq_false_iff_ne.mpr c11
                        have c11b1 : (q164 != 24) = true := bne_iff_ne.mpr c11
                        by_cases c12 : q164 = 25
                        · rw [if_pos c12] at H
                          have c12b0 : (q164 == 25) = true := beq_iff_eq.mpr c12
                          have c12b1 : (q164 != 25) = false := bne_eq_false_iff_eq.mpr c12
                          clear c12
                          obtain rfl := Option.some.inj H
                          go_enter Tryd.func34, Tryd.ntmps34
                          go_wp2
                          go_ret
                          exact ⟨by first | rfl | (simp; done) | (simp [*]; done), by repeat (first | exact Drawn0.refl _ | apply Drawn0.step)⟩
                        · rw [if_neg c12] at H
                          have c12b0 : (q164 == 25) = false := beq_eq_false_iff_ne.mpr c12
                          have c12b1 : (q164 != 25) = true := bne_iff_ne.mpr c12
                          by_cases c13 : q164 = 26
                          · rw [if_pos c13] at H
                            have c13b0 : (q164 == 26) = true := beq_iff_eq.mpr c13
                            have c13b1 : (q164 != 26) = false := bne_eq_false_iff_eq.mpr c13
                            clear c13
                            obtain rfl := Option.some.inj H
                            go_enter Tryd.func34, Tryd.ntmps34
                            go_wp2
                            go_ret
                            exact ⟨by first | rfl | (simp; done) | (simp [*]; done), by repeat (first | exact Drawn0.refl _ | apply Drawn0.step)⟩
                          · rw [if_neg c13] at H
                            have c13b0 : (q164 == 26) = false := beq_eq_false_iff_ne.mpr c13
                            have c13b1 : (q164 != 26) = true := bne_iff_ne.mpr c13
                            by_cases c14 : q164 = 27
                            · rw [if_pos c14] at H
                              have c14b0 : (q164 == 27) = true := beq_iff_eq.mpr c14
                              have c14b1 : (q164 != 27) = false := bne_eq_false_iff_eq.mpr c14
                              clear c14
                              obtain rfl := Option.some.inj H
                              go_enter Tryd.func34, Tryd.ntmps34
                              go_wp2
                              go_ret
                              exact ⟨by first | rfl | (simp; done) | (simp [*]; done), by repeat (first | exact Drawn0.refl _ | apply Drawn0.step)⟩
                            · rw [if_neg c14] at H
                              have c14b0 : (q164 == 27) = false := beq_eq_false_iff_ne.mpr c14
                              have c14b1 : (q164 != 27) = true := bne_iff_ne.mpr c14
                              by_cases c15 : q164 = 28
                              · rw [if_pos c15] at H
                                have c15b0 : (q164 == 28) = true := beq_iff_eq.mpr c15
                                have c15b1 : (q164 != 28) = false := bne_eq_false_iff_eq.mpr c15
                                clear c15
                                obtain rfl := Option.some.inj H
                                go_enter Tryd.func34, Tryd.ntmps34
                                go_wp2
                                go_ret
                                exact ⟨by first | rfl | (simp; done) | (simp [*]; done), by repeat (first | exact Drawn0.refl _ | apply Drawn0.step)⟩
                              · rw [if_neg c15] at H
                                have c15b0 : (q164 == 28) = false := beq_eq_false_iff_ne.mpr c15
                                have c15b1 : (q164 != 28) = true := bne_iff_ne.mpr c15
                                by_cases c16 : q164 = 29
                                · rw [if_pos c16] at H
                                  have c16b0 : (q164 == 29) = true := beq_iff_eq.mpr c16
                                  have c16b1 : (q164 != 29) = false := bne_eq_false_iff_eq.mpr c16
                                  clear c16
                                  obtain rfl := Option.some.inj H
                                  go_enter Tryd.func34, Tryd.ntmps34
                                  go_wp2
                                  go_ret
                                  exact ⟨by first | rfl | (simp; done) | (simp [*]; done), by repeat (first | exact Drawn0.refl _ | apply Drawn0.step)⟩
                                · rw [if_neg c16] at H
                                  have c16b0 : (q164 == 29) = false := beq_eq_false_iff_ne.mpr c16
                                  have c16b1 : (q164 != 29) = true := bne_iff_ne.mpr c16
                                  by_cases c17 : q164 = 30
                                  · rw [if_pos c17] at H
                                    have c17b0 : (q164 == 30) = true := beq_iff_eq.mpr c17
                                    have c17b1 : (q164 != 30) = false := bne_eq_false_iff_eq.mpr c17
                                    clear c17
                                    obtain rfl := Option.some.inj H
                                    go_enter Tryd.func34, Tryd.ntmps34
                                    go_wp2
                                    go_ret
                                    exact ⟨by first | rfl | (simp; done) | (simp [*]; done), by repeat (first | exact Drawn0.refl _ | apply Drawn0.step)⟩
                                  · rw [if_neg c17] at H
                                    have c17b0 : (q164 == 30) = false := beq_eq_false_iff_ne.mpr c17
                                    have c17b1 : (q164 != 30) = true := bne_iff_ne.mpr c17
                                    obtain rfl := Option.some.inj H
                                    go_enter Tryd.func34, Tryd.ntmps34
                                    go_wp2
                                    go_ret
                                    exact ⟨by first | rfl | (simp; done) | (simp [*]; done), by repeat (first | exact Drawn0.refl _ | apply Drawn0.step)⟩

/-! ### shacklelaw00_Code: function 22 -/
def shacklelaw00_Code.f (a0 : Option Int) : Option (Int) := if a0.isNone = true then (some 0) else (if (a0.getD 0) < 0 then ((shacklelaw00_further.f (some (a0.getD 0))).bind fun t167 => (some t167)) else (if (a0.getD 0) = 1 then (some 1) else (if (a0.getD 0) = 2 then (some 2) else (if (a0.getD 0) = 3 then (some 3) else (if (a0.getD 0) = 4 then (some 4) else (if (a0.getD 0) = 5 then (some 5) else (if (a0.getD 0) = 6 then (some 6) else (if (a0.getD 0) = 7 then (some 7) else (if (a0.getD 0) = 8 then (some 8) else (if (a0.getD 0) = 9 then (some 9) else (if (a0.getD 0) = 10 then (some 10) else (if (a0.getD 0) = 11 then (some 11) else (if (a0.getD 0) = 12 then (some 12) else (if (a0.getD 0) = 13 then (some 13) else (if (a0.getD 0) = 14 then (some 14) else (if (a0.getD 0) = 15 then (some 15) else ((shacklelaw00_further.f (some (a0.getD 0))).bind fun t168 => (some t168))))))))))))))))))
set_option maxHeartbeats 8000000 in
set_option maxRecDepth 100000 in
theorem shacklelaw00_Code.calls (e0 : Value) (a0 : Option Int) (r : Int) (w : World) (he0 : ErrAt 40 52 54 w 0 a0 e0) (h : shacklelaw00_Code.f a0 = some r) :
    Calls Tryd.prog 22 #[e0] w fun e w' => e = .returned (.int .i64 r) ∧ Drawn0 w w' := by
  have hu26 := Tryd.underlying26
  have hu40 := Tryd.underlying40
  have hcm40 : (Tryd.prog.info? 40).map (fun i => i.comparable) = some true := by kernel_rfl
  have H : (if a0.isNone = true then (some 0) else (if (a0.getD 0) < 0 then ((shacklelaw00_further.f (some (a0.getD 0))).bind fun t167 => (some t167)) else (if (a0.getD 0) = 1 then (some 1) else (if (a0.getD 0) = 2 then (some 2) else (if (a0.getD 0) = 3 then (some 3) else (if (a0.getD 0) = 4 then (some 4) else (if (a0.getD 0) = 5 then (some 5) else (if (a0.getD 0) = 6 then (some 6) else (if (a0.getD 0) = 7 then (some 7) else (if (a0.getD 0) = 8 then (some 8) else (if (a0.getD 0) = 9 then (some 9) else (if (a0.getD 0) = 10 then (some 10) else (if (a0.getD 0) = 11 then (some 11) else (if (a0.getD 0) = 12 then (some 12) else (if (a0.getD 0) = 13 then (some 13) else (if (a0.getD 0) = 14 then (some 14) else (if (a0.getD 0) = 15 then (some 15) else ((shacklelaw00_further.f (some (a0.getD 0))).bind fun t168 => (some t168))))))))))))))))))) = some r := h
  clear h
  rcases a0 with _ | q166
  · have H1 : (some 0) = some r := by rw [if_pos (show (none : Option Int).isNone = true by rfl)] at H; exact H
    clear H
    have H := H1
    clear H1
    obtain rfl := ErrAt.none_eq he0
    obtain rfl := Option.some.inj H
    go_enter Tryd.func22, Tryd.ntmps22
    go_wp2
    go_ret
    exact ⟨by first | rfl | (simp; done) | (simp [*]; done), by repeat (first | exact Drawn0.refl _ | apply Drawn0.step)⟩
  · have H1 : (if q166 < 0 then ((shacklelaw00_further.f (some q166)).bind fun t167 => (some t167)) else (if q166 = 1 then (some 1) else (if q166 = 2 then (some 2) else (if q166 = 3 then (some 3) else (if q166 = 4 then (some 4) else (if q166 = 5 then (some 5) else (if q166 = 6 then (some 6) else (if q166 = 7 then (some 7) else (if q166 = 8 then (some 8) else (if q166 = 9 then (some 9) else (if q166 = 10 then (some 10) else (if q166 = 11 then (some 11) else (if q166 = 12 then (some 12) else (if q166 = 13 then (some 13) else (if q166 = 14 then (some 14) else (if q166 = 15 then (some 15) else ((shacklelaw00_further.f (some q166)).bind fun t168 => (some t168)))))))))))))))))) = some r := by rw [if_neg (show ¬ (some q166).isNone = true by simp)] at H; exact H
    clear H
    have H := H1
    clear H1
    skip
    by_cases c2 : q166 < 0
    · rw [if_pos c2] at H
      have SQq166 := Aside0.mk c2
      clear c2
      obtain ⟨gb165, rfl, _, hbx_⟩ := ErrAt.spot_eq he0 SQq166.out
      have BK165 := Aside0.mk hbx_
      clear hbx_
      replace H := Option.bind_eq_some_iff.mp H
      obtain ⟨t167, A30, H⟩ := H
      replace H : (some t167) = some r := H
      have A3 := Aside0.mk A30
      clear A30
      obtain rfl := Option.some.inj H
      go_enter Tryd.func22, Tryd.ntmps22
      go_wp2_with (first | (go_at_call 34; (with_reducible refine (shacklelaw00_further.calls (.iface 52 (.pointer (some ⟨gb165, 0, none⟩))) (some q166) t167 _ ?side1 A3.out).mono ?_); (case side1 => exact (ErrAt.of_spot SQq166.out (Nat.zero_le _) (by (with_reducible repeat (first | refine blk_drewN ?_ _ | refine blk_drew ?_ | refine blk_alloc ?_ _)); exact BK165.out))); rintro e w' ⟨rfl, ⟨nd, rfl⟩⟩))
      go_ret
      exact ⟨by first | rfl | (simp; done) | (simp [*]; done), by repeat (first | exact Drawn0.refl _ | apply Drawn0.step)⟩
    · rw [if_neg c2] at H
      have SQq166 := Aside0.mk c2
      have c2b1 : decide (0 ≤ q166) = true := decide_eq_true (Int.not_lt.1 c2)
      clear c2
      obtain rfl := ErrAt.code_eq he0 SQq166.out
      by_cases c4 : q166 = 1
      · rw [if_pos c4] at H
        have c4b0 : (q166 == 1) = true := beq_iff_eq.mpr c4
        have c4b1 : (q166 != 1) = false := bne_eq_false_iff_eq.mpr c4
        clear c4
        obtain rfl := Option.some.inj H
        go_enter Tryd.func22, Tryd.ntmps22
        go_wp2
        go_ret
        exact ⟨by first | rfl | (simp; done) | (simp [*]; done), by repeat (first | exact Drawn0.refl _ | apply Drawn0.step)⟩
      · rw [if_neg c4] at H
        have c4b0 : (q166 == 1) = false := beq_eq_false_iff_ne.mpr c4
        have c4b1 : (q166 != 1) = true := bne_iff_ne.mpr c4
        by_cases c5 : q166 = 2
        · rw [if_pos c5] at H
          have c5b0 : (q166 == 2) = true := beq_iff_eq.mpr c5
          have c5b1 : (q166 != 2) = false := bne_eq_false_iff_eq.mpr c5
          clear c5
          obtain rfl := Option.some.inj H
          go_enter Tryd.func22, Tryd.ntmps22
          go_wp2
          go_ret
          exact ⟨by first | rfl | (simp; done) | (simp [*]; done), by repeat (first | exact Drawn0.refl _ | apply Drawn0.step)⟩
        · rw [if_neg c5] at H
          have c5b0 : (q166 == 2) = false := beq_eq_false_iff_ne.mpr c5
          have c5b1 : (q166 != 2) = true := bne_iff_ne.mpr c5
          by_cases c6 : q166 = 3
          · rw [if_pos c6] at H
            have c6b0 : (q166 == 3) = true := beq_iff_eq.mpr c6
            have c6b1 : (q166 != 3) = false := bne_eq_false_iff_eq.mpr c6
            clear c6
            obtain rfl := Option.some.inj H
            go_enter Tryd.func22, Tryd.ntmps22
            go_wp2
            go_ret
            exact ⟨by first | rfl | (simp; done) | (simp [*]; done), by repeat (first | exact Drawn0.refl _ | apply Drawn0.step)⟩
          · rw [if_neg c6] at H
            have c6b0 : (q166 == 3) = false := beq_eq_false_iff_ne.mpr c6
            have c6b1 : (q166 != 3) = true := bne_iff_ne.mpr c6
            by_cases c7 : q166 = 4
            · rw [if_pos c7] at H
              have c7b0 : (q166 == 4) = true := beq_iff_eq.mpr c7
              have c7b1 : (q166 != 4) = false := bne_eq_false_iff_eq.mpr c7
              clear c7
              obtain rfl := Option.some.inj H
              go_enter Tryd.func22, Tryd.ntmps22
              go_wp2
              go_ret
              exact ⟨by first | rfl | (simp; done) | (simp [*]; done), by repeat (first | exact Drawn0.refl _ | apply Drawn0.step)⟩
            · rw [if_neg c7] at H
              have c7b0 : (q166 == 4) = false := beq_eq_false_iff_ne.mpr c7
              have c7b1 : (q166 != 4) = true := bne_iff_ne.mpr c7
              by_cases c8 : q166 = 5
              · rw [if_pos c8] at H
                have c8b0 : (q166 == 5) = true := beq_iff_eq.mpr c8
                have c8b1 : (q166 != 5) = false := bne_eq_false_iff_eq.mpr c8
                clear c8
                obtain rfl := Option.some.inj H
                go_enter Tryd.func22, Tryd.ntmps22
                go_wp2
                go_ret
                exact ⟨by first | rfl | (simp; done) | (simp [*]; done), by repeat (first | exact Drawn0.refl _ | apply Drawn0.step)⟩
              · rw [if_neg c8] at H
                have c8b0 : (q166 == 5) = false := beq_eq_false_iff_ne.mpr c8
                have c8b1 : (q166 != 5) = true := bne_iff_ne.mpr c8
                by_cases c9 : q166 = 6
                · rw [if_pos c9] at H
                  have c9b0 : (q166 == 6) = true := beq_iff_eq.mpr c9
                  have c9b1 : (q166 != 6) = false := bne_eq_false_iff_eq.mpr c9
                  clear c9
                  obtain rfl := Option.some.inj H
                  go_enter Tryd.func22, Tryd.ntmps22
                  go_wp2
                  go_ret
                  exact ⟨by first | rfl | (simp; done) | (simp [*]; done), by repeat (first | exact Drawn0.refl _ | apply Drawn0.step)⟩
                · rw [if_neg c9] at H
                  have c9b0 : (q166 == 6) = false := beq_eq_false_iff_ne.mpr c9
                  have c9b1 : (q166 != 6) = true := bne_iff_ne.mpr c9
                  by_cases c10 : q166 = 7
                  · rw [if_pos c10] at H
                    have c10b0 : (q166 == 7) = true := beq_iff_eq.mpr c10
                    have c10b1 : (q166 != 7) = false := bne_eq_false_iff_eq.mpr c10
                    clear c10
                    obtain rfl := Option.some.inj H
                    go_enter Tryd.func22, Tryd.ntmps22
                    go_wp2
                    go_ret
                    exact ⟨by first | rfl | (simp; done) | (simp [*]; done), by repeat (first | exact Drawn0.refl _ | apply Drawn0.step)⟩
                  · rw [if_neg c10] at H
                    have c10b0 : (q166 == 7) = false := beq_eq_false_iff_ne.mpr c10
                    have c10b1 : (q166 != 7) = true := bne_iff_ne.mpr c10
                    by_cases c11 : q166 = 8
                    · rw [if_pos c11] at H
                      have c11b0 : (q166 == 8) = true := beq_iff_eq.mpr c11
                      have c11b1 : (q166 != 8) = false := bne_eq_false_iff_eq.mpr c11
                      clear c11
                      obtain rfl := Option.some.inj H
                      go_enter Tryd.func22, Tryd.ntmps22
                      go_wp2
                      go_ret
                      exact ⟨by first | rfl | (simp; done) | (simp [*]; done), by repeat (first | exact Drawn0.refl _ | apply Drawn0.step)⟩
                    · rw [if_neg c11] at H
                      have c11b0 : (q166 == 8) = false := beq_eq_false_iff_ne.mpr c11
                      have c11b1 : (q166 != 8) = true := bne_iff_ne.mpr c11
                      by_cases c12 : q166 = 9
                      · rw [if_pos c12] at H
                        have c12b0 : (q166 == 9) = true := beq_iff_eq.mpr c12
                        have c12b1 : (q166 != 9) = false := bne_eq_false_iff_eq.mpr c12
                        clear c12
                        obtain rfl := Option.some.inj H
                        go_enter Tryd.func22, Tryd.ntmps22
                        go_wp2
                        go_ret
                        exact ⟨by first | rfl | (simp; done) | (simp [*]; done), by repeat (first | exact Drawn0.refl _ | apply Drawn0.step)⟩
                      · rw [if_neg c12] at H
                        have c12b0 : (q166 == 9) = false := beq_eq_false_iff_ne.mpr c12
                        have c12b1 : (q166 != 9) = true := bne_iff_ne.mpr c12
                        by_cases c13 : q166 = 10
                        · rw [if_pos c13] at H
                          have c13b0 : (q166 == 10) = true := beq_iff_eq.mpr c13
                          have c13b1 : (q166 != 10) = false := bne_eq_false_iff_eq.mpr c13
                          clear c13
                          obtain rfl := Option.some.inj H
                          go_enter Tryd.func22, Tryd.ntmps22
                          go_wp2
                          go_ret
                          exact ⟨by first | rfl | (simp; done) | (simp [*]; done), by repeat (first | exact Drawn0.refl _ | apply Drawn0.step)⟩
                        · rw [if_neg c13] at H
                          have c13b0 : (q166 == 10) = false := beq_eq_false_iff_ne.mpr c13
                          have c13b1 : (q166 != 10) = true := bne_iff_ne.mpr c13
                          by_cases c14 : q166 = 11
                          · rw [if_pos c14] at H
                            have c14b0 : (q166 == 11) = true := beq_iff_eq.mpr c14
                            have c14b1 : (q166 != 11) = false := bne_eq_false_iff_eq.mpr c14
                            clear c14
                            obtain rfl := Option.some.inj H
                            go_enter Tryd.func22, Tryd.ntmps22
                            go_wp2
                            go_ret
                            exact ⟨by first | rfl | (simp; done) | (simp [*]; done), by repeat (first | exact Drawn0.refl _ | apply Drawn0.step)⟩
                          · rw [if_neg c14] at H
                            have c14b0 : (q166 == 11) = false := beq_eq_false_iff_ne.mpr c14
                            have c14b1 : (q166 != 11) = true := bne_iff_ne.mpr c14
                            by_cases c15 : q166 = 12
                            · rw [if_pos c15] at H
                              have c15b0 : (q166 == 12) = true := beq_iff_eq.mpr c15
                              have c15b1 : (q166 != 12) = false := bne_eq_false_iff_eq.mpr c15
                              clear c15
                              obtain rfl := Option.some.inj H
                              go_enter Tryd.func22, Tryd.ntmps22
                              go_wp2
                              go_ret
                              exact ⟨by first | rfl | (simp; done) | (simp [*]; done), by repeat (first | exact Drawn0.refl _ | apply Drawn0.step)⟩
                            · rw [if_neg c15] at H
                              have c15b0 : (q166 == 12) = false := beq_eq_false_iff_ne.mpr c15
                              have c15b1 : (q166 != 12) = true := bne_iff_ne.mpr c15
                              by_cases c16 : q166 = 13
                              · rw [if_pos c16] at H
                                have c16b0 : (q166 == 13) = true := beq_iff_eq.mpr c16
                                have c16b1 : (q166 != 13) = false := bne_eq_false_iff_eq.mpr c16
                                clear c16
                                obtain rfl := Option.some.inj H
                                go_enter Tryd.func22, Tryd.ntmps22
                                go_wp2
                                go_ret
                                exact ⟨by first | rfl | (simp; done) | (simp [*]; done), by repeat (first | exact Drawn0.refl _ | apply Drawn0.step)⟩
                              · rw [if_neg c16] at H
                                have c16b0 : (q166 == 13) = false := beq_eq_false_iff_ne.mpr c16
                                have c16b1 : (q166 != 13) = true := bne_iff_ne.mpr c16
                                by_cases c17 : q166 = 14
                                · rw [if_pos c17] at H
                                  have c17b0 : (q166 == 14) = true := beq_iff_eq.mpr c17
                                  have c17b1 : (q166 != 14) = false := bne_eq_false_iff_eq.mpr c17
                                  clear c17
                                  obtain rfl := Option.some.inj H
                                  go_enter Tryd.func22, Tryd.ntmps22
                                  go_wp2
                                  go_ret
                                  exact ⟨by first | rfl | (simp; done) | (simp [*]; done), by repeat (first | exact Drawn0.refl _ | apply Drawn0.step)⟩
                                · rw [if_neg c17] at H
                                  have c17b0 : (q166 == 14) = false := beq_eq_false_iff_ne.mpr c17
                                  have c17b1 : (q166 != 14) = true := bne_iff_ne.mpr c17
                                  by_cases c18 : q166 = 15
                                  · rw [if_pos c18] at H
                                    have c18b0 : (q166 == 15) = true := beq_iff_eq.mpr c18
                                    have c18b1 : (q166 != 15) = false := bne_eq_false_iff_eq.mpr c18
                                    clear c18
                                    obtain rfl := Option.some.inj H
                                    go_enter Tryd.func22, Tryd.ntmps22
                                    go_wp2
                                    go_ret
                                    exact ⟨by first | rfl | (simp; done) | (simp [*]; done), by repeat (first | exact Drawn0.refl _ | apply Drawn0.step)⟩
                                  · rw [if_neg c18] at H
                                    have c18b0 : (q166 == 15) = false := beq_eq_false_iff_ne.mpr c18
                                    have c18b1 : (q166 != 15) = true := bne_iff_ne.mpr c18
                                    replace H := Option.bind_eq_some_iff.mp H
                                    obtain ⟨t168, A190, H⟩ := H
                                    replace H : (some t168) = some r := H
                                    have A19 := Aside0.mk A190
                                    clear A190
                                    obtain rfl := Option.some.inj H
                                    go_enter Tryd.func22, Tryd.ntmps22
                                    go_wp2_with (first | (go_at_call 34; (with_reducible refine (shacklelaw00_further.calls (.iface 40 (.int .i64 q166)) (some q166) t168 _ ?side1 A19.out).mono ?_); (case side1 => exact (ErrAt.of_code (by first | (with_reducible exact of_decide_eq_true (by assumption)) | exact of_decide_eq_true (by assumption) | decide | omega))); rintro e w' ⟨rfl, ⟨nd, rfl⟩⟩))
                                    go_ret
                                    exact ⟨by first | rfl | (simp; done) | (simp [*]; done), by repeat (first | exact Drawn0.refl _ | apply Drawn0.step)⟩

end Go.Proofs.YthhlnhbmjkjmlaaDoor.PSpanTexts
