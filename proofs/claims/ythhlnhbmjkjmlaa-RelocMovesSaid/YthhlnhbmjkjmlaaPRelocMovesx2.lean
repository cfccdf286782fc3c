/- Printed by this session's own program (wip/tools: a turn of the kit's print) out of the translation: each Go function that the law reaches as a Lean function, and that the machine's call comes to what that function tells; no condition but what each theorem names. -/
import Derived.Test.YthhlnhbmjkjmlaaPRelocMovesx0
import Derived.Test.YthhlnhbmjkjmlaaPRelocMovesx1
namespace Go.Proofs.Ythhlnhbmjkjmlaa.PRelocMoves
open Go.RowKit Go.Proofs.YthhlnhbmjkjmlaaW.PrintWords Go.Proofs.YthhlnhbmjkjmlaaW.PrintLast Go.Proofs.YthhlnhbmjkjmlaaW.PrintMore Go.Proofs.YthhlnhbmjkjmlaaX
attribute [local go_sem] max2_int min2_int max_two min_two max_three min_three max_four min_four   -- for this text's walks alone
set_option linter.unusedVariables false
set_option linter.unusedSimpArgs false

/-! ### shacklelaw19_up: function 14 -/
def shacklelaw19_up.f (k : Nat)  : Option (Bool) := (reloc_Value.f k 0 1 0 (-1) 0 4096 0 0 0 false 0).bind fun bt117 => ((reloc_Value.f k 16 2 0 0 8192 4096 0 0 0 false 0).bind fun bt120 => ((reloc_Value.f k 0 18 0 0 0 0 0 0 4 false 16).bind fun bt123 => ((reloc_Value.f k 0 99 0 0 0 0 0 0 0 false 0).bind fun bt126 => (if bt117.1 = 4095 then (if bt117.2.1 = 8 then (if bt117.2.2.isNone = true then (if bt120.1 = 4294963184 then (if bt120.2.1 = 4 then (if bt120.2.2.isNone = true then (if bt123.1 = 18446744073709551604 then (if bt123.2.2.isNone = true then (if bt126.2.2.isNone = true then (some false) else (some ((bt126.2.2.getD 0) == 20))) else (some false)) else (some false)) else (some false)) else (some false)) else (some false)) else (some false)) else (some false)) else (some false)))))
theorem shacklelaw19_up.mono : ∀ k, LeO (shacklelaw19_up.f k ) (shacklelaw19_up.f (k + 1) ) := by
  intro  k
  unfold shacklelaw19_up.f
  repeat' first
      | (with_reducible exact reloc_Value.mono _ _ _ _ _ _ _ _ _ _ _ _)
      | (with_reducible exact LeO.refl _)
      | (with_reducible exact LeO.none _)
      | (with_reducible refine LeO.ite ?_ ?_)
      | (with_reducible refine LeO.bind ?_ (fun _ => ?_))
      | exact reloc_Value.mono _ _ _ _ _ _ _ _ _ _ _ _
      | exact LeO.none _
      | refine LeO.ite ?_ ?_
      | refine LeO.bind ?_ (fun _ => ?_)
set_option maxHeartbeats 8000000 in
set_option maxRecDepth 100000 in
theorem shacklelaw19_up.calls (k : Nat)  (r : Bool) (w : World) (h : shacklelaw19_up.f k  = some r) :
    Calls Try.prog 14 #[] w fun e w' => e = .returned (.bool r) ∧ Below w.heap.size w w' := by
  have hu24 := Try.underlying24
  have hu26 := Try.underlying26
  have hu29 := Try.underlying29
  have hu49 := Try.underlying49
  have hcm49 : (Try.prog.info? 49).map (fun i => i.comparable) = some true := by kernel_rfl
  have HB := Aside0.mk (Below.refl w.heap.size w)
  have H : ((reloc_Value.f k 0 1 0 (-1) 0 4096 0 0 0 false 0).bind fun bt117 => ((reloc_Value.f k 16 2 0 0 8192 4096 0 0 0 false 0).bind fun bt120 => ((reloc_Value.f k 0 18 0 0 0 0 0 0 4 false 16).bind fun bt123 => ((reloc_Value.f k 0 99 0 0 0 0 0 0 0 false 0).bind fun bt126 => (if bt117.1 = 4095 then (if bt117.2.1 = 8 then (if bt117.2.2.isNone = true then (if bt120.1 = 4294963184 then (if bt120.2.1 = 4 then (if bt120.2.2.isNone = true then (if bt123.1 = 18446744073709551604 then (if bt123.2.2.isNone = true then (if bt126.2.2.isNone = true then (some false) else (some ((bt126.2.2.getD 0) == 20))) else (some false)) else (some false)) else (some false)) else (some false)) else (some false)) else (some false)) else (some false)) else (some false)))))) = some r := h
  clear h
  replace H := Option.bind_eq_some_iff.mp H
  obtain ⟨⟨t117, t118, t119⟩, A10, H⟩ := H
  replace H : ((reloc_Value.f k 16 2 0 0 8192 4096 0 0 0 false 0).bind fun bt120 => ((reloc_Value.f k 0 18 0 0 0 0 0 0 4 false 16).bind fun bt123 => ((reloc_Value.f k 0 99 0 0 0 0 0 0 0 false 0).bind fun bt126 => (if t117 = 4095 then (if t118 = 8 then (if t119.isNone = true then (if bt120.1 = 4294963184 then (if bt120.2.1 = 4 then (if bt120.2.2.isNone = true then (if bt123.1 = 18446744073709551604 then (if bt123.2.2.isNone = true then (if bt126.2.2.isNone = true then (some false) else (some ((bt126.2.2.getD 0) == 20))) else (some false)) else (some false)) else (some false)) else (some false)) else (some false)) else (some false)) else (some false)) else (some false))))) = some r := H
  have A1 := Aside0.mk A10
  clear A10
  replace H := Option.bind_eq_some_iff.mp H
  obtain ⟨⟨t120, t121, t122⟩, A20, H⟩ := H
  replace H : ((reloc_Value.f k 0 18 0 0 0 0 0 0 4 false 16).bind fun bt123 => ((reloc_Value.f k 0 99 0 0 0 0 0 0 0 false 0).bind fun bt126 => (if t117 = 4095 then (if t118 = 8 then (if t119.isNone = true then (if t120 = 4294963184 then (if t121 = 4 then (if t122.isNone = true then (if bt123.1 = 18446744073709551604 then (if bt123.2.2.isNone = true then (if bt126.2.2.isNone = true then (some false) else (some ((bt126.2.2.getD 0) == 20))) else (some false)) else (some false)) else (some false)) else (some false)) else (some false)) else (some false)) else (some false)) else (some false)))) = some r := H
  have A2 := Aside0.mk A20
  clear A20
  replace H := Option.bind_eq_some_iff.mp H
  obtain ⟨⟨t123, t124, t125⟩, A30, H⟩ := H
  replace H : ((reloc_Value.f k 0 99 0 0 0 0 0 0 0 false 0).bind fun bt126 => (if t117 = 4095 then (if t118 = 8 then (if t119.isNone = true then (if t120 = 4294963184 then (if t121 = 4 then (if t122.isNone = true then (if t123 = 18446744073709551604 then (if t125.isNone = true then (if bt126.2.2.isNone = true then (some false) else (some ((bt126.2.2.getD 0) == 20))) else (some false)) else (some false)) else (some false)) else (some false)) else (some false)) else (some false)) else (some false)) else (some false))) = some r := H
  have A3 := Aside0.mk A30
  clear A30
  replace H := Option.bind_eq_some_iff.mp H
  obtain ⟨⟨t126, t127, t128⟩, A40, H⟩ := H
  replace H : (if t117 = 4095 then (if t118 = 8 then (if t119.isNone = true then (if t120 = 4294963184 then (if t121 = 4 then (if t122.isNone = true then (if t123 = 18446744073709551604 then (if t125.isNone = true then (if t128.isNone = true then (some false) else (some ((t128.getD 0) == 20))) else (some false)) else (some false)) else (some false)) else (some false)) else (some false)) else (some false)) else (some false)) else (some false)) = some r := H
  have A4 := Aside0.mk A40
  clear A40
  by_cases c5 : t117 = 4095
  · rw [if_pos c5] at H
    have c5b0 : (t117 == 4095) = true := beq_iff_eq.mpr c5
    have c5b1 : (t117 != 4095) = false := bne_eq_false_iff_eq.mpr c5
    clear c5
    by_cases c6 : t118 = 8
    · rw [if_pos c6] at H
      have c6b0 : (t118 == 8) = true := beq_iff_eq.mpr c6
      have c6b1 : (t118 != 8) = false := bne_eq_false_iff_eq.mpr c6
      clear c6
      rcases t119 with _ | q129
      · have H1 : (if t120 = 4294963184 then (if t121 = 4 then (if t122.isNone = true then (if t123 = 18446744073709551604 then (if t125.isNone = true then (if t128.isNone = true then (some false) else (some ((t128.getD 0) == 20))) else (some false)) else (some false)) else (some false)) else (some false)) else (some false)) = some r := by rw [if_pos (show (none : Option Int).isNone = true by rfl)] at H; exact H
        clear H
        have H := H1
        clear H1
        try simp only [errW_none, errW_some]
        by_cases c7 : t120 = 4294963184
        · rw [if_pos c7] at H
          have c7b0 : (t120 == 4294963184) = true := beq_iff_eq.mpr c7
          have c7b1 : (t120 != 4294963184) = false := bne_eq_false_iff_eq.mpr c7
          clear c7
          by_cases c8 : t121 = 4
          · rw [if_pos c8] at H
            have c8b0 : (t121 == 4) = true := beq_iff_eq.mpr c8
            have c8b1 : (t121 != 4) = false := bne_eq_false_iff_eq.mpr c8
            clear c8
            rcases t122 with _ | q130
            · have H1 : (if t123 = 18446744073709551604 then (if t125.isNone = true then (if t128.isNone = true then (some false) else (some ((t128.getD 0) == 20))) else (some false)) else (some false)) = some r := by rw [if_pos (show (none : Option Int).isNone = true by rfl)] at H; exact H
              clear H
              have H := H1
              clear H1
              try simp only [errW_none, errW_some]
              by_cases c9 : t123 = 18446744073709551604
              · rw [if_pos c9] at H
                have c9b0 : (t123 == 18446744073709551604) = true := beq_iff_eq.mpr c9
                have c9b1 : (t123 != 18446744073709551604) = false := bne_eq_false_iff_eq.mpr c9
                clear c9
                rcases t125 with _ | q131
                · have H1 : (if t128.isNone = true then (some false) else (some ((t128.getD 0) == 20))) = some r := by rw [if_pos (show (none : Option Int).isNone = true by rfl)] at H; exact H
                  clear H
                  have H := H1
                  clear H1
                  try simp only [errW_none, errW_some]
                  rcases t128 with _ | q132
                  · have H1 : (some false) = some r := by rw [if_pos (show (none : Option Int).isNone = true by rfl)] at H; exact H
                    clear H
                    have H := H1
                    clear H1
                    try simp only [errW_none, errW_some]
                    obtain rfl := Option.some.inj H
                    go_enter Try.func14, Try.ntmps14
                    go_wp2_with (first | ((with_reducible refine gate_callee (f := 15) rfl ?_); refine goesL_ (some 16) rfl rfl Try.func15 (by kernel_rfl) rfl #[.agg #[.int .u64 0, .int .i64 1, .int .i64 0, .int .i64 (-1)], .int .u64 0, .agg #[.int .u64 4096, .int .u64 0, .int .i64 0, .int .u64 0, .bool false, .int .u64 0]] rfl (by (try simp only [List.map_toArray, List.map_cons, List.map_nil]); first | done | rfl | (simp only [List.length_drop, List.length_take]; rfl)) ?_; (with_reducible refine (reloc_Value.calls k 0 1 0 (-1) 0 4096 0 0 0 false 0 t117 t118 none _ A1.out).mono ?_); rintro e w10 ⟨rfl, hb⟩; refine ⟨_, rfl, ?_⟩; have n0_ := Aside0.mk (below_step (by repeat (first | (with_reducible first | exact HB.out | apply below_alloc | apply pw_below_drewN | apply below_drew1) | exact HB.out)) hb); clear HB; have HB := n0_; clear n0_; (try clear hb); (try clear hb2); (try clear hk); (try clear hi); (try simp only [errW_none, errW_some])) | ((with_reducible refine gate_callee (f := 15) rfl ?_); refine goesL_ (some 23) rfl rfl Try.func15 (by kernel_rfl) rfl #[.agg #[.int .u64 16, .int .i64 2, .int .i64 0, .int .i64 0], .int .u64 8192, .agg #[.int .u64 4096, .int .u64 0, .int .i64 0, .int .u64 0, .bool false, .int .u64 0]] rfl (by (try simp only [List.map_toArray, List.map_cons, List.map_nil]); first | done | rfl | (simp only [List.length_drop, List.length_take]; rfl)) ?_; (with_reducible refine (reloc_Value.calls k 16 2 0 0 8192 4096 0 0 0 false 0 t120 t121 none _ A2.out).mono ?_); rintro e w11 ⟨rfl, hb⟩; refine ⟨_, rfl, ?_⟩; have n0_ := Aside0.mk (below_step (by repeat (first | (with_reducible first | exact HB.out | apply below_alloc | apply pw_below_drewN | apply below_drew1) | exact HB.out)) hb); clear HB; have HB := n0_; clear n0_; (try clear hb); (try clear hb2); (try clear hk); (try clear hi); (try simp only [errW_none, errW_some])) | ((with_reducible refine gate_callee (f := 15) rfl ?_); refine goesL_ (some 30) rfl rfl Try.func15 (by kernel_rfl) rfl #[.agg #[.int .u64 0, .int .i64 18, .int .i64 0, .int .i64 0], .int .u64 0, .agg #[.int .u64 0, .int .u64 0, .int .i64 0, .int .u64 4, .bool false, .int .u64 16]] rfl (by (try simp only [List.map_toArray, List.map_cons, List.map_nil]); first | done | rfl | (simp only [List.length_drop, List.length_take]; rfl)) ?_; (with_reducible refine (reloc_Value.calls k 0 18 0 0 0 0 0 0 4 false 16 t123 t124 none _ A3.out).mono ?_); rintro e w12 ⟨rfl, hb⟩; refine ⟨_, rfl, ?_⟩; have n0_ := Aside0.mk (below_step (by repeat (first | (with_reducible first | exact HB.out | apply below_alloc | apply pw_below_drewN | apply below_drew1) | exact HB.out)) hb); clear HB; have HB := n0_; clear n0_; (try clear hb); (try clear hb2); (try clear hk); (try clear hi); (try simp only [errW_none, errW_some])) | ((with_reducible refine gate_callee (f := 15) rfl ?_); refine goesL_ (some 37) rfl rfl Try.func15 (by kernel_rfl) rfl #[.agg #[.int .u64 0, .int .i64 99, .int .i64 0, .int .i64 0], .int .u64 0, .agg #[.int .u64 0, .int .u64 0, .int .i64 0, .int .u64 0, .bool false, .int .u64 0]] rfl (by (try simp only [List.map_toArray, List.map_cons, List.map_nil]); first | done | rfl | (simp only [List.length_drop, List.length_take]; rfl)) ?_; (with_reducible refine (reloc_Value.calls k 0 99 0 0 0 0 0 0 0 false 0 t126 t127 none _ A4.out).mono ?_); rintro e w13 ⟨rfl, hb⟩; refine ⟨_, rfl, ?_⟩; have n0_ := Aside0.mk (below_step (by repeat (first | (with_reducible first | exact HB.out | apply below_alloc | apply pw_below_drewN | apply below_drew1) | exact HB.out)) hb); clear HB; have HB := n0_; clear n0_; (try clear hb); (try clear hb2); (try clear hk); (try clear hi); (try simp only [errW_none, errW_some])))
                    go_ret
                    exact ⟨by first | rfl | (simp [errW_none, errW_some] <;> rfl) | (simp [*, errW_none, errW_some] <;> rfl), by repeat (first | (with_reducible first | exact HB.out | apply below_alloc | apply pw_below_drewN | apply below_drew1) | exact HB.out)⟩
                  · have H1 : (some (q132 == 20)) = some r := by rw [if_neg (show ¬ (some q132).isNone = true by simp)] at H; exact H
                    clear H
                    have H := H1
                    clear H1
                    try simp only [errW_none, errW_some]
                    obtain rfl := Option.some.inj H
                    go_enter Try.func14, Try.ntmps14
                    go_wp2_with (first | ((with_reducible refine gate_callee (f := 15) rfl ?_); refine goesL_ (some 16) rfl rfl Try.func15 (by kernel_rfl) rfl #[.agg #[.int .u64 0, .int .i64 1, .int .i64 0, .int .i64 (-1)], .int .u64 0, .agg #[.int .u64 4096, .int .u64 0, .int .i64 0, .int .u64 0, .bool false, .int .u64 0]] rfl (by (try simp only [List.map_toArray, List.map_cons, List.map_nil]); first | done | rfl | (simp only [List.length_drop, List.length_take]; rfl)) ?_; (with_reducible refine (reloc_Value.calls k 0 1 0 (-1) 0 4096 0 0 0 false 0 t117 t118 none _ A1.out).mono ?_); rintro e w14 ⟨rfl, hb⟩; refine ⟨_, rfl, ?_⟩; have n0_ := Aside0.mk (below_step (by repeat (first | (with_reducible first | exact HB.out | apply below_alloc | apply pw_below_drewN | apply below_drew1) | exact HB.out)) hb); clear HB; have HB := n0_; clear n0_; (try clear hb); (try clear hb2); (try clear hk); (try clear hi); (try simp only [errW_none, errW_some])) | ((with_reducible refine gate_callee (f := 15) rfl ?_); refine goesL_ (some 23) rfl rfl Try.func15 (by kernel_rfl) rfl #[.agg #[.int .u64 16, .int .i64 2, .int .i64 0, .int .i64 0], .int .u64 8192, .agg #[.int .u64 4096, .int .u64 0, .int .i64 0, .int .u64 0, .bool false, .int .u64 0]] rfl (by (try simp only [List.map_toArray, List.map_cons, List.map_nil]); first | done | rfl | (simp only [List.length_drop, List.length_take]; rfl)) ?_; (with_reducible refine (reloc_Value.calls k 16 2 0 0 8192 4096 0 0 0 false 0 t120 t121 none _ A2.out).mono ?_); rintro e w15 ⟨rfl, hb⟩; refine ⟨_, rfl, ?_⟩; have n0_ := Aside0.mk (below_step (by repeat (first | (with_reducible first | exact HB.out | apply below_alloc | apply pw_below_drewN | apply below_drew1) | exact HB.out)) hb); clear HB; have HB := n0_; clear n0_; (try clear hb); (try clear hb2); (try clear hk); (try clear hi); (try simp only [errW_none, errW_some])) | ((with_reducible refine gate_callee (f := 15) rfl ?_); refine goesL_ (some 30) rfl rfl Try.func15 (by kernel_rfl) rfl #[.agg #[.int .u64 0, .int .i64 18, .int .i64 0, .int .i64 0], .int .u64 0, .agg #[.int .u64 0, .int .u64 0, .int .i64 0, .int .u64 4, .bool false, .int .u64 16]] rfl (by (try simp only [List.map_toArray, List.map_cons, List.map_nil]); first | done | rfl | (simp only [List.length_drop, List.length_take]; rfl)) ?_; (with_reducible refine (reloc_Value.calls k 0 18 0 0 0 0 0 0 4 false 16 t123 t124 none _ A3.out).mono ?_); rintro e w16 ⟨rfl, hb⟩; refine ⟨_, rfl, ?_⟩; have n0_ := Aside0.mk (below_step (by repeat (first | (with_reducible first | exact HB.out | apply below_alloc | apply pw_below_drewN | apply below_drew1) | exact HB.out)) hb); clear HB; have HB := n0_; clear n0_; (try clear hb); (try clear hb2); (try clear hk); (try clear hi); (try simp only [errW_none, errW_some])) | ((with_reducible refine gate_callee (f := 15) rfl ?_); refine goesL_ (some 37) rfl rfl Try.func15 (by kernel_rfl) rfl #[.agg #[.int .u64 0, .int .i64 99, .int .i64 0, .int .i64 0], .int .u64 0, .agg #[.int .u64 0, .int .u64 0, .int .i64 0, .int .u64 0, .bool false, .int .u64 0]] rfl (by (try simp only [List.map_toArray, List.map_cons, List.map_nil]); first | done | rfl | (simp only [List.length_drop, List.length_take]; rfl)) ?_; (with_reducible refine (reloc_Value.calls k 0 99 0 0 0 0 0 0 0 false 0 t126 t127 (some q132) _ A4.out).mono ?_); rintro e w17 ⟨rfl, hb⟩; refine ⟨_, rfl, ?_⟩; have n0_ := Aside0.mk (below_step (by repeat (first | (with_reducible first | exact HB.out | apply below_alloc | apply pw_below_drewN | apply below_drew1) | exact HB.out)) hb); clear HB; have HB := n0_; clear n0_; (try clear hb); (try clear hb2); (try clear hk); (try clear hi); (try simp only [errW_none, errW_some])))
                    go_ret
                    exact ⟨by first | rfl | (simp [errW_none, errW_some] <;> rfl) | (simp [*, errW_none, errW_some] <;> rfl), by repeat (first | (with_reducible first | exact HB.out | apply below_alloc | apply pw_below_drewN | apply below_drew1) | exact HB.out)⟩
                · have H1 : (some false) = some r := by rw [if_neg (show ¬ (some q131).isNone = true by simp)] at H; exact H
                  clear H
                  have H := H1
                  clear H1
                  try simp only [errW_none, errW_some]
                  obtain rfl := Option.some.inj H
                  go_enter Try.func14, Try.ntmps14
                  go_wp2_with (first | ((with_reducible refine gate_callee (f := 15) rfl ?_); refine goesL_ (some 16) rfl rfl Try.func15 (by kernel_rfl) rfl #[.agg #[.int .u64 0, .int .i64 1, .int .i64 0, .int .i64 (-1)], .int .u64 0, .agg #[.int .u64 4096, .int .u64 0, .int .i64 0, .int .u64 0, .bool false, .int .u64 0]] rfl (by (try simp only [List.map_toArray, List.map_cons, List.map_nil]); first | done | rfl | (simp only [List.length_drop, List.length_take]; rfl)) ?_; (with_reducible refine (reloc_Value.calls k 0 1 0 (-1) 0 4096 0 0 0 false 0 t117 t118 none _ A1.out).mono ?_); rintro e w18 ⟨rfl, hb⟩; refine ⟨_, rfl, ?_⟩; have n0_ := Aside0.mk (below_step (by repeat (first | (with_reducible first | exact HB.out | apply below_alloc | apply pw_below_drewN | apply below_drew1) | exact HB.out)) hb); clear HB; have HB := n0_; clear n0_; (try clear hb); (try clear hb2); (try clear hk); (try clear hi); (try simp only [errW_none, errW_some])) | ((with_reducible refine gate_callee (f := 15) rfl ?_); refine goesL_ (some 23) rfl rfl Try.func15 (by kernel_rfl) rfl #[.agg #[.int .u64 16, .int .i64 2, .int .i64 0, .int .i64 0], .int .u64 8192, .agg #[.int .u64 4096, .int .u64 0, .int .i64 0, .int .u64 0, .bool false, .int .u64 0]] rfl (by (try simp only [List.map_toArray, List.map_cons, List.map_nil]); first | done | rfl | (simp only [List.length_drop, List.length_take]; rfl)) ?_; (with_reducible refine (reloc_Value.calls k 16 2 0 0 8192 4096 0 0 0 false 0 t120 t121 none _ A2.out).mono ?_); rintro e w19 ⟨rfl, hb⟩; refine ⟨_, rfl, ?_⟩; have n0_ := Aside0.mk (below_step (by repeat (first | (with_reducible first | exact HB.out | apply below_alloc | apply pw_below_drewN | apply below_drew1) | exact HB.out)) hb); clear HB; have HB := n0_; clear n0_; (try clear hb); (try clear hb2); (try clear hk); (try clear hi); (try simp only [errW_none, errW_some])) | ((with_reducible refine gate_callee (f := 15) rfl ?_); refine goesL_ (some 30) rfl rfl Try.func15 (by kernel_rfl) rfl #[.agg #[.int .u64 0, .int .i64 18, .int .i64 0, .int .i64 0], .int .u64 0, .agg #[.int .u64 0, .int .u64 0, .int .i64 0, .int .u64 4, .bool false, .int .u64 16]] rfl (by (try simp only [List.map_toArray, List.map_cons, List.map_nil]); first | done | rfl | (simp only [List.length_drop, List.length_take]; rfl)) ?_; (with_reducible refine (reloc_Value.calls k 0 18 0 0 0 0 0 0 4 false 16 t123 t124 (some q131) _ A3.out).mono ?_); rintro e w20 ⟨rfl, hb⟩; refine ⟨_, rfl, ?_⟩; have n0_ := Aside0.mk (below_step (by repeat (first | (with_reducible first | exact HB.out | apply below_alloc | apply pw_below_drewN | apply below_drew1) | exact HB.out)) hb); clear HB; have HB := n0_; clear n0_; (try clear hb); (try clear hb2); (try clear hk); (try clear hi); (try simp only [errW_none, errW_some])) | ((with_reducible refine gate_callee (f := 15) rfl ?_); refine goesL_ (some 37) rfl rfl Try.func15 (by kernel_rfl) rfl #[.agg #[.int .u64 0, .int .i64 99, .int .i64 0, .int .i64 0], .int .u64 0, .agg #[.int .u64 0, .int .u64 0, .int .i64 0, .int .u64 0, .bool false, .int .u64 0]] rfl (by (try simp only [List.map_toArray, List.map_cons, List.map_nil]); first | done | rfl | (simp only [List.length_drop, List.length_take]; rfl)) ?_; (with_reducible refine (reloc_Value.calls k 0 99 0 0 0 0 0 0 0 false 0 t126 t127 t128 _ A4.out).mono ?_); rintro e w21 ⟨rfl, hb⟩; refine ⟨_, rfl, ?_⟩; have n0_ := Aside0.mk (below_step (by repeat (first | (with_reducible first | exact HB.out | apply below_alloc | apply pw_below_drewN | apply below_drew1) | exact HB.out)) hb); clear HB; have HB := n0_; clear n0_; (try clear hb); (try clear hb2); (try clear hk); (try clear hi); (try simp only [errW_none, errW_some])))
                  go_ret
                  exact ⟨by first | rfl | (simp [errW_none, errW_some] <;> rfl) | (simp [*, errW_none, errW_some] <;> rfl), by repeat (first | (with_reducible first | exact HB.out | apply below_alloc | apply pw_below_drewN | apply below_drew1) | exact HB.out)⟩
              · rw [if_neg c9] at H
                have c9b0 : (t123 == 18446744073709551604) = false := beq_eq_false_iff_ne.mpr c9
                have c9b1 : (t123 != 18446744073709551604) = true := bne_iff_ne.mpr c9
                obtain rfl := Option.some.inj H
                go_enter Try.func14, Try.ntmps14
                go_wp2_with (first | ((with_reducible refine gate_callee (f := 15) rfl ?_); refine goesL_ (some 16) rfl rfl Try.func15 (by kernel_rfl) rfl #[.agg #[.int .u64 0, .int .i64 1, .int .i64 0, .int .i64 (-1)], .int .u64 0, .agg #[.int .u64 4096, .int .u64 0, .int .i64 0, .int .u64 0, .bool false, .int .u64 0]] rfl (by (try simp only [List.map_toArray, List.map_cons, List.map_nil]); first | done | rfl | (simp only [List.length_drop, List.length_take]; rfl)) ?_; (with_reducible refine (reloc_Value.calls k 0 1 0 (-1) 0 4096 0 0 0 false 0 t117 t118 none _ A1.out).mono ?_); rintro e w22 ⟨rfl, hb⟩; refine ⟨_, rfl, ?_⟩; have n0_ := Aside0.mk (below_step (by repeat (first | (with_reducible first | exact HB.out | apply below_alloc | apply pw_below_drewN | apply below_drew1) | exact HB.out)) hb); clear HB; have HB := n0_; clear n0_; (try clear hb); (try clear hb2); (try clear hk); (try clear hi); (try simp only [errW_none, errW_some])) | ((with_reducible refine gate_callee (f := 15) rfl ?_); refine goesL_ (some 23) rfl rfl Try.func15 (by kernel_rfl) rfl #[.agg #[.int .u64 16, .int .i64 2, .int .i64 0, .int .i64 0], .int .u64 8192, .agg #[.int .u64 4096, .int .u64 0, .int .i64 0, .int .u64 0, .bool false, .int .u64 0]] rfl (by (try simp only [List.map_toArray, List.map_cons, List.map_nil]); first | done | rfl | (simp only [List.length_drop, List.length_take]; rfl)) ?_; (with_reducible refine (reloc_Value.calls k 16 2 0 0 8192 4096 0 0 0 false 0 t120 t121 none _ A2.out).mono ?_); rintro e w23 ⟨rfl, hb⟩; refine ⟨_, rfl, ?_⟩; have n0_ := Aside0.mk (below_step (by repeat (first | (with_reducible first | exact HB.out | apply below_alloc | apply pw_below_drewN | apply below_drew1) | exact HB.out)) hb); clear HB; have HB := n0_; clear n0_; (try clear hb); (try clear hb2); (try clear hk); (try clear hi); (try simp only [errW_none, errW_some])) | ((with_reducible refine gate_callee (f := 15) rfl ?_); refine goesL_ (some 30) rfl rfl Try.func15 (by kernel_rfl) rfl #[.agg #[.int .u64 0, .int .i64 18, .int .i64 0, .int .i64 0], .int .u64 0, .agg #[.int .u64 0, .int .u64 0, .int .i64 0, .int .u64 4, .bool false, .int .u64 16]] rfl (by (try simp only [List.map_toArray, List.map_cons, List.map_nil]); first | done | rfl | (simp only [List.length_drop, List.length_take]; rfl)) ?_; (with_reducible refine (reloc_Value.calls k 0 18 0 0 0 0 0 0 4 false 16 t123 t124 t125 _ A3.out).mono ?_); rintro e w24 ⟨rfl, hb⟩; refine ⟨_, rfl, ?_⟩; have n0_ := Aside0.mk (below_step (by repeat (first | (with_reducible first | exact HB.out | apply below_alloc | apply pw_below_drewN | apply below_drew1) | exact HB.out)) hb); clear HB; have HB := n0_; clear n0_; (try clear hb); (try clear hb2); (try clear hk); (try clear hi); (try simp only [errW_none, errW_some])) | ((with_reducible refine gate_callee (f := 15) rfl ?_); refine goesL_ (some 37) rfl rfl Try.func15 (by kernel_rfl) rfl #[.agg #[.int .u64 0, .int .i64 99, .int .i64 0, .int .i64 0], .int .u64 0, .agg #[.int .u64 0, .int .u64 0, .int .i64 0, .int .u64 0, .bool false, .int .u64 0]] rfl (by (try simp only [List.map_toArray, List.map_cons, List.map_nil]); first | done | rfl | (simp only [List.length_drop, List.length_take]; rfl)) ?_; (with_reducible refine (reloc_Value.calls k 0 99 0 0 0 0 0 0 0 false 0 t126 t127 t128 _ A4.out).mono ?_); rintro e w25 ⟨rfl, hb⟩; refine ⟨_, rfl, ?_⟩; have n0_ := Aside0.mk (below_step (by repeat (first | (with_reducible first | exact HB.out | apply below_alloc | apply pw_below_drewN | apply below_drew1) | exact HB.out)) hb); clear HB; have HB := n0_; clear n0_; (try clear hb); (try clear hb2); (try clear hk); (try clear hi); (try simp only [errW_none, errW_some])))
                go_ret
                exact ⟨by first | rfl | (simp [errW_none, errW_some] <;> rfl) | (simp [*, errW_none, errW_some] <;> rfl), by repeat (first | (with_reducible first | exact HB.out | apply below_alloc | apply pw_below_drewN | apply below_drew1) | exact HB.out)⟩
            · have H1 : (some false) = some r := by rw [if_neg (show ¬ (some q130).isNone = true by simp)] at H; exact H
              clear H
              have H := H1
              clear H1
              try simp only [errW_none, errW_some]
              obtain rfl := Option.some.inj H
              go_enter Try.func14, Try.ntmps14
              go_wp2_with (first | ((with_reducible refine gate_callee (f := 15) rfl ?_); refine goesL_ (some 16) rfl rfl Try.func15 (by kernel_rfl) rfl #[.agg #[.int .u64 0, .int .i64 1, .int .i64 0, .int .i64 (-1)], .int .u64 0, .agg #[.int .u64 4096, .int .u64 0, .int .i64 0, .int .u64 0, .bool false, .int .u64 0]] rfl (by (try simp only [List.map_toArray, List.map_cons, List.map_nil]); first | done | rfl | (simp only [List.length_drop, List.length_take]; rfl)) ?_; (with_reducible refine (reloc_Value.calls k 0 1 0 (-1) 0 4096 0 0 0 false 0 t117 t118 none _ A1.out).mono ?_); rintro e w26 ⟨rfl, hb⟩; refine ⟨_, rfl, ?_⟩; have n0_ := Aside0.mk (below_step (by repeat (first | (with_reducible first | exact HB.out | apply below_alloc | apply pw_below_drewN | apply below_drew1) | exact HB.out)) hb); clear HB; have HB := n0_; clear n0_; (try clear hb); (try clear hb2); (try clear hk); (try clear hi); (try simp only [errW_none, errW_some])) | ((with_reducible refine gate_callee (f := 15) rfl ?_); refine goesL_ (some 23) rfl rfl Try.func15 (by kernel_rfl) rfl #[.agg #[.int .u64 16, .int .i64 2, .int .i64 0, .int .i64 0], .int .u64 8192, .agg #[.int .u64 4096, .int .u64 0, .int .i64 0, .int .u64 0, .bool false, .int .u64 0]] rfl (by (try simp only [List.map_toArray, List.map_cons, List.map_nil]); first | done | rfl | (simp only [List.length_drop, List.length_take]; rfl)) ?_; (with_reducible refine (reloc_Value.calls k 16 2 0 0 8192 4096 0 0 0 false 0 t120 t121 (some q130) _ A2.out).mono ?_); rintro e w27 ⟨rfl, hb⟩; refine ⟨_, rfl, ?_⟩; have n0_ := Aside0.mk (below_step (by repeat (first | (with_reducible first | exact HB.out | apply below_alloc | apply pw_below_drewN | apply below_drew1) | exact HB.out)) hb); clear HB; have HB := n0_; clear n0_; (try clear hb); (try clear hb2); (try clear hk); (try clear hi); (try simp only [errW_none, errW_some])) | ((with_reducible refine gate_callee (f := 15) rfl ?_); refine goesL_ (some 30) rfl rfl Try.func15 (by kernel_rfl) rfl #[.agg #[.int .u64 0, .int .i64 18, .int .i64 0, .int .i64 0], .int .u64 0, .agg #[.int .u64 0, .int .u64 0, .int .i64 0, .int .u64 4, .bool false, .int .u64 16]] rfl (by (try simp only [List.map_toArray, List.map_cons, List.map_nil]); first | done | rfl | (simp only [List.length_drop, List.length_take]; rfl)) ?_; (with_reducible refine (reloc_Value.calls k 0 18 0 0 0 0 0 0 4 false 16 t123 t124 t125 _ A3.out).mono ?_); rintro e w28 ⟨rfl, hb⟩; refine ⟨_, rfl, ?_⟩; have n0_ := Aside0.mk (below_step (by repeat (first | (with_reducible first | exact HB.out | apply below_alloc | apply pw_below_drewN | apply below_drew1) | exact HB.out)) hb); clear HB; have HB := n0_; clear n0_; (try clear hb); (try clear hb2); (try clear hk); (try clear hi); (try simp only [errW_none, errW_some])) | ((with_reducible refine gate_callee (f := 15) rfl ?_); refine goesL_ (some 37) rfl rfl Try.func15 (by kernel_rfl) rfl #[.agg #[.int .u64 0, .int .i64 99, .int .i64 0, .int .i64 0], .int .u64 0, .agg #[.int .u64 0, .int .u64 0, .int .i64 0, .int .u64 0, .bool false, .int .u64 0]] rfl (by (try simp only [List.map_toArray, List.map_cons, List.map_nil]); first | done | rfl | (simp only [List.length_drop, List.length_take]; rfl)) ?_; (with_reducible refine (reloc_Value.calls k 0 99 0 0 0 0 0 0 0 false 0 t126 t127 t128 _ A4.out).mono ?_); rintro e w29 ⟨rfl, hb⟩; refine ⟨_, rfl, ?_⟩; have n0_ := Aside0.mk (below_step (by repeat (first | (with_reducible first | exact HB.out | apply below_alloc | apply pw_below_drewN | apply below_drew1) | exact HB.out)) hb); clear HB; have HB := n0_; clear n0_; (try clear hb); (try clear hb2); (try clear hk); (try clear hi); (try simp only [errW_none, errW_some])))
              go_ret
              exact ⟨by first | rfl | (simp [errW_none, errW_some] <;> rfl) | (simp [*, errW_none, errW_some] <;> rfl), by repeat (first | (with_reducible first | exact HB.out | apply below_alloc | apply pw_below_drewN | apply below_drew1) | exact HB.out)⟩
          · rw [if_neg c8] at H
            have c8b0 : (t121 == 4) = false := beq_eq_false_iff_ne.mpr c8
            have c8b1 : (t121 != 4) = true := bne_iff_ne.mpr c8
            obtain rfl := Option.some.inj H
            go_enter Try.func14, Try.ntmps14
            go_wp2_with (first | ((with_reducible refine gate_callee (f := 15) rfl ?_); refine goesL_ (some 16) rfl rfl Try.func15 (by kernel_rfl) rfl #[.agg #[.int .u64 0, .int .i64 1, .int .i64 0, .int .i64 (-1)], .int .u64 0, .agg #[.int .u64 4096, .int .u64 0, .int .i64 0, .int .u64 0, .bool false, .int .u64 0]] rfl (by (try simp only [List.map_toArray, List.map_cons, List.map_nil]); first | done | rfl | (simp only [List.length_drop, List.length_take]; rfl)) ?_; (with_reducible refine (reloc_Value.calls k 0 1 0 (-1) 0 4096 0 0 0 false 0 t117 t118 none _ A1.out).mono ?_); rintro e w30 ⟨rfl, hb⟩; refine ⟨_, rfl, ?_⟩; have n0_ := Aside0.mk (below_step (by repeat (first | (with_reducible first | exact HB.out | apply below_alloc | apply pw_below_drewN | apply below_drew1) | exact HB.out)) hb); clear HB; have HB := n0_; clear n0_; (try clear hb); (try clear hb2); (try clear hk); (try clear hi); (try simp only [errW_none, errW_some])) | ((with_reducible refine gate_callee (f := 15) rfl ?_); refine goesL_ (some 23) rfl rfl Try.func15 (by kernel_rfl) rfl #[.agg #[.int .u64 16, .int .i64 2, .int .i64 0, .int .i64 0], .int .u64 8192, .agg #[.int .u64 4096, .int .u64 0, .int .i64 0, .int .u64 0, .bool false, .int .u64 0]] rfl (by (try simp only [List.map_toArray, List.map_cons, List.map_nil]); first | done | rfl | (simp only [List.length_drop, List.length_take]; rfl)) ?_; (with_reducible refine (reloc_Value.calls k 16 2 0 0 8192 4096 0 0 0 false 0 t120 t121 t122 _ A2.out).mono ?_); rintro e w31 ⟨rfl, hb⟩; refine ⟨_, rfl, ?_⟩; have n0_ := Aside0.mk (below_step (by repeat (first | (with_reducible first | exact HB.out | apply below_alloc | apply pw_below_drewN | apply below_drew1) | exact HB.out)) hb); clear HB; have HB := n0_; clear n0_; (try clear hb); (try clear hb2); (try clear hk); (try clear hi); (try simp only [errW_none, errW_some])) | ((with_reducible refine gate_callee (f := 15) rfl ?_); refine goesL_ (some 30) rfl rfl Try.func15 (by kernel_rfl) rfl #[.agg #[.int .u64 0, .int .i64 18, .int .i64 0, .int .i64 0], .int .u64 0, .agg #[.int .u64 0, .int .u64 0, .int .i64 0, .int .u64 4, .bool false, .int .u64 16]] rfl (by (try simp only [List.map_toArray, List.map_cons, List.map_nil]); first | done | rfl | (simp only [List.length_drop, List.length_take]; rfl)) ?_; (with_reducible refine (reloc_Value.calls k 0 18 0 0 0 0 0 0 4 false 16 t123 t124 t125 _ A3.out).mono ?_); rintro e w32 ⟨rfl, hb⟩; refine ⟨_, rfl, ?_⟩; have n0_ := Aside0.mk (below_step (by repeat (first | (with_reducible first | exact HB.out | apply below_alloc | apply pw_below_drewN | apply below_drew1) | exact HB.out)) hb); clear HB; have HB := n0_; clear n0_; (try clear hb); (try clear hb2); (try clear hk); (try clear hi); (try simp only [errW_none, errW_some])) | ((with_reducible refine gate_callee (f := 15) rfl ?_); refine goesL_ (some 37) rfl rfl Try.func15 (by kernel_rfl) rfl #[.agg #[.int .u64 0, .int .i64 99, .int .i64 0, .int .i64 0], .int .u64 0, .agg #[.int .u64 0, .int .u64 0, .int .i64 0, .int .u64 0, .bool false, .int .u64 0]] rfl (by (try simp only [List.map_toArray, List.map_cons, List.map_nil]); first | done | rfl | (simp only [List.length_drop, List.length_take]; rfl)) ?_; (with_reducible refine (reloc_Value.calls k 0 99 0 0 0 0 0 0 0 false 0 t126 t127 t128 _ A4.out).mono ?_); rintro e w33 ⟨rfl, hb⟩; refine ⟨_, rfl, ?_⟩; have n0_ := Aside0.mk (below_step (by repeat (first | (with_reducible first | exact HB.out | apply below_alloc | apply pw_below_drewN | apply below_drew1) | exact HB.out)) hb); clear HB; have HB := n0_; clear n0_; (try clear hb); (try clear hb2); (try clear hk); (try clear hi); (try simp only [errW_none, errW_some])))
            go_ret
            exact ⟨by first | rfl | (simp [errW_none, errW_some] <;> rfl) | (simp [*, errW_none, errW_some] <;> rfl), by repeat (first | (with_reducible first | exact HB.out | apply below_alloc | apply pw_below_drewN | apply below_drew1) | exact HB.out)⟩
        · rw [if_neg c7] at H
          have c7b0 : (t120 == 4294963184) = false := beq_eq_false_iff_ne.mpr c7
          have c7b1 : (t120 != 4294963184) = true := bne_iff_ne.mpr c7
          obtain rfl := Option.some.inj H
          go_enter Try.func14, Try.ntmps14
          go_wp2_with (first | ((with_reducible refine gate_callee (f := 15) rfl ?_); refine goesL_ (some 16) rfl rfl Try.func15 (by kernel_rfl) rfl #[.agg #[.int .u64 0, .int .i64 1, .int .i64 0, .int .i64 (-1)], .int .u64 0, .agg #[.int .u64 4096, .int .u64 0, .int .i64 0, .int .u64 0, .bool false, .int .u64 0]] rfl (by (try simp only [List.map_toArray, List.map_cons, List.map_nil]); first | done | rfl | (simp only [List.length_drop, List.length_take]; rfl)) ?_; (with_reducible refine (reloc_Value.calls k 0 1 0 (-1) 0 4096 0 0 0 false 0 t117 t118 none _ A1.out).mono ?_); rintro e w34 ⟨rfl, hb⟩; refine ⟨_, rfl, ?_⟩; have n0_ := Aside0.mk (below_step (by repeat (first | (with_reducible first | exact HB.out | apply below_alloc | apply pw_below_drewN | apply below_drew1) | exact HB.out)) hb); clear HB; have HB := n0_; clear n0_; (try clear hb); (try clear hb2); (try clear hk); (try clear hi); (try simp only [errW_none, errW_some])) | ((with_reducible refine gate_callee (f := 15) rfl ?_); refine goesL_ (some 23) rfl rfl Try.func15 (by kernel_rfl) rfl #[.agg #[.int .u64 16, .int .i64 2, .int .i64 0, .int .i64 0], .int .u64 8192, .agg #[.int .u64 4096, .int .u64 0, .int .i64 0, .int .u64 0, .bool false, .int .u64 0]] rfl (by (try simp only [List.map_toArray, List.map_cons, List.map_nil]); first | done | rfl | (simp only [List.length_drop, List.length_take]; rfl)) ?_; (with_reducible refine (reloc_Value.calls k 16 2 0 0 8192 4096 0 0 0 false 0 t120 t121 t122 _ A2.out).mono ?_); rintro e w35 ⟨rfl, hb⟩; refine ⟨_, rfl, ?_⟩; have n0_ := Aside0.mk (below_step (by repeat (first | (with_reducible first | exact HB.out | apply below_alloc | apply pw_below_drewN | apply below_drew1) | exact HB.out)) hb); clear HB; have HB := n0_; clear n0_; (try clear hb); (try clear hb2); (try clear hk); (try clear hi); (try simp only [errW_none, errW_some])) | ((with_reducible refine gate_callee (f := 15) rfl ?_); refine goesL_ (some 30) rfl rfl Try.func15 (by kernel_rfl) rfl #[.agg #[.int .u64 0, .int .i64 18, .int .i64 0, .int .i64 0], .int .u64 0, .agg #[.int .u64 0, .int .u64 0, .int .i64 0, .int .u64 4, .bool false, .int .u64 16]] rfl (by (try simp only [List.map_toArray, List.map_cons, List.map_nil]); first | done | rfl | (simp only [List.length_drop, List.length_take]; rfl)) ?_; (with_reducible refine (reloc_Value.calls k 0 18 0 0 0 0 0 0 4 false 16 t123 t124 t125 _ A3.out).mono ?_); rintro e w36 ⟨rfl, hb⟩; refine ⟨_, rfl, ?_⟩; have n0_ := Aside0.mk (below_step (by repeat (first | (with_reducible first | exact HB.out | apply below_alloc | apply pw_below_drewN | apply below_drew1) | exact HB.out)) hb); clear HB; have HB := n0_; clear n0_; (try clear hb); (try clear hb2); (try clear hk); (try clear hi); (try simp only [errW_none, errW_some])) | ((with_reducible refine gate_callee (f := 15) rfl ?_); refine goesL_ (some 37) rfl rfl Try.func15 (by kernel_rfl) rfl #[.agg #[.int .u64 0, .int .i64 99, .int .i64 0, .int .i64 0], .int .u64 0, .agg #[.int .u64 0, .int .u64 0, .int .i64 0, .int .u64 0, .bool false, .int .u64 0]] rfl (by (try simp only [List.map_toArray, List.map_cons, List.map_nil]); first | done | rfl | (simp only [List.length_drop, List.length_take]; rfl)) ?_; (with_reducible refine (reloc_Value.calls k 0 99 0 0 0 0 0 0 0 false 0 t126 t127 t128 _ A4.out).mono ?_); rintro e w37 ⟨rfl, hb⟩; refine ⟨_, rfl, ?_⟩; have n0_ := Aside0.mk (below_step (by repeat (first | (with_reducible first | exact HB.out | apply below_alloc | apply pw_below_drewN | apply below_drew1) | exact HB.out)) hb); clear HB; have HB := n0_; clear n0_; (try clear hb); (try clear hb2); (try clear hk); (try clear hi); (try simp only [errW_none, errW_some])))
          go_ret
          exact ⟨by first | rfl | (simp [errW_none, errW_some] <;> rfl) | (simp [*, errW_none, errW_some] <;> rfl), by repeat (first | (with_reducible first | exact HB.out | apply below_alloc | apply pw_below_drewN | apply below_drew1) | exact HB.out)⟩
      · have H1 : (some false) = some r := by rw [if_neg (show ¬ (some q129).isNone = true by simp)] at H; exact H
        clear H
        have H := H1
        clear H1
        try simp only [errW_none, errW_some]
        obtain rfl := Option.some.inj H
        go_enter Try.func14, Try.ntmps14
        go_wp2_with (first | ((with_reducible refine gate_callee (f := 15) rfl ?_); refine goesL_ (some 16) rfl rfl Try.func15 (by kernel_rfl) rfl #[.agg #[.int .u64 0, .int .i64 1, .int .i64 0, .int .i64 (-1)], .int .u64 0, .agg #[.int .u64 4096, .int .u64 0, .int .i64 0, .int .u64 0, .bool false, .int .u64 0]] rfl (by (try simp only [List.map_toArray, List.map_cons, List.map_nil]); first | done | rfl | (simp only [List.length_drop, List.length_take]; rfl)) ?_; (with_reducible refine (reloc_Value.calls k 0 1 0 (-1) 0 4096 0 0 0 false 0 t117 t118 (some q129) _ A1.out).mono ?_); rintro e w38 ⟨rfl, hb⟩; refine ⟨_, rfl, ?_⟩; have n0_ := Aside0.mk (below_step (by repeat (first | (with_reducible first | exact HB.out | apply below_alloc | apply pw_below_drewN | apply below_drew1) | exact HB.out)) hb); clear HB; have HB := n0_; clear n0_; (try clear hb); (try clear hb2); (try clear hk); (try clear hi); (try simp only [errW_none, errW_some])) | ((with_reducible refine gate_callee (f := 15) rfl ?_); refine goesL_ (some 23) rfl rfl Try.func15 (by kernel_rfl) rfl #[.agg #[.int .u64 16, .int .i64 2, .int .i64 0, .int .i64 0], .int .u64 8192, .agg #[.int .u64 4096, .int .u64 0, .int .i64 0, .int .u64 0, .bool false, .int .u64 0]] rfl (by (try simp only [List.map_toArray, List.map_cons, List.map_nil]); first | done | rfl | (simp only [List.length_drop, List.length_take]; rfl)) ?_; (with_reducible refine (reloc_Value.calls k 16 2 0 0 8192 4096 0 0 0 false 0 t120 t121 t122 _ A2.out).mono ?_); rintro e w39 ⟨rfl, hb⟩; refine ⟨_, rfl, ?_⟩; have n0_ := Aside0.mk (below_step (by repeat (first | (with_reducible first | exact HB.out | apply below_alloc | apply pw_below_drewN | apply below_drew1) | exact HB.out)) hb); clear HB; have HB := n0_; clear n0_; (try clear hb); (try clear hb2); (try clear hk); (try clear hi); (try simp only [errW_none, errW_some])) | ((with_reducible refine gate_callee (f := 15) rfl ?_); refine goesL_ (some 30) rfl rfl Try.func15 (by kernel_rfl) rfl #[.agg #[.int .u64 0, .int .i64 18, .int .i64 0, .int .i64 0], .int .u64 0, .agg #[.int .u64 0, .int .u64 0, .int .i64 0, .int .u64 4, .bool false, .int .u64 16]] rfl (by (try simp only [List.map_toArray, List.map_cons, List.map_nil]); first | done | rfl | (simp only [List.length_drop, List.length_take]; rfl)) ?_; (with_reducible refine (reloc_Value.calls k 0 18 0 0 0 0 0 0 4 false 16 t123 t124 t125 _ A3.out).mono ?_); rintro e w40 ⟨rfl, hb⟩; refine ⟨_, rfl, ?_⟩; have n0_ := Aside0.mk (below_step (by repeat (first | (with_reducible first | exact HB.out | apply below_alloc | apply pw_below_drewN | apply below_drew1) | exact HB.out)) hb); clear HB; have HB := n0_; clear n0_; (try clear hb); (try clear hb2); (try clear hk); (try clear hi); (try simp only [errW_none, errW_some])) | ((with_reducible refine gate_callee (f := 15) rfl ?_); refine goesL_ (some 37) rfl rfl Try.func15 (by kernel_rfl) rfl #[.agg #[.int .u64 0, .int .i64 99, .int .i64 0, .int .i64 0], .int .u64 0, .agg #[.int .u64 0, .int .u64 0, .int .i64 0, .int .u64 0, .bool false, .int .u64 0]] rfl (by (try simp only [List.map_toArray, List.map_cons, List.map_nil]); first | done | rfl | (simp only [List.length_drop, List.length_take]; rfl)) ?_; (with_reducible refine (reloc_Value.calls k 0 99 0 0 0 0 0 0 0 false 0 t126 t127 t128 _ A4.out).mono ?_); rintro e w41 ⟨rfl, hb⟩; refine ⟨_, rfl, ?_⟩; have n0_ := Aside0.mk (below_step (by repeat (first | (with_reducible first | exact HB.out | apply below_alloc | apply pw_below_drewN | apply below_drew1) | exact HB.out)) hb); clear HB; have HB := n0_; clear n0_; (try clear hb); (try clear hb2); (try clear hk); (try clear hi); (try simp only [errW_none, errW_some])))
        go_ret
        exact ⟨by first | rfl | (simp [errW_none, errW_some] <;> rfl) | (simp [*, errW_none, errW_some] <;> rfl), by repeat (first | (with_reducible first | exact HB.out | apply below_alloc | apply pw_below_drewN | apply below_drew1) | exact HB.out)⟩
    · rw [if_neg c6] at H
      have c6b0 : (t118 == 8) = false := beq_eq_false_iff_ne.mpr c6
      have c6b1 : (t118 != 8) = true := bne_iff_ne.mpr c6
      obtain rfl := Option.some.inj H
      go_enter Try.func14, Try.ntmps14
      go_wp2_with (first | ((with_reducible refine gate_callee (f := 15) rfl ?_); refine goesL_ (some 16) rfl rfl Try.func15 (by kernel_rfl) rfl #[.agg #[.int .u64 0, .int .i64 1, .int .i64 0, .int .i64 (-1)], .int .u64 0, .agg #[.int .u64 4096, .int .u64 0, .int .i64 0, .int .u64 0, .bool false, .int .u64 0]] rfl (by (try simp only [List.map_toArray, List.map_cons, List.map_nil]); first | done | rfl | (simp only [List.length_drop, List.length_take]; rfl)) ?_; (with_reducible refine (reloc_Value.calls k 0 1 0 (-1) 0 4096 0 0 0 false 0 t117 t118 t119 _ A1.out).mono ?_); rintro e w42 ⟨rfl, hb⟩; refine ⟨_, rfl, ?_⟩; have n0_ := Aside0.mk (below_step (by repeat (first | (with_reducible first | exact HB.out | apply below_alloc | apply pw_below_drewN | apply below_drew1) | exact HB.out)) hb); clear HB; have HB := n0_; clear n0_; (try clear hb); (try clear hb2); (try clear hk); (try clear hi); (try simp only [errW_none, errW_some])) | ((with_reducible refine gate_callee (f := 15) rfl ?_); refine goesL_ (some 23) rfl rfl Try.func15 (by kernel_rfl) rfl #[.agg #[.int .u64 16, .int .i64 2, .int .i64 0, .int .i64 0], .int .u64 8192, .agg #[.int .u64 4096, .int .u64 0, .int .i64 0, .int .u64 0, .bool false, .int .u64 0]] rfl (by (try simp only [List.map_toArray, List.map_cons, List.map_nil]); first | done | rfl | (simp only [List.length_drop, List.length_take]; rfl)) ?_; (with_reducible refine (reloc_Value.calls k 16 2 0 0 8192 4096 0 0 0 false 0 t120 t121 t122 _ A2.out).mono ?_); rintro e w43 ⟨rfl, hb⟩; refine ⟨_, rfl, ?_⟩; have n0_ := Aside0.mk (below_step (by repeat (first | (with_reducible first | exact HB.out | apply below_alloc | apply pw_below_drewN | apply below_drew1) | exact HB.out)) hb); clear HB; have HB := n0_; clear n0_; (try clear hb); (try clear hb2); (try clear hk); (try clear hi); (try simp only [errW_none, errW_some])) | ((with_reducible refine gate_callee (f := 15) rfl ?_); refine goesL_ (some 30) rfl rfl Try.func15 (by kernel_rfl) rfl #[.agg #[.int .u64 0, .int .i64 18, .int .i64 0, .int .i64 0], .int .u64 0, .agg #[.int .u64 0, .int .u64 0, .int .i64 0, .int .u64 4, .bool false, .int .u64 16]] rfl (by (try simp only [List.map_toArray, List.map_cons, List.map_nil]); first | done | rfl | (simp only [List.length_drop, List.length_take]; rfl)) ?_; (with_reducible refine (reloc_Value.calls k 0 18 0 0 0 0 0 0 4 false 16 t123 t124 t125 _ A3.out).mono ?_); rintro e w44 ⟨rfl, hb⟩; refine ⟨_, rfl, ?_⟩; have n0_ := Aside0.mk (below_step (by repeat (first | (with_reducible first | exact HB.out | apply below_alloc | apply pw_below_drewN | apply below_drew1) | exact HB.out)) hb); clear HB; have HB := n0_; clear n0_; (try clear hb); (try clear hb2); (try clear hk); (try clear hi); (try simp only [errW_none, errW_some])) | ((with_reducible refine gate_callee (f := 15) rfl ?_); refine goesL_ (some 37) rfl rfl Try.func15 (by kernel_rfl) rfl #[.agg #[.int .u64 0, .int .i64 99, .int .i64 0, .int .i64 0], .int .u64 0, .agg #[.int .u64 0, .int .u64 0, .int .i64 0, .int .u64 0, .bool false, .int .u64 0]] rfl (by (try simp only [List.map_toArray, List.map_cons, List.map_nil]); first | done | rfl | (simp only [List.length_drop, List.length_take]; rfl)) ?_; (with_reducible refine (reloc_Value.calls k 0 99 0 0 0 0 0 0 0 false 0 t126 t127 t128 _ A4.out).mono ?_); rintro e w45 ⟨rfl, hb⟩; refine ⟨_, rfl, ?_⟩; have n0_ := Aside0.mk (below_step (by repeat (first | (with_reducible first | exact HB.out | apply below_alloc | apply pw_below_drewN | apply below_drew1) | exact HB.out)) hb); clear HB; have HB := n0_; clear n0_; (try clear hb); (try clear hb2); (try clear hk); (try clear hi); (try simp only [errW_none, errW_some])))
      go_ret
      exact ⟨by first | rfl | (simp [errW_none, errW_some] <;> rfl) | (simp [*, errW_none, errW_some] <;> rfl), by repeat (first | (with_reducible first | exact HB.out | apply below_alloc | apply pw_below_drewN | apply below_drew1) | exact HB.out)⟩
  · rw [if_neg c5] at H
    have c5b0 : (t117 == 4095) = false := beq_eq_false_iff_ne.mpr c5
    have c5b1 : (t117 != 4095) = true := bne_iff_ne.mpr c5
    obtain rfl := Option.some.inj H
    go_enter Try.func14, Try.ntmps14
    go_wp2_with (first | ((with_reducible refine gate_callee (f := 15) rfl ?_); refine goesL_ (some 16) rfl rfl Try.func15 (by kernel_rfl) rfl #[.agg #[.int .u64 0, .int .i64 1, .int .i64 0, .int .i64 (-1)], .int .u64 0, .agg #[.int .u64 4096, .int .u64 0, .int .i64 0, .int .u64 0, .bool false, .int .u64 0]] rfl (by (try simp only [List.map_toArray, List.map_cons, List.map_nil]); first | done | rfl | (simp only [List.length_drop, List.length_take]; rfl)) ?_; (with_reducible refine (reloc_Value.calls k 0 1 0 (-1) 0 4096 0 0 0 false 0 t117 t118 t119 _ A1.out).mono ?_); rintro e w46 ⟨rfl, hb⟩; refine ⟨_, rfl, ?_⟩; have n0_ := Aside0.mk (below_step (by repeat (first | (with_reducible first | exact HB.out | apply below_alloc | apply pw_below_drewN | apply below_drew1) | exact HB.out)) hb); clear HB; have HB := n0_; clear n0_; (try clear hb); (try clear hb2); (try clear hk); (try clear hi); (try simp only [errW_none, errW_some])) | ((with_reducible refine gate_callee (f := 15) rfl ?_); refine goesL_ (some 23) rfl rfl Try.func15 (by kernel_rfl) rfl #[.agg #[.int .u64 16, .int .i64 2, .int .i64 0, .int .i64 0], .int .u64 8192, .agg #[.int .u64 4096, .int .u64 0, .int .i64 0, .int .u64 0, .bool false, .int .u64 0]] rfl (by (try simp only [List.map_toArray, List.map_cons, List.map_nil]); first | done | rfl | (simp only [List.length_drop, List.length_take]; rfl)) ?_; (with_reducible refine (reloc_Value.calls k 16 2 0 0 8192 4096 0 0 0 false 0 t120 t121 t122 _ A2.out).mono ?_); rintro e w47 ⟨rfl, hb⟩; refine ⟨_, rfl, ?_⟩; have n0_ := Aside0.mk (below_step (by repeat (first | (with_reducible first | exact HB.out | apply below_alloc | apply pw_below_drewN | apply below_drew1) | exact HB.out)) hb); clear HB; have HB := n0_; clear n0_; (try clear hb); (try clear hb2); (try clear hk); (try clear hi); (try simp only [errW_none, errW_some])) | ((with_reducible refine gate_callee (f := 15) rfl ?_); refine goesL_ (some 30) rfl rfl Try.func15 (by kernel_rfl) rfl #[.agg #[.int .u64 0, .int .i64 18, .int .i64 0, .int .i64 0], .int .u64 0, .agg #[.int .u64 0, .int .u64 0, .int .i64 0, .int .u64 4, .bool false, .int .u64 16]] rfl (by (try simp only [List.map_toArray, List.map_cons, List.map_nil]); first | done | rfl | (simp only [List.length_drop, List.length_take]; rfl)) ?_; (with_reducible refine (reloc_Value.calls k 0 18 0 0 0 0 0 0 4 false 16 t123 t124 t125 _ A3.out).mono ?_); rintro e w48 ⟨rfl, hb⟩; refine ⟨_, rfl, ?_⟩; have n0_ := Aside0.mk (below_step (by repeat (first | (with_reducible first | exact HB.out | apply below_alloc | apply pw_below_drewN | apply below_drew1) | exact HB.out)) hb); clear HB; have HB := n0_; clear n0_; (try clear hb); (try clear hb2); (try clear hk); (try clear hi); (try simp only [errW_none, errW_some])) | ((with_reducible refine gate_callee (f := 15) rfl ?_); refine goesL_ (some 37) rfl rfl Try.func15 (by kernel_rfl) rfl #[.agg #[.int .u64 0, .int .i64 99, .int .i64 0, .int .i64 0], .int .u64 0, .agg #[.int .u64 0, .int .u64 0, .int .i64 0, .int .u64 0, .bool false, .int .u64 0]] rfl (by (try simp only [List.map_toArray, List.map_cons, List.map_nil]); first | done | rfl | (simp only [List.length_drop, List.length_take]; rfl)) ?_; (with_reducible refine (reloc_Value.calls k 0 99 0 0 0 0 0 0 0 false 0 t126 t127 t128 _ A4.out).mono ?_); rintro e w49 ⟨rfl, hb⟩; refine ⟨_, rfl, ?_⟩; have n0_ := Aside0.mk (below_step (by repeat (first | (with_reducible first | exact HB.out | apply below_alloc | apply pw_below_drewN | apply below_drew1) | exact HB.out)) hb); clear HB; have HB := n0_; clear n0_; (try clear hb); (try clear hb2); (try clear hk); (try clear hi); (try simp only [errW_none, errW_some])))
    go_ret
    exact ⟨by first | rfl | (simp [errW_none, errW_some] <;> rfl) | (simp [*, errW_none, errW_some] <;> rfl), by repeat (first | (with_reducible first | exact HB.out | apply below_alloc | apply pw_below_drewN | apply below_drew1) | exact HB.out)⟩

/-! ### shacklelaw00_further: function 46 -/
def shacklelaw00_further.f (a0 : Option Int) : Option (Int) := if a0.isNone = true then (some (-1)) else (if (a0.getD 0) = 16 then (some 16) else (if (a0.getD 0) = 17 then (some 17) else (if (a0.getD 0) = 18 then (some 18) else (if (a0.getD 0) = 19 then (some 19) else (if (a0.getD 0) = 20 then (some 20) else (if (a0.getD 0) = 21 then (some 21) else (if (a0.getD 0) = 22 then (some 22) else (if (a0.getD 0) = 23 then (some 23) else (if (a0.getD 0) = 24 then (some 24) else (if (a0.getD 0) = 25 then (some 25) else (if (a0.getD 0) = 26 then (some 26) else (if (a0.getD 0) = 27 then (some 27) else (if (a0.getD 0) = 28 then (some 28) else (if (a0.getD 0) = 29 then (some 29) else (if (a0.getD 0) = 30 then (some 30) else (some (-1)))))))))))))))))
set_option maxHeartbeats 8000000 in
set_option maxRecDepth 100000 in
theorem shacklelaw00_further.calls (a0 : Option Int) (r : Int) (w : World) (h : shacklelaw00_further.f a0 = some r) :
    Calls Try.prog 46 #[errW a0] w fun e w' => e = .returned (.int .i64 r) ∧ Drawn0 w w' := by
  have hu29 := Try.underlying29
  have hu49 := Try.underlying49
  have hcm49 : (Try.prog.info? 49).map (fun i => i.comparable) = some true := by kernel_rfl
  have H : (if a0.isNone = true then (some (-1)) else (if (a0.getD 0) = 16 then (some 16) else (if (a0.getD 0) = 17 then (some 17) else (if (a0.getD 0) = 18 then (some 18) else (if (a0.getD 0) = 19 then (some 19) else (if (a0.getD 0) = 20 then (some 20) else (if (a0.getD 0) = 21 then (some 21) else (if (a0.getD 0) = 22 then (some 22) else (if (a0.getD 0) = 23 then (some 23) else (if (a0.getD 0) = 24 then (some 24) else (if (a0.getD 0) = 25 then (some 25) else (if (a0.getD 0) = 26 then (some 26) else (if (a0.getD 0) = 27 then (some 27) else (if (a0.getD 0) = 28 then (some 28) else (if (a0.getD 0) = 29 then (some 29) else (if (a0.getD 0) = 30 then (some 30) else (some (-1)))))))))))))))))) = some r := h
  clear h
  rcases a0 with _ | q133
  · have H1 : (some (-1)) = some r := by rw [if_pos (show (none : Option Int).isNone = true by rfl)] at H; exact H
    clear H
    have H := H1
    clear H1
    simp only [errW_none, errW_some]
    obtain rfl := Option.some.inj H
    go_enter Try.func46, Try.ntmps46
    go_wp2
    go_ret
    exact ⟨by first | rfl | (simp; done) | (simp [*]; done), by repeat (first | exact Drawn0.refl _ | apply Drawn0.step)⟩
  · have H1 : (if q133 = 16 then (some 16) else (if q133 = 17 then (some 17) else (if q133 = 18 then (some 18) else (if q133 = 19 then (some 19) else (if q133 = 20 then (some 20) else (if q133 = 21 then (some 21) else (if q133 = 22 then (some 22) else (if q133 = 23 then (some 23) else (if q133 = 24 then (some 24) else (if q133 = 25 then (some 25) else (if q133 = 26 then (some 26) else (if q133 = 27 then (some 27) else (if q133 = 28 then (some 28) else (if q133 = 29 then (some 29) else (if q133 = 30 then (some 30) else (some (-1))))))))))))))))) = some r := by rw [if_neg (show ¬ (some q133).isNone = true by simp)] at H; exact H
    clear H
    have H := H1
    clear H1
    simp only [errW_none, errW_some]
    by_cases c2 : q133 = 16
    · rw [if_pos c2] at H
      have c2b0 : (q133 == 16) = true := beq_iff_eq.mpr c2
      have c2b1 : (q133 != 16) = false := bne_eq_false_iff_eq.mpr c2
      clear c2
      obtain rfl := Option.some.inj H
      go_enter Try.func46, Try.ntmps46
      go_wp2
      go_ret
      exact ⟨by first | rfl | (simp; done) | (simp [*]; done), by repeat (first | exact Drawn0.refl _ | apply Drawn0.step)⟩
    · rw [if_neg c2] at H
      have c2b0 : (q133 == 16) = false := beq_eq_false_iff_ne.mpr c2
      have c2b1 : (q133 != 16) = true := bne_iff_ne.mpr c2
      by_cases c3 : q133 = 17
      · rw [if_pos c3] at H
        have c3b0 : (q133 == 17) = true := beq_iff_eq.mpr c3
        have c3b1 : (q133 != 17) = false := bne_eq_false_iff_eq.mpr c3
        clear c3
        obtain rfl := Option.some.inj H
        go_enter Try.func46, Try.ntmps46
        go_wp2
        go_ret
        exact ⟨by first | rfl | (simp; done) | (simp [*]; done), by repeat (first | exact Drawn0.refl _ | apply Drawn0.step)⟩
      · rw [if_neg c3] at H
        have c3b0 : (q133 == 17) = false := beq_eq_false_iff_ne.mpr c3
        have c3b1 : (q133 != 17) = true := bne_iff_ne.mpr c3
        by_cases c4 : q133 = 18
        · rw [if_pos c4] at H
          have c4b0 : (q133 == 18) = true := beq_iff_eq.mpr c4
          have c4b1 : (q133 != 18) = false := bne_eq_false_iff_eq.mpr c4
          clear c4
          obtain rfl := Option.some.inj H
          go_enter Try.func46, Try.ntmps46
          go_wp2
          go_ret
          exact ⟨by first | rfl | (simp; done) | (simp [*]; done), by repeat (first | exact Drawn0.refl _ | apply Drawn0.step)⟩
        · rw [if_neg c4] at H
          have c4b0 : (q133 == 18) = false := beq_eq_false_iff_ne.mpr c4
          have c4b1 : (q133 != 18) = true := bne_iff_ne.mpr c4
          by_cases c5 : q133 = 19
          · rw [if_pos c5] at H
            have c5b0 : (q133 == 19) = true := beq_iff_eq.mpr c5
            have c5b1 : (q133 != 19) = false := bne_eq_false_iff_eq.mpr c5
            clear c5
            obtain rfl := Option.some.inj H
            go_enter Try.func46, Try.ntmps46
            go_wp2
            go_ret
            exact ⟨by first | rfl | (simp; done) | (simp [*]; done), by repeat (first | exact Drawn0.refl _ | apply Drawn0.step)⟩
          · rw [if_neg c5] at H
            have c5b0 : (q133 == 19) = false := beq_eq_false_iff_ne.mpr c5
            have c5b1 : (q133 != 19) = true := bne_iff_ne.mpr c5
            by_cases c6 : q133 = 20
            · rw [if_pos c6] at H
              have c6b0 : (q133 == 20) = true := beq_iff_eq.mpr c6
              have c6b1 : (q133 != 20) = false := bne_eq_false_iff_eq.mpr c6
              clear c6
              obtain rfl := Option.some.inj H
              go_enter Try.func46, Try.ntmps46
              go_wp2
              go_ret
              exact ⟨by first | rfl | (simp; done) | (simp [*]; done), by repeat (first | exact Drawn0.refl _ | apply Drawn0.step)⟩
            · rw [if_neg c6] at H
              have c6b0 : (q133 == 20) = false := beq_eq_false_iff_ne.mpr c6
              have c6b1 : (q133 != 20) = true := bne_iff_ne.mpr c6
              by_cases c7 : q133 = 21
              · rw [if_pos c7] at H
                have c7b0 : (q133 == 21) = true := beq_iff_eq.mpr c7
                have c7b1 : (q133 != 21) = false := bne_eq_false_iff_eq.mpr c7
                clear c7
                obtain rfl := Option.some.inj H
                go_enter Try.func46, Try.ntmps46
                go_wp2
                go_ret
                exact ⟨by first | rfl | (simp; done) | (simp [*]; done), by repeat (first | exact Drawn0.refl _ | apply Drawn0.step)⟩
              · rw [if_neg c7] at H
                have c7b0 : (q133 == 21) = false := beq_eq_false_iff_ne.mpr c7
                have c7b1 : (q133 != 21) = true := bne_iff_ne.mpr c7
                by_cases c8 : q133 = 22
                · rw [if_pos c8] at H
                  have c8b0 : (q133 == 22) = true := beq_iff_eq.mpr c8
                  have c8b1 : (q133 != 22) = false := bne_eq_false_iff_eq.mpr c8
                  clear c8
                  obtain rfl := Option.some.inj H
                  go_enter Try.func46, Try.ntmps46
                  go_wp2
                  go_ret
                  exact ⟨by first | rfl | (simp; done) | (simp [*]; done), by repeat (first | exact Drawn0.refl _ | apply Drawn0.step)⟩
                · rw [if_neg c8] at H
                  have c8b0 : (q133 == 22) = false := beq_eq_false_iff_ne.mpr c8
                  have c8b1 : (q133 != 22) = true := bne_iff_ne.mpr c8
                  by_cases c9 : q133 = 23
                  · rw [if_pos c9] at H
                    have c9b0 : (q133 == 23) = true := beq_iff_eq.mpr c9
                    have c9b1 : (q133 != 23) = false := bne_eq_false_iff_eq.mpr c9
                    clear c9
                    obtain rfl := Option.some.inj H
                    go_enter Try.func46, Try.ntmps46
                    go_wp2
                    go_ret
                    exact ⟨by first | rfl | (simp; done) | (simp [*]; done), by repeat (first | exact Drawn0.refl _ | apply Drawn0.step)⟩
                  · rw [if_neg c9] at H
                    have c9b0 : (q133 == 23) = false := beq_eq_false_iff_ne.mpr c9
                    have c9b1 : (q133 != 23) = true := bne_iff_ne.mpr c9
                    by_cases c10 : q133 = 24
                    · rw [if_pos c10] at H
                      have c10b0 : (q133 == 24) = true := beq_iff_eq.mpr c10
                      have c10b1 : (q133 != 24) = false := bne_eq_false_iff_eq.mpr c10
                      clear c10
                      obtain rfl := Option.some.inj H
                      go_enter Try.func46, Try.ntmps46
                      go_wp2
                      go_ret
                      exact ⟨by first | rfl | (simp; done) | (simp [*]; done), by repeat (first | exact Drawn0.refl _ | apply Drawn0.step)⟩
                    · rw [if_neg c10] at H
                      have c10b0 : (q133 == 24) = false := beq_eq_false_iff_ne.mpr c10
                      have c10b1 : (q133 != 24) = true := bne_iff_ne.mpr c10
                      by_cases c11 : q133 = 25
                      · rw [if_pos c11] at H
                        have c11b0 : (q133 == 25) = true := beq_iff_eq.mpr c11
                        have c11b1 : (q133 != 25) = false := bne_eq_false_iff_eq.mpr c11
                        clear c11
                        obtain rfl := Option.some.inj H
                        go_enter Try.func46, Try.ntmps46
                        go_wp2
                        go_ret
                        exact ⟨by first | rfl | (simp; done) | (simp [*]; done), by repeat (first | exact Drawn0.refl _ | apply Drawn0.step)⟩
                      · rw [if_neg c11] at H
                        have c11b0 : (q133 == 25) = false := beq_eq_false_iff_ne.mpr c11
                        have c11b1 : (q133 != 25) = true := bne_iff_ne.mpr c11
                        by_cases c12 : q133 = 26
                        · rw [if_pos c12] at H
                          have c12b0 : (q133 == 26) = true := beq_iff_eq.mpr c12
                          have c12b1 : (q133 != 26) = false := bne_eq_false_iff_eq.mpr c12
                          clear c12
                          obtain rfl := Option.some.inj H
                          go_enter Try.func46, Try.ntmps46
                          go_wp2
                          go_ret
                          exact ⟨by first | rfl | (simp; done) | (simp [*]; done), by repeat (first | exact Drawn0.refl _ | apply Drawn0.step)⟩
                        · rw [if_neg c12] at H
                          have c12b0 : (q133 == 26) = false := beq_eq_false_iff_ne.mpr c12
                          have c12b1 : (q133 != 26) = true := bne_iff_ne.mpr c12
                          by_cases c13 : q133 = 27
                          · rw [if_pos c13] at H
                            have c13b0 : (q133 == 27) = true := beq_iff_eq.mpr c13
                            have c13b1 : (q133 != 27) = false := bne_eq_false_iff_eq.mpr c13
                            clear c13
                            obtain rfl := Option.some.inj H
                            go_enter Try.func46, Try.ntmps46
                            go_wp2
                            go_ret
                            exact ⟨by first | rfl | (simp; done) | (simp [*]; done), by repeat (first | exact Drawn0.refl _ | apply Drawn0.step)⟩
                          · rw [if_neg c13] at H
                            have c13b0 : (q133 == 27) = false := beq_eq_false_iff_ne.mpr c13
                            have c13b1 : (q133 != 27) = true := bne_iff_ne.mpr c13
                            by_cases c14 : q133 = 28
                            · rw [if_pos c14] at H
                              have c14b0 : (q133 == 28) = true := beq_iff_eq.mpr c14
                              have c14b1 : (q133 != 28) = false := bne_eq_false_iff_eq.mpr c14
                              clear c14
                              obtain rfl := Option.some.inj H
                              go_enter Try.func46, Try.ntmps46
                              go_wp2
                              go_ret
                              exact ⟨by first | rfl | (simp; done) | (simp [*]; done), by repeat (first | exact Drawn0.refl _ | apply Drawn0.step)⟩
                            · rw [if_neg c14] at H
                              have c14b0 : (q133 == 28) = false := beq_eq_false_iff_ne.mpr c14
                              have c14b1 : (q133 != 28) = true := bne_iff_ne.mpr c14
                              by_cases c15 : q133 = 29
                              · rw [if_pos c15] at H
                                have c15b0 : (q133 == 29) = true := beq_iff_eq.mpr c15
                                have c15b1 : (q133 != 29) = false := bne_eq_false_iff_eq.mpr c15
                                clear c15
                                obtain rfl := Option.some.inj H
                                go_enter Try.func46, Try.ntmps46
                                go_wp2
                                go_ret
                                exact ⟨by first | rfl | (simp; done) | (simp [*]; done), by repeat (first | exact Drawn0.refl _ | apply Drawn0.step)⟩
                              · rw [if_neg c15] at H
                                have c15b0 : (q133 == 29) = false := beq_eq_false_iff_ne.mpr c15
                                have c15b1 : (q133 != 29) = true := bne_iff_ne.mpr c15
                                by_cases c16 : q133 = 30
                                · rw [if_pos c16] at H
                                  have c16b0 : (q133 == 30) = true := beq_iff_eq.mpr c16
                                  have c16b1 : (q133 != 30) = false := bne_eq_false_iff_eq.mpr c16
                                  clear c16
                                  obtain rfl := Option.some.inj H
                                  go_enter Try.func46, Try.ntmps46
                                  go_wp2
                                  go_ret
                                  exact ⟨by first | rfl | (simp; done) | (simp [*]; done), by repeat (first | exact Drawn0.refl _ | apply Drawn0.step)⟩
                                · rw [if_neg c16] at H
                                  have c16b0 : (q133 == 30) = false := beq_eq_false_iff_ne.mpr c16
                                  have c16b1 : (q133 != 30) = true := bne_iff_ne.mpr c16
                                  obtain rfl := Option.some.inj H
                                  go_enter Try.func46, Try.ntmps46
                                  go_wp2
                                  go_ret
                                  exact ⟨by first | rfl | (simp; done) | (simp [*]; done), by repeat (first | exact Drawn0.refl _ | apply Drawn0.step)⟩

/-! ### shacklelaw00_Code: function 17 -/
def shacklelaw00_Code.f (a0 : Option Int) : Option (Int) := if a0.isNone = true then (some 0) else (if (a0.getD 0) = 1 then (some 1) else (if (a0.getD 0) = 2 then (some 2) else (if (a0.getD 0) = 3 then (some 3) else (if (a0.getD 0) = 4 then (some 4) else (if (a0.getD 0) = 5 then (some 5) else (if (a0.getD 0) = 6 then (some 6) else (if (a0.getD 0) = 7 then (some 7) else (if (a0.getD 0) = 8 then (some 8) else (if (a0.getD 0) = 9 then (some 9) else (if (a0.getD 0) = 10 then (some 10) else (if (a0.getD 0) = 11 then (some 11) else (if (a0.getD 0) = 12 then (some 12) else (if (a0.getD 0) = 13 then (some 13) else (if (a0.getD 0) = 14 then (some 14) else (if (a0.getD 0) = 15 then (some 15) else ((shacklelaw00_further.f (some (a0.getD 0))).bind fun t135 => (some t135)))))))))))))))))
set_option maxHeartbeats 8000000 in
set_option maxRecDepth 100000 in
theorem shacklelaw00_Code.calls (a0 : Option Int) (r : Int) (w : World) (h : shacklelaw00_Code.f a0 = some r) :
    Calls Try.prog 17 #[errW a0] w fun e w' => e = .returned (.int .i64 r) ∧ Drawn0 w w' := by
  have hu29 := Try.underlying29
  have hu49 := Try.underlying49
  have hcm49 : (Try.prog.info? 49).map (fun i => i.comparable) = some true := by kernel_rfl
  have H : (if a0.isNone = true then (some 0) else (if (a0.getD 0) = 1 then (some 1) else (if (a0.getD 0) = 2 then (some 2) else (if (a0.getD 0) = 3 then (some 3) else (if (a0.getD 0) = 4 then (some 4) else (if (a0.getD 0) = 5 then (some 5) else (if (a0.getD 0) = 6 then (some 6) else (if (a0.getD 0) = 7 then (some 7) else (if (a0.getD 0) = 8 then (some 8) else (if (a0.getD 0) = 9 then (some 9) else (if (a0.getD 0) = 10 then (some 10) else (if (a0.getD 0) = 11 then (some 11) else (if (a0.getD 0) = 12 then (some 12) else (if (a0.getD 0) = 13 then (some 13) else (if (a0.getD 0) = 14 then (some 14) else (if (a0.getD 0) = 15 then (some 15) else ((shacklelaw00_further.f (some (a0.getD 0))).bind fun t135 => (some t135)))))))))))))))))) = some r := h
  clear h
  rcases a0 with _ | q134
  · have H1 : (some 0) = some r := by rw [if_pos (show (none : Option Int).isNone = true by rfl)] at H; exact H
    clear H
    have H := H1
    clear H1
    simp only [errW_none, errW_some]
    obtain rfl := Option.some.inj H
    go_enter Try.func17, Try.ntmps17
    go_wp2
    go_ret
    exact ⟨by first | rfl | (simp; done) | (simp [*]; done), by repeat (first | exact Drawn0.refl _ | apply Drawn0.step)⟩
  · have H1 : (if q134 = 1 then (some 1) else (if q134 = 2 then (some 2) else (if q134 = 3 then (some 3) else (if q134 = 4 then (some 4) else (if q134 = 5 then (some 5) else (if q134 = 6 then (some 6) else (if q134 = 7 then (some 7) else (if q134 = 8 then (some 8) else (if q134 = 9 then (some 9) else (if q134 = 10 then (some 10) else (if q134 = 11 then (some 11) else (if q134 = 12 then (some 12) else (if q134 = 13 then (some 13) else (if q134 = 14 then (some 14) else (if q134 = 15 then (some 15) else ((shacklelaw00_further.f (some q134)).bind fun t135 => (some t135))))))))))))))))) = some r := by rw [if_neg (show ¬ (some q134).isNone = true by simp)] at H; exact H
    clear H
    have H := H1
    clear H1
    simp only [errW_none, errW_some]
    by_cases c2 : q134 = 1
    · rw [if_pos c2] at H
      have c2b0 : (q134 == 1) = true := beq_iff_eq.mpr c2
      have c2b1 : (q134 != 1) = false := bne_eq_false_iff_eq.mpr c2
      clear c2
      obtain rfl := Option.some.inj H
      go_enter Try.func17, Try.ntmps17
      go_wp2
      go_ret
      exact ⟨by first | rfl | (simp; done) | (simp [*]; done), by repeat (first | exact Drawn0.refl _ | apply Drawn0.step)⟩
    · rw [if_neg c2] at H
      have c2b0 : (q134 == 1) = false := beq_eq_false_iff_ne.mpr c2
      have c2b1 : (q134 != 1) = true := bne_iff_ne.mpr c2
      by_cases c3 : q134 = 2
      · rw [if_pos c3] at H
        have c3b0 : (q134 == 2) = true := beq_iff_eq.mpr c3
        have c3b1 : (q134 != 2) = false := bne_eq_false_iff_eq.mpr c3
        clear c3
        obtain rfl := Option.some.inj H
        go_enter Try.func17, Try.ntmps17
        go_wp2
        go_ret
        exact ⟨by first | rfl | (simp; done) | (simp [*]; done), by repeat (first | exact Drawn0.refl _ | apply Drawn0.step)⟩
      · rw [if_neg c3] at H
        have c3b0 : (q134 == 2) = false := beq_eq_false_iff_ne.mpr c3
        have c3b1 : (q134 != 2) = true := bne_iff_ne.mpr c3
        by_cases c4 : q134 = 3
        · rw [if_pos c4] at H
          have c4b0 : (q134 == 3) = true := beq_iff_eq.mpr c4
          have c4b1 : (q134 != 3) = false := bne_eq_false_iff_eq.mpr c4
          clear c4
          obtain rfl := Option.some.inj H
          go_enter Try.func17, Try.ntmps17
          go_wp2
          go_ret
          exact ⟨by first | rfl | (simp; done) | (simp [*]; done), by repeat (first | exact Drawn0.refl _ | apply Drawn0.step)⟩
        · rw [if_neg c4] at H
          have c4b0 : (q134 == 3) = false := beq_eq_false_iff_ne.mpr c4
          have c4b1 : (q134 != 3) = true := bne_iff_ne.mpr c4
          by_cases c5 : q134 = 4
          · rw [if_pos c5] at H
            have c5b0 : (q134 == 4) = true := beq_iff_eq.mpr c5
            have c5b1 : (q134 != 4) = false := bne_eq_false_iff_eq.mpr c5
            clear c5
            obtain rfl := Option.some.inj H
            go_enter Try.func17, Try.ntmps17
            go_wp2
            go_ret
            exact ⟨by first | rfl | (simp; done) | (simp [*]; done), by repeat (first | exact Drawn0.refl _ | apply Drawn0.step)⟩
          · rw [if_neg c5] at H
            have c5b0 : (q134 == 4) = false := beq_eq_false_iff_ne.mpr c5
            have c5b1 : (q134 != 4) = true := bne_iff_ne.mpr c5
            by_cases c6 : q134 = 5
            · rw [if_pos c6] at H
              have c6b0 : (q134 == 5) = true := beq_iff_eq.mpr c6
              have c6b1 : (q134 != 5) = false := bne_eq_false_iff_eq.mpr c6
              clear c6
              obtain rfl := Option.some.inj H
              go_enter Try.func17, Try.ntmps17
              go_wp2
              go_ret
              exact ⟨by first | rfl | (simp; done) | (simp [*]; done), by repeat (first | exact Drawn0.refl _ | apply Drawn0.step)⟩
            · rw [if_neg c6] at H
              have c6b0 : (q134 == 5) = false := beq_eq_false_iff_ne.mpr c6
              have c6b1 : (q134 != 5) = true := bne_iff_ne.mpr c6
              by_cases c7 : q134 = 6
              · rw [if_pos c7] at H
                have c7b0 : (q134 == 6) = true := beq_iff_eq.mpr c7
                have c7b1 : (q134 != 6) = false := bne_eq_false_iff_eq.mpr c7
                clear c7
                obtain rfl := Option.some.inj H
                go_enter Try.func17, Try.ntmps17
                go_wp2
                go_ret
                exact ⟨by first | rfl | (simp; done) | (simp [*]; done), by repeat (first | exact Drawn0.refl _ | apply Drawn0.step)⟩
              · rw [if_neg c7] at H
                have c7b0 : (q134 == 6) = false := beq_eq_false_iff_ne.mpr c7
                have c7b1 : (q134 != 6) = true := bne_iff_ne.mpr c7
                by_cases c8 : q134 = 7
                · rw [if_pos c8] at H
                  have c8b0 : (q134 == 7) = true := beq_iff_eq.mpr c8
                  have c8b1 : (q134 != 7) = false := bne_eq_false_iff_eq.mpr c8
                  clear c8
                  obtain rfl := Option.some.inj H
                  go_enter Try.func17, Try.ntmps17
                  go_wp2
                  go_ret
                  exact ⟨by first | rfl | (simp; done) | (simp [*]; done), by repeat (first | exact Drawn0.refl _ | apply Drawn0.step)⟩
                · rw [if_neg c8] at H
                  have c8b0 : (q134 == 7) = false := beq_eq_false_iff_ne.mpr c8
                  have c8b1 : (q134 != 7) = true := bne_iff_ne.mpr c8
                  by_cases c9 : q134 = 8
                  · rw [if_pos c9] at H
                    have c9b0 : (q134 == 8) = true := beq_iff_eq.mpr c9
                    have c9b1 : (q134 != 8) = false := bne_eq_false_iff_eq.mpr c9
                    clear c9
                    obtain rfl := Option.some.inj H
                    go_enter Try.func17, Try.ntmps17
                    go_wp2
                    go_ret
                    exact ⟨by first | rfl | (simp; done) | (simp [*]; done), by repeat (first | exact Drawn0.refl _ | apply Drawn0.step)⟩
                  · rw [if_neg c9] at H
                    have c9b0 : (q134 == 8) = false := beq_eq_false_iff_ne.mpr c9
                    have c9b1 : (q134 != 8) = true := bne_iff_ne.mpr c9
                    by_cases c10 : q134 = 9
                    · rw [if_pos c10] at H
                      have c10b0 : (q134 == 9) = true := beq_iff_eq.mpr c10
                      have c10b1 : (q134 != 9) = false := bne_eq_false_iff_eq.mpr c10
                      clear c10
                      obtain rfl := Option.some.inj H
                      go_enter Try.func17, Try.ntmps17
                      go_wp2
                      go_ret
                      exact ⟨by first | rfl | (simp; done) | (simp [*]; done), by repeat (first | exact Drawn0.refl _ | apply Drawn0.step)⟩
                    · rw [if_neg c10] at H
                      have c10b0 : (q134 == 9) = false := beq_eq_false_iff_ne.mpr c10
                      have c10b1 : (q134 != 9) = true := bne_iff_ne.mpr c10
                      by_cases c11 : q134 = 10
                      · rw [if_pos c11] at H
                        have c11b0 : (q134 == 10) = true := beq_iff_eq.mpr c11
                        have c11b1 : (q134 != 10) = false := bne_eq_false_iff_eq.mpr c11
                        clear c11
                        obtain rfl := Option.some.inj H
                        go_enter Try.func17, Try.ntmps17
                        go_wp2
                        go_ret
                        exact ⟨by first | rfl | (simp; done) | (simp [*]; done), by repeat (first | exact Drawn0.refl _ | apply Drawn0.step)⟩
                      · rw [if_neg c11] at H
                        have c11b0 : (q134 == 10) = false := beq_eq_false_iff_ne.mpr c11
                        have c11b1 : (q134 != 10) = true := bne_iff_ne.mpr c11
                        by_cases c12 : q134 = 11
                        · rw [if_pos c12] at H
                          have c12b0 : (q134 == 11) = true := beq_iff_eq.mpr c12
                          have c12b1 : (q134 != 11) = false := bne_eq_false_iff_eq.mpr c12
                          clear c12
                          obtain rfl := Option.some.inj H
                          go_enter Try.func17, Try.ntmps17
                          go_wp2
                          go_ret
                          exact ⟨by first | rfl | (simp; done) | (simp [*]; done), by repeat (first | exact Drawn0.refl _ | apply Drawn0.step)⟩
                        · rw [if_neg c12] at H
                          have c12b0 : (q134 == 11) = false := beq_eq_false_iff_ne.mpr c12
                          have c12b1 : (q134 != 11) = true := bne_iff_ne.mpr c12
                          by_cases c13 : q134 = 12
                          · rw [if_pos c13] at H
                            have c13b0 : (q134 == 12) = true := beq_iff_eq.mpr c13
                            have c13b1 : (q134 != 12) = false := bne_eq_false_iff_eq.mpr c13
                            clear c13
                            obtain rfl := Option.some.inj H
                            go_enter Try.func17, Try.ntmps17
                            go_wp2
                            go_ret
                            exact ⟨by first | rfl | (simp; done) | (simp [*]; done), by repeat (first | exact Drawn0.refl _ | apply Drawn0.step)⟩
                          · rw [if_neg c13] at H
                            have c13b0 : (q134 == 12) = false := beq_eq_false_iff_ne.mpr c13
                            have c13b1 : (q134 != 12) = true := bne_iff_ne.mpr c13
                            by_cases c14 : q134 = 13
                            · rw [if_pos c14] at H
                              have c14b0 : (q134 == 13) = true := beq_iff_eq.mpr c14
                              have c14b1 : (q134 != 13) = false := bne_eq_false_iff_eq.mpr c14
                              clear c14
                              obtain rfl := Option.some.inj H
                              go_enter Try.func17, Try.ntmps17
                              go_wp2
                              go_ret
                              exact ⟨by first | rfl | (simp; done) | (simp [*]; done), by repeat (first | exact Drawn0.refl _ | apply Drawn0.step)⟩
                            · rw [if_neg c14] at H
                              have c14b0 : (q134 == 13) = false := beq_eq_false_iff_ne.mpr c14
                              have c14b1 : (q134 != 13) = true := bne_iff_ne.mpr c14
                              by_cases c15 : q134 = 14
                              · rw [if_pos c15] at H
                                have c15b0 : (q134 == 14) = true := beq_iff_eq.mpr c15
                                have c15b1 : (q134 != 14) = false := bne_eq_false_iff_eq.mpr c15
                                clear c15
                                obtain rfl := Option.some.inj H
                                go_enter Try.func17, Try.ntmps17
                                go_wp2
                                go_ret
                                exact ⟨by first | rfl | (simp; done) | (simp [*]; done), by repeat (first | exact Drawn0.refl _ | apply Drawn0.step)⟩
                              · rw [if_neg c15] at H
                                have c15b0 : (q134 == 14) = false := beq_eq_false_iff_ne.mpr c15
                                have c15b1 : (q134 != 14) = true := bne_iff_ne.mpr c15
                                by_cases c16 : q134 = 15
                                · rw [if_pos c16] at H
                                  have c16b0 : (q134 == 15) = true := beq_iff_eq.mpr c16
                                  have c16b1 : (q134 != 15) = false := bne_eq_false_iff_eq.mpr c16
                                  clear c16
                                  obtain rfl := Option.some.inj H
                                  go_enter Try.func17, Try.ntmps17
                                  go_wp2
                                  go_ret
                                  exact ⟨by first | rfl | (simp; done) | (simp [*]; done), by repeat (first | exact Drawn0.refl _ | apply Drawn0.step)⟩
                                · rw [if_neg c16] at H
                                  have c16b0 : (q134 == 15) = false := beq_eq_false_iff_ne.mpr c16
                                  have c16b1 : (q134 != 15) = true := bne_iff_ne.mpr c16
                                  replace H := Option.bind_eq_some_iff.mp H
                                  obtain ⟨t135, A170, H⟩ := H
                                  replace H : (some t135) = some r := H
                                  have A17 := Aside0.mk A170
                                  clear A170
                                  obtain rfl := Option.some.inj H
                                  have CA17 := fun W => shacklelaw00_further.calls (some q134) t135 W A17.out
                                  try simp only [errW_none, errW_some] at CA17
                                  go_enter Try.func17, Try.ntmps17
                                  go_wp2_with (first | (go_at_call 46; (with_reducible refine (CA17 _).mono ?_); rintro e w' ⟨rfl, ⟨nd, rfl⟩⟩))
                                  go_ret
                                  exact ⟨by first | rfl | (simp; done) | (simp [*]; done), by repeat (first | exact Drawn0.refl _ | apply Drawn0.step)⟩

end Go.Proofs.Ythhlnhbmjkjmlaa.PRelocMoves
