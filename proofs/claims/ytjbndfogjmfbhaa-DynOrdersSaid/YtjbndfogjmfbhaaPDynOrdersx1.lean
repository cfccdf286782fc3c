/- Printed by this session's own program (wip/tools: a turn of the kit's print) out of the translation: each Go function that the law reaches as a Lean function, and that the machine's call comes to what that function tells; no condition but what each theorem names. -/
import Derived.Test.YtjbndfogjmfbhaaPDynOrdersx0
namespace Go.Proofs.Ytjbndfogjmfbhaa.PDynOrders
open Go.RowKit Go.Proofs.YtjbndfogjmfbhaaW.PrintWords Go.Proofs.YtjbndfogjmfbhaaW.PrintLast Go.Proofs.YtjbndfogjmfbhaaW.PrintMore Go.Proofs.YtjbndfogjmfbhaaX
attribute [local go_sem] max2_int min2_int max_two min_two max_three min_three max_four min_four   -- for this text's walks alone
set_option linter.unusedVariables false
set_option linter.unusedSimpArgs false

/-! ### dyn_cut: function 29 -/
def dyn_cut.f (l0 : List Int) (a1 : Int) (a2 : Int) : Option (List Int × Option Int) := if a1 > (IntKind.u64.wrap ((l0.length : Int))) then (some (([] : List Int), some 4)) else (if a2 > (IntKind.u64.wrap ((IntKind.u64.wrap ((l0.length : Int))) - a1)) then (some (([] : List Int), some 4)) else ((some (([] : List Int) : List Int)).bind fun y101 => (if 0 ≤ a1 then (if a1 ≤ (IntKind.u64.wrap (a1 + a2)) then (if (IntKind.u64.wrap (a1 + a2)) ≤ (l0.length : Int) then (if y101.length + ((l0.take ((IntKind.u64.wrap (a1 + a2)) : Int).toNat).drop (a1 : Int).toNat).length < 140737488355328 then (some ((y101 ++ ((l0.take ((IntKind.u64.wrap (a1 + a2)) : Int).toNat).drop (a1 : Int).toNat)), none)) else (none)) else (none)) else (none)) else (none))))
set_option maxHeartbeats 8000000 in
set_option maxRecDepth 100000 in
theorem dyn_cut.calls (A0 : Option Addr) (c0 : Nat) (l0 : List Int) (a1 : Int) (a2 : Int) (r1 : List Int) (r2 : Option Int) (w : World) (hr0 : Kd.C (Kd.int .u8) w A0 l0.length l0) (hc0 : l0.length ≤ c0) (h : dyn_cut.f l0 a1 a2 = some (r1, r2)) :
    Calls Try.prog 29 #[.slice A0 l0.length c0, .int .u64 a1, .int .u64 a2] w fun e w' => ∃ v0_ : Value, e = .returned (.tuple #[v0_, errW r2]) ∧ Kd.R (Kd.int .u8) 5 w' w.heap.size (fun _ => True) v0_ r1 ∧ Below w.heap.size w w' := by
  have hu45 := Try.underlying45
  have hu76 := Try.underlying76
  have HR0 := Aside0.mk hr0
  have HC0 := Aside0.mk hc0
  clear hr0 hc0
  have HB := Aside0.mk (Below.refl w.heap.size w)
  have H : (if a1 > (IntKind.u64.wrap ((l0.length : Int))) then (some (([] : List Int), some 4)) else (if a2 > (IntKind.u64.wrap ((IntKind.u64.wrap ((l0.length : Int))) - a1)) then (some (([] : List Int), some 4)) else ((some (([] : List Int) : List Int)).bind fun y101 => (if 0 ≤ a1 then (if a1 ≤ (IntKind.u64.wrap (a1 + a2)) then (if (IntKind.u64.wrap (a1 + a2)) ≤ (l0.length : Int) then (if y101.length + ((l0.take ((IntKind.u64.wrap (a1 + a2)) : Int).toNat).drop (a1 : Int).toNat).length < 140737488355328 then (some ((y101 ++ ((l0.take ((IntKind.u64.wrap (a1 + a2)) : Int).toNat).drop (a1 : Int).toNat)), none)) else (none)) else (none)) else (none)) else (none))))) = some (r1, r2) := h
  clear h
  by_cases c4 : a1 > (IntKind.u64.wrap ((l0.length : Int)))
  · rw [if_pos c4] at H
    have c4b0 : decide ((IntKind.u64.wrap ((l0.length : Int))) < a1) = true := decide_eq_true c4
    clear c4
    simp only [Option.some.injEq, Prod.mk.injEq] at H
    obtain ⟨rfl, rfl⟩ := H
    go_enter Try.func29, Try.ntmps29
    go_wp2
    go_ret2
    exact ⟨_, by first | rfl | (simp [errW_none, errW_some] <;> rfl) | (simp [*, errW_none, errW_some] <;> rfl), by first | exact Kd.R_nil _ _ _ _ _ | exact Kd.N_nil _ _ _ _ _ | exact Kd.V_nil _ _ _ _ _ | exact Kd.Q_nil _ _ _ _ _ | exact Kd.S_nil _ _ _ _ _, by repeat (first | (with_reducible first | exact HB.out | apply below_alloc | apply pw_below_drewN | apply below_drew1) | exact HB.out)⟩
  · rw [if_neg c4] at H
    have c4b0 : decide ((IntKind.u64.wrap ((l0.length : Int))) < a1) = false := decide_eq_false c4
    clear c4
    by_cases c5 : a2 > (IntKind.u64.wrap ((IntKind.u64.wrap ((l0.length : Int))) - a1))
    · rw [if_pos c5] at H
      have c5b0 : decide ((IntKind.u64.wrap ((IntKind.u64.wrap ((l0.length : Int))) - a1)) < a2) = true := decide_eq_true c5
      clear c5
      simp only [Option.some.injEq, Prod.mk.injEq] at H
      obtain ⟨rfl, rfl⟩ := H
      go_enter Try.func29, Try.ntmps29
      go_wp2
      go_ret2
      exact ⟨_, by first | rfl | (simp [errW_none, errW_some] <;> rfl) | (simp [*, errW_none, errW_some] <;> rfl), by first | exact Kd.R_nil _ _ _ _ _ | exact Kd.N_nil _ _ _ _ _ | exact Kd.V_nil _ _ _ _ _ | exact Kd.Q_nil _ _ _ _ _ | exact Kd.S_nil _ _ _ _ _, by repeat (first | (with_reducible first | exact HB.out | apply below_alloc | apply pw_below_drewN | apply below_drew1) | exact HB.out)⟩
    · rw [if_neg c5] at H
      have c5b0 : decide ((IntKind.u64.wrap ((IntKind.u64.wrap ((l0.length : Int))) - a1)) < a2) = false := decide_eq_false c5
      clear c5
      obtain ⟨y101, hy101⟩ : ∃ y_ : List Int, y_ = (([] : List Int)) := ⟨_, rfl⟩
      replace H : (if 0 ≤ a1 then (if a1 ≤ (IntKind.u64.wrap (a1 + a2)) then (if (IntKind.u64.wrap (a1 + a2)) ≤ (l0.length : Int) then (if y101.length + ((l0.take ((IntKind.u64.wrap (a1 + a2)) : Int).toNat).drop (a1 : Int).toNat).length < 140737488355328 then (some ((y101 ++ ((l0.take ((IntKind.u64.wrap (a1 + a2)) : Int).toNat).drop (a1 : Int).toNat)), none)) else (none)) else (none)) else (none)) else (none)) = some (r1, r2) := by first | (rw [hy101]; with_reducible exact H) | (have H2_ := (Option.bind_some _ _).symm.trans H; rw [hy101]; with_reducible exact H2_) | (have H2_ := (Option.bind_some _ _).symm.trans H; with_reducible exact H2_) | with_reducible exact H | (rw [hy101]; exact H) | exact H
      have Ny101 := Aside0.mk hy101
      clear hy101
      by_cases c6 : 0 ≤ a1
      · rw [if_pos c6] at H
        have c6b0 := eq_true c6
        have c6b1 : decide (0 ≤ a1) = true := decide_eq_true c6
        clear c6
        by_cases c7 : a1 ≤ (IntKind.u64.wrap (a1 + a2))
        · rw [if_pos c7] at H
          have c7b0 := eq_true c7
          have c7b1 : decide (a1 ≤ (IntKind.u64.wrap (a1 + a2))) = true := decide_eq_true c7
          by_cases c8 : (IntKind.u64.wrap (a1 + a2)) ≤ (l0.length : Int)
          · rw [if_pos c8] at H
            have c8b0 := eq_true c8
            have c8b1 : decide ((IntKind.u64.wrap (a1 + a2)) ≤ (l0.length : Int)) = true := decide_eq_true c8
            by_cases c9 : y101.length + ((l0.take ((IntKind.u64.wrap (a1 + a2)) : Int).toNat).drop (a1 : Int).toNat).length < 140737488355328
            · rw [if_pos c9] at H
              have LMc9 := Aside0.mk c9
              clear c9
              obtain ⟨y105, hy105⟩ : ∃ y_ : List Int, y_ = (y101 ++ ((l0.take ((IntKind.u64.wrap (a1 + a2)) : Int).toNat).drop (a1 : Int).toNat)) := ⟨_, rfl⟩
              replace H : (some (y105, none)) = some (r1, r2) := by first | (rw [hy105]; with_reducible exact H) | (have H2_ := (Option.bind_some _ _).symm.trans H; rw [hy105]; with_reducible exact H2_) | (have H2_ := (Option.bind_some _ _).symm.trans H; with_reducible exact H2_) | with_reducible exact H | (rw [hy105]; exact H) | exact H
              have Ny105 := Aside0.mk hy105
              clear hy105
              simp only [Option.some.injEq, Prod.mk.injEq] at H
              obtain ⟨rfl, rfl⟩ := H
              go_enter Try.func29, Try.ntmps29
              go_wp2_with (first | ((with_reducible refine gate_dst (N := 23) rfl ?_); (try (refine gate_guard (by rfl) ?_; dsimp only)); refine Kd.R_lit (Kd.int .u8) _ 5 ?hg (N := 23) ?hd (xs := ([] : List Int)) (inner := []) (ok := fun _ => True) (okp := fun _ => True) ?hr ?hp (fun _ hk => hk) trivial (Below.refl _ _) (Nat.le_refl _) (by simp) ?_; (case hd => rfl); (case hg => rfl); (case hr => first | (go_simp; done) | (go_simp; rfl)); (case hp => exact (Reps.none _ _)); intro v102 w10 ho11 hb hg_ hnew_; clear hg_ hnew_; (first | rw [← Ny101.out] at ho11 | (simp only [Int.reduceToNat] at ho11; rw [← Ny101.out] at ho11)); have n0_ := Aside0.mk (Kd.R_lower ho11 (below_size (by repeat (first | (with_reducible first | exact HB.out | apply below_alloc | apply pw_below_drewN | apply below_drew1) | exact HB.out)))); have n1_ := Aside0.mk (below_step (by repeat (first | (with_reducible first | exact HB.out | apply below_alloc | apply pw_below_drewN | apply below_drew1) | exact HB.out)) hb); clear HB; have HO103 := n0_; have HB := n1_; clear n0_ n1_; clear hb ho11; obtain ⟨i012, hi012, _, hsz12, _⟩ := info_parts info5; obtain ⟨A12, hcut12, hA12, hC12⟩ := print_mid_of (P := Try.prog) (Value.int .u8) 0 35 5 .u64 .u64 Try.underlying35 hi012 hsz12 A0 c0 l0 a1 (IntKind.u64.wrap (a1 + a2)) (of_decide_eq_true (by first | (with_reducible assumption) | assumption)) (by first | omega | exact of_decide_eq_true (by first | (with_reducible assumption) | assumption)) (of_decide_eq_true (by first | (with_reducible assumption) | assumption)) HC0.out; have HR104 := Aside0.mk (Kd.C_of_reads (h1 := fun _ => rfl) (hA12 _ (Kd.reads_of_C HR0.out))); have HC104 := Aside0.mk hC12; clear hA12 hC12 hi012 hsz12) | ((with_reducible refine gate_builtin (b := .append) (xs := #[.tmp 23, .tmp 29]) rfl ?_); (try (refine gate_guard (by rfl) ?_; dsimp only)); at_builtin; refine Kd.R_append_rows (Kd.int .u8) (w0 := w) w.heap.size rfl (.tmp 23) (.tmp 29) 35 5 (.int .u8 0) 1 rfl Try.underlying35 info5 rfl (by decide) (by omega) v102 y101 ((l0.take ((IntKind.u64.wrap (a1 + a2)) : Int).toNat).drop (a1 : Int).toNat) _ _ _ (fun _ => True) (fun _ => False) rfl rfl ?aO ?aR (fun _ _ h => h) (fun _ h => h.elim) ?aF ?aB ?aS ?aL ?_; (case aR => first | (rw [← show ((l0.take ((IntKind.u64.wrap (a1 + a2)) : Int).toNat).drop (a1 : Int).toNat).length = ((IntKind.u64.wrap (a1 + a2)).toNat - a1.toNat) from (by rw [List.length_drop, List.length_take]; have h_ : ((IntKind.u64.wrap (a1 + a2)) : Int) ≤ (l0.length : Int) := of_decide_eq_true (by first | (with_reducible assumption) | assumption); omega)]; repeat (first | exact (Kd.C_below HR104.out HB.out) | (with_reducible refine Kd.C_alloc ?_ _) | (with_reducible refine Kd.C_drewN ?_ _) | (with_reducible refine Kd.C_drew ?_))) | (repeat (first | exact (Kd.C_below HR104.out HB.out) | (with_reducible refine Kd.C_alloc ?_ _) | (with_reducible refine Kd.C_drewN ?_ _) | (with_reducible refine Kd.C_drew ?_)))); (case aB => exact (by repeat (first | (with_reducible first | exact HB.out | apply below_alloc | apply pw_below_drewN | apply below_drew1) | exact HB.out))); (case aF => exact (fun _ _ => trivial)); (case aO => exact (by (with_reducible repeat (first | apply Kd.R_alloc | apply Kd.R_drewN | apply Kd.R_drew)); exact HO103.out)); (case aS => exact (below_size (by repeat (first | (with_reducible first | exact HB.out | apply below_alloc | apply pw_below_drewN | apply below_drew1) | exact HB.out)))); (case aL => have := LMc9.out; have hlx_ := (show ((l0.take ((IntKind.u64.wrap (a1 + a2)) : Int).toNat).drop (a1 : Int).toNat).length = ((IntKind.u64.wrap (a1 + a2)).toNat - a1.toNat) from (by rw [List.length_drop, List.length_take]; have h_ : ((IntKind.u64.wrap (a1 + a2)) : Int) ≤ (l0.length : Int) := of_decide_eq_true (by first | (with_reducible assumption) | assumption); omega)); omega); intro v106 w13 ho hb hg hat; rw [← Ny105.out] at ho; have n0_ := Aside0.mk (hb); have n1_ := Aside0.mk (ho); clear HB; clear HO103; have HB := n0_; have HO107 := n1_; clear n0_ n1_; clear ho hb hg hat))
              go_ret2
              exact ⟨_, by first | rfl | (simp [errW_none, errW_some] <;> rfl) | (simp [*, errW_none, errW_some] <;> rfl), by (with_reducible repeat (first | apply Kd.R_alloc | apply Kd.R_drewN | apply Kd.R_drew)); exact HO107.out, by repeat (first | (with_reducible first | exact HB.out | apply below_alloc | apply pw_below_drewN | apply below_drew1) | exact HB.out)⟩
            · rw [if_neg c9] at H
              exact absurd H (by simp)
          · rw [if_neg c8] at H
            exact absurd H (by simp)
        · rw [if_neg c7] at H
          exact absurd H (by simp)
      · rw [if_neg c6] at H
        exact absurd H (by simp)

/-! ### dyn_word: function 41 -/
def dyn_word.l0 : Nat → List Int → Int → Int → Option (Int)
  | 0, _, _, _ => none
  | k + 1, x0, x3, x5 => if x5 < 8 then (if 0 ≤ x5 then (if x5 < (x0.length : Int) then (if 0 ≤ (wrap64 (8 * x5)) then (dyn_word.l0 k x0 (Go.bits .or .u64 x3 (shl .u64 (IntKind.u64.wrap (rd x0 x5)) (wrap64 (8 * x5)))) (wrap64 (x5 + 1))) else (none)) else (none)) else (none)) else (some x3)
def dyn_word.f (k : Nat) (l0 : List Int) : Option (Int) := dyn_word.l0 k l0 0 0
theorem dyn_word.mono_l : ∀ k, (∀ y0 y1 y2, LeO (dyn_word.l0 k y0 y1 y2) (dyn_word.l0 (k + 1) y0 y1 y2))
  | 0 => fun _ _ _ r h => by simp [dyn_word.l0] at h
  | k + 1 => by
    have ih0 := dyn_word.mono_l k
    · intro y0 y1 y2
      unfold dyn_word.l0
      repeat' first
      | (with_reducible exact ih0 _ _ _)
      | (with_reducible exact LeO.refl _)
      | (with_reducible exact LeO.none _)
      | (with_reducible refine LeO.ite ?_ ?_)
      | (with_reducible refine LeO.bind ?_ (fun _ => ?_))
      | exact ih0 _ _ _
      | exact LeO.none _
      | refine LeO.ite ?_ ?_
      | refine LeO.bind ?_ (fun _ => ?_)
theorem dyn_word.mono : ∀ a0 k, LeO (dyn_word.f k a0) (dyn_word.f (k + 1) a0) := by
  intro a0 k
  have ih0 := dyn_word.mono_l k
  unfold dyn_word.f
  repeat' first
      | (with_reducible exact ih0 _ _ _)
      | (with_reducible exact LeO.refl _)
      | (with_reducible exact LeO.none _)
      | (with_reducible refine LeO.ite ?_ ?_)
      | (with_reducible refine LeO.bind ?_ (fun _ => ?_))
      | exact ih0 _ _ _
      | exact LeO.none _
      | refine LeO.ite ?_ ?_
      | refine LeO.bind ?_ (fun _ => ?_)
set_option maxHeartbeats 8000000 in
set_option maxRecDepth 100000 in
theorem dyn_word.calls (k : Nat) (A0 : Option Addr) (c0 : Nat) (l0 : List Int) (r : Int) (w : World) (hr0 : Kd.C (Kd.int .u8) w A0 l0.length l0) (hc0 : l0.length ≤ c0) (h : dyn_word.f k l0 = some r) :
    Calls Try.prog 41 #[.slice A0 l0.length c0] w fun e w' => e = .returned (.int .u64 r) ∧ Drawn0 w w' := by
  have HR0 := Aside0.mk hr0
  have HC0 := Aside0.mk hc0
  clear hr0 hc0
  have H : (dyn_word.l0 k l0 0 0) = some r := h
  clear h
  have H' := Aside0.mk H
  clear H
  go_enter Try.func41, Try.ntmps41
  go_wp2
  go_loopg [3, 5] k (fun kq v3 v5 w' => ∃ (x3_1 : Int) (x5_1 : Int), v3 = .int .u64 x3_1 ∧ v5 = .int .i64 x5_1 ∧ Aside0 (dyn_word.l0 kq l0 x3_1 x5_1 = some r) ∧ Aside0 (kq ≤ k) ∧ Drawn0 w w')
  case atStart => exact ⟨(0), (0), (by first | rfl | (simp; done) | (simp [*]; done)), (by first | rfl | (simp; done) | (simp [*]; done)), H', ⟨Nat.le_refl _⟩, by repeat (first | exact Drawn0.refl _ | apply Drawn0.step)⟩
  case round =>
    clear H'
    obtain ⟨x3_1, x5_1, rfl, rfl, HA, HK1, ⟨m1, rfl⟩⟩ := hrel
    cases gk with
    | zero => exact absurd HA.out (by simp [dyn_word.l0])
    | succ k1 =>
      have H := HA.out
      clear HA
      simp only [dyn_word.l0] at H
      by_cases c2 : x5_1 < 8
      · rw [if_pos c2] at H
        have c2b0 : decide (x5_1 < 8) = true := decide_eq_true c2
        clear c2
        by_cases c3 : 0 ≤ x5_1
        · rw [if_pos c3] at H
          have c3b0 : decide (0 ≤ x5_1) = true := decide_eq_true c3
          clear c3
          by_cases c4 : x5_1 < (l0.length : Int)
          · rw [if_pos c4] at H
            have c4b0 : decide (x5_1 < (l0.length : Int)) = true := decide_eq_true c4
            clear c4
            obtain ⟨ji5, hji5⟩ : ∃ j_ : Int, (wrap64 (8 * x5_1)) = j_ := ⟨_, rfl⟩
            replace H : (if 0 ≤ (ji5) then (dyn_word.l0 k1 l0 (Go.bits .or .u64 x3_1 (shl .u64 (IntKind.u64.wrap (rd l0 x5_1)) (ji5))) (wrap64 (x5_1 + 1))) else (none)) = some r := by first | (rw [hji5] at H; exact H) | (simp only [hji5] at H ⊢; exact H)
            have hji5w : (IntKind.i64.wrap (8 * x5_1)) = ji5 := (i64_w _).trans hji5
            by_cases c6 : 0 ≤ (ji5)
            · rw [if_pos c6] at H
              have c6b0 := eq_true c6
              have c6b1 : decide (0 ≤ (ji5)) = true := decide_eq_true c6
              clear c6
              obtain ⟨ji7, hji7⟩ : ∃ j_ : Int, (shl .u64 (IntKind.u64.wrap (rd l0 x5_1)) (ji5)) = j_ := ⟨_, rfl⟩
              try simp only [hji7] at hji5
              replace H : (dyn_word.l0 k1 l0 (Go.bits .or .u64 x3_1 (ji7)) (wrap64 (x5_1 + 1))) = some r := by first | (rw [hji7] at H; exact H) | (simp only [hji7] at H ⊢; exact H)
              have hji7_ : (IntKind.u64.wrap ((IntKind.u64.wrap (rd l0 x5_1)) * 2 ^ min (ji5).toNat 64)) = ji7 := hji7
              have hji7z : (ji5) ≤ 64 → (IntKind.u64.wrap ((IntKind.u64.wrap (rd l0 x5_1)) * 2 ^ (ji5).toNat)) = ji7 := shl_small hji7
              have H' := Aside0.mk H
              clear H
              have p108 : 0 ≤ (x5_1 : Int) := of_decide_eq_true (by first | (with_reducible assumption) | assumption)
              have q108 : x5_1 < (l0.length : Int) := of_decide_eq_true (by first | (with_reducible assumption) | assumption)
              obtain ⟨ad108, e108, hx108_0⟩ := Kd.at_int HR0.out x5_1 p108 q108
              cases e108
              replace p108 := eq_true p108
              replace q108 := eq_true q108
              go_wp2
              go_roundg k1
              case measure => have := HK1.out; omega
              case rel => exact ⟨(Go.bits .or .u64 x3_1 (ji7)), (wrap64 (x5_1 + 1)), (by first | rfl | (simp; done) | (simp only [← hji7] <;> (first | rfl | simp)) | (simp [*]; done)), (by first | rfl | (simp; done) | (simp [*]; done)), H', ⟨by have := HK1.out; omega⟩, by repeat (first | exact Drawn0.refl _ | apply Drawn0.step)⟩
            · rw [if_neg c6] at H
              exact absurd H (by simp)
          · rw [if_neg c4] at H
            exact absurd H (by simp)
        · rw [if_neg c3] at H
          exact absurd H (by simp)
      · rw [if_neg c2] at H
        have c2b0 : decide (x5_1 < 8) = false := decide_eq_false c2
        clear c2
        obtain rfl := Option.some.inj H
        go_wp2
        go_ret
        exact ⟨by first | rfl | (simp; done) | (simp [*]; done), by repeat (first | exact Drawn0.refl _ | apply Drawn0.step)⟩

/-! ### dyn_field: function 43 (by hand) -/
/-- Which field of a Dyn a tag's value is; 0: none. -/
def dyn_field.j (t : Int) : Nat := if t = 2 then 1 else if t = 3 then 2 else if t = 4 then 3 else if t = 5 then 4 else if t = 6 then 5 else if t = 7 then 6 else if t = 8 then 7 else if t = 10 then 8 else if t = 12 then 9 else if t = 13 then 10 else if t = 14 then 11 else if t = 15 then 12 else if t = 23 then 17 else if t = 25 then 18 else if t = 26 then 19 else if t = 27 then 20 else if t = 28 then 21 else if t = 29 then 13 else if t = 30 then 22 else if t = 35 then 24 else if t = 36 then 23 else if t = 1879047925 then 25 else if t = 1879048176 then 26 else if t = 1879048187 then 27 else if t = 1879048188 then 28 else if t = 1879048189 then 29 else if t = 1879048190 then 30 else if t = 1879048191 then 31 else 0
def dyn_field.to (b : Nat) (j : Nat) : Option Addr := if j = 0 then none else some ⟨b, j, none⟩
set_option maxHeartbeats 8000000 in
set_option maxRecDepth 100000 in
theorem dyn_field.calls (b : Nat) (t : Int) (w : World) : Calls Try.prog 43 #[.pointer (some ⟨b, 0, none⟩), .int .u64 t] w fun e w' => e = .returned (.pointer (dyn_field.to b (dyn_field.j t))) ∧ w' = w := by
  have hu43 := Try.underlying43
  by_cases h0 : t = 2
  · subst h0
    go_enter Try.func43, Try.ntmps43
    go_wp2
    go_ret
    exact ⟨by first | rfl | simp, rfl⟩
  have z0 : (t == 2) = false := beq_eq_false_iff_ne.mpr h0
  by_cases h1 : t = 3
  · subst h1
    go_enter Try.func43, Try.ntmps43
    go_wp2
    go_ret
    exact ⟨by first | rfl | simp, rfl⟩
  have z1 : (t == 3) = false := beq_eq_false_iff_ne.mpr h1
  by_cases h2 : t = 4
  · subst h2
    go_enter Try.func43, Try.ntmps43
    go_wp2
    go_ret
    exact ⟨by first | rfl | simp, rfl⟩
  have z2 : (t == 4) = false := beq_eq_false_iff_ne.mpr h2
  by_cases h3 : t = 5
  · subst h3
    go_enter Try.func43, Try.ntmps43
    go_wp2
    go_ret
    exact ⟨by first | rfl | simp, rfl⟩
  have z3 : (t == 5) = false := beq_eq_false_iff_ne.mpr h3
  by_cases h4 : t = 6
  · subst h4
    go_enter Try.func43, Try.ntmps43
    go_wp2
    go_ret
    exact ⟨by first | rfl | simp, rfl⟩
  have z4 : (t == 6) = false := beq_eq_false_iff_ne.mpr h4
  by_cases h5 : t = 7
  · subst h5
    go_enter Try.func43, Try.ntmps43
    go_wp2
    go_ret
    exact ⟨by first | rfl | simp, rfl⟩
  have z5 : (t == 7) = false := beq_eq_false_iff_ne.mpr h5
  by_cases h6 : t = 8
  · subst h6
    go_enter Try.func43, Try.ntmps43
    go_wp2
    go_ret
    exact ⟨by first | rfl | simp, rfl⟩
  have z6 : (t == 8) = false := beq_eq_false_iff_ne.mpr h6
  by_cases h7 : t = 10
  · subst h7
    go_enter Try.func43, Try.ntmps43
    go_wp2
    go_ret
    exact ⟨by first | rfl | simp, rfl⟩
  have z7 : (t == 10) = false := beq_eq_false_iff_ne.mpr h7
  by_cases h8 : t = 12
  · subst h8
    go_enter Try.func43, Try.ntmps43
    go_wp2
    go_ret
    exact ⟨by first | rfl | simp, rfl⟩
  have z8 : (t == 12) = false := beq_eq_false_iff_ne.mpr h8
  by_cases h9 : t = 13
  · subst h9
    go_enter Try.func43, Try.ntmps43
    go_wp2
    go_ret
    exact ⟨by first | rfl | simp, rfl⟩
  have z9 : (t == 13) = false := beq_eq_false_iff_ne.mpr h9
  by_cases h10 : t = 14
  · subst h10
    go_enter Try.func43, Try.ntmps43
    go_wp2
    go_ret
    exact ⟨by first | rfl | simp, rfl⟩
  have z10 : (t == 14) = false := beq_eq_false_iff_ne.mpr h10
  by_cases h11 : t = 15
  · subst h11
    go_enter Try.func43, Try.ntmps43
    go_wp2
    go_ret
    exact ⟨by first | rfl | simp, rfl⟩
  have z11 : (t == 15) = false := beq_eq_false_iff_ne.mpr h11
  by_cases h12 : t = 23
  · subst h12
    go_enter Try.func43, Try.ntmps43
    go_wp2
    go_ret
    exact ⟨by first | rfl | simp, rfl⟩
  have z12 : (t == 23) = false := beq_eq_false_iff_ne.mpr h12
  by_cases h13 : t = 25
  · subst h13
    go_enter Try.func43, Try.ntmps43
    go_wp2
    go_ret
    exact ⟨by first | rfl | simp, rfl⟩
  have z13 : (t == 25) = false := beq_eq_false_iff_ne.mpr h13
  by_cases h14 : t = 26
  · subst h14
    go_enter Try.func43, Try.ntmps43
    go_wp2
    go_ret
    exact ⟨by first | rfl | simp, rfl⟩
  have z14 : (t == 26) = false := beq_eq_false_iff_ne.mpr h14
  by_cases h15 : t = 27
  · subst h15
    go_enter Try.func43, Try.ntmps43
    go_wp2
    go_ret
    exact ⟨by first | rfl | simp, rfl⟩
  have z15 : (t == 27) = false := beq_eq_false_iff_ne.mpr h15
  by_cases h16 : t = 28
  · subst h16
    go_enter Try.func43, Try.ntmps43
    go_wp2
    go_ret
    exact ⟨by first | rfl | simp, rfl⟩
  have z16 : (t == 28) = false := beq_eq_false_iff_ne.mpr h16
  by_cases h17 : t = 29
  · subst h17
    go_enter Try.func43, Try.ntmps43
    go_wp2
    go_ret
    exact ⟨by first | rfl | simp, rfl⟩
  have z17 : (t == 29) = false := beq_eq_false_iff_ne.mpr h17
  by_cases h18 : t = 30
  · subst h18
    go_enter Try.func43, Try.ntmps43
    go_wp2
    go_ret
    exact ⟨by first | rfl | simp, rfl⟩
  have z18 : (t == 30) = false := beq_eq_false_iff_ne.mpr h18
  by_cases h19 : t = 35
  · subst h19
    go_enter Try.func43, Try.ntmps43
    go_wp2
    go_ret
    exact ⟨by first | rfl | simp, rfl⟩
  have z19 : (t == 35) = false := beq_eq_false_iff_ne.mpr h19
  by_cases h20 : t = 36
  · subst h20
    go_enter Try.func43, Try.ntmps43
    go_wp2
    go_ret
    exact ⟨by first | rfl | simp, rfl⟩
  have z20 : (t == 36) = false := beq_eq_false_iff_ne.mpr h20
  by_cases h21 : t = 1879047925
  · subst h21
    go_enter Try.func43, Try.ntmps43
    go_wp2
    go_ret
    exact ⟨by first | rfl | simp, rfl⟩
  have z21 : (t == 1879047925) = false := beq_eq_false_iff_ne.mpr h21
  by_cases h22 : t = 1879048176
  · subst h22
    go_enter Try.func43, Try.ntmps43
    go_wp2
    go_ret
    exact ⟨by first | rfl | simp, rfl⟩
  have z22 : (t == 1879048176) = false := beq_eq_false_iff_ne.mpr h22
  by_cases h23 : t = 1879048187
  · subst h23
    go_enter Try.func43, Try.ntmps43
    go_wp2
    go_ret
    exact ⟨by first | rfl | simp, rfl⟩
  have z23 : (t == 1879048187) = false := beq_eq_false_iff_ne.mpr h23
  by_cases h24 : t = 1879048188
  · subst h24
    go_enter Try.func43, Try.ntmps43
    go_wp2
    go_ret
    exact ⟨by first | rfl | simp, rfl⟩
  have z24 : (t == 1879048188) = false := beq_eq_false_iff_ne.mpr h24
  by_cases h25 : t = 1879048189
  · subst h25
    go_enter Try.func43, Try.ntmps43
    go_wp2
    go_ret
    exact ⟨by first | rfl | simp, rfl⟩
  have z25 : (t == 1879048189) = false := beq_eq_false_iff_ne.mpr h25
  by_cases h26 : t = 1879048190
  · subst h26
    go_enter Try.func43, Try.ntmps43
    go_wp2
    go_ret
    exact ⟨by first | rfl | simp, rfl⟩
  have z26 : (t == 1879048190) = false := beq_eq_false_iff_ne.mpr h26
  by_cases h27 : t = 1879048191
  · subst h27
    go_enter Try.func43, Try.ntmps43
    go_wp2
    go_ret
    exact ⟨by first | rfl | simp, rfl⟩
  have z27 : (t == 1879048191) = false := beq_eq_false_iff_ne.mpr h27
  have hj : dyn_field.j t = 0 := by unfold dyn_field.j; rw [if_neg h0, if_neg h1, if_neg h2, if_neg h3, if_neg h4, if_neg h5, if_neg h6, if_neg h7, if_neg h8, if_neg h9, if_neg h10, if_neg h11, if_neg h12, if_neg h13, if_neg h14, if_neg h15, if_neg h16, if_neg h17, if_neg h18, if_neg h19, if_neg h20, if_neg h21, if_neg h22, if_neg h23, if_neg h24, if_neg h25, if_neg h26, if_neg h27]
  rw [hj]
  go_enter Try.func43, Try.ntmps43
  go_wp2
  go_ret
  exact ⟨by first | rfl | simp, rfl⟩

/-! ### dyn_known: function 42 (by hand) -/
/-- Is a tag one of the table's? -/
def dyn_known.b (t : Int) : Bool := if t = 9 then true else if t = 11 then true else if t = 16 then true else if t = 20 then true else if t = 22 then true else if t = 24 then true else if t = 37 then true else decide (dyn_field.j t ≠ 0)
set_option maxHeartbeats 8000000 in
set_option maxRecDepth 100000 in
theorem dyn_known.calls (t : Int) (w : World) : Calls Try.prog 42 #[.int .u64 t] w fun e w' => e = .returned (.bool (dyn_known.b t)) ∧ Below w.heap.size w w' := by
  have eF : ∀ args w, (callFunc 43 args).run Try.prog w = .ok (.enter 43 args) w := enters_of Try.func43 (by kernel_rfl) rfl
  have HB := Aside0.mk (Below.refl w.heap.size w)
  by_cases h0 : t = 9
  · subst h0
    go_enter Try.func42, Try.ntmps42
    go_wp2
    go_ret
    exact ⟨by first | rfl | simp, HB.out.alloc (Nat.le_refl _) _⟩
  have z0 : (t == 9) = false := beq_eq_false_iff_ne.mpr h0
  by_cases h1 : t = 11
  · subst h1
    go_enter Try.func42, Try.ntmps42
    go_wp2
    go_ret
    exact ⟨by first | rfl | simp, HB.out.alloc (Nat.le_refl _) _⟩
  have z1 : (t == 11) = false := beq_eq_false_iff_ne.mpr h1
  by_cases h2 : t = 16
  · subst h2
    go_enter Try.func42, Try.ntmps42
    go_wp2
    go_ret
    exact ⟨by first | rfl | simp, HB.out.alloc (Nat.le_refl _) _⟩
  have z2 : (t == 16) = false := beq_eq_false_iff_ne.mpr h2
  by_cases h3 : t = 20
  · subst h3
    go_enter Try.func42, Try.ntmps42
    go_wp2
    go_ret
    exact ⟨by first | rfl | simp, HB.out.alloc (Nat.le_refl _) _⟩
  have z3 : (t == 20) = false := beq_eq_false_iff_ne.mpr h3
  by_cases h4 : t = 22
  · subst h4
    go_enter Try.func42, Try.ntmps42
    go_wp2
    go_ret
    exact ⟨by first | rfl | simp, HB.out.alloc (Nat.le_refl _) _⟩
  have z4 : (t == 22) = false := beq_eq_false_iff_ne.mpr h4
  by_cases h5 : t = 24
  · subst h5
    go_enter Try.func42, Try.ntmps42
    go_wp2
    go_ret
    exact ⟨by first | rfl | simp, HB.out.alloc (Nat.le_refl _) _⟩
  have z5 : (t == 24) = false := beq_eq_false_iff_ne.mpr h5
  by_cases h6 : t = 37
  · subst h6
    go_enter Try.func42, Try.ntmps42
    go_wp2
    go_ret
    exact ⟨by first | rfl | simp, HB.out.alloc (Nat.le_refl _) _⟩
  have z6 : (t == 37) = false := beq_eq_false_iff_ne.mpr h6
  have hb0 : dyn_known.b t = decide (dyn_field.j t ≠ 0) := by unfold dyn_known.b; rw [if_neg h0, if_neg h1, if_neg h2, if_neg h3, if_neg h4, if_neg h5, if_neg h6]
  by_cases hj : dyn_field.j t = 0
  · have hb : dyn_known.b t = false := by rw [hb0, hj]; rfl
    have hto : dyn_field.to w.heap.size (dyn_field.j t) = none := if_pos hj
    go_enter Try.func42, Try.ntmps42
    go_wp2_with (first | ((go_at_fn 43; refine (dyn_field.calls w.heap.size t _).mono ?_; rintro e w1 ⟨rfl, rfl⟩; rw [hto])))
    go_ret
    exact ⟨by rw [hb]; first | rfl | simp, HB.out.alloc (Nat.le_refl _) _⟩
  · have hb : dyn_known.b t = true := hb0.trans (decide_eq_true hj)
    have hto : dyn_field.to w.heap.size (dyn_field.j t) = some ⟨w.heap.size, dyn_field.j t, none⟩ := if_neg hj
    go_enter Try.func42, Try.ntmps42
    go_wp2_with (first | ((go_at_fn 43; refine (dyn_field.calls w.heap.size t _).mono ?_; rintro e w1 ⟨rfl, rfl⟩; rw [hto])))
    go_ret
    exact ⟨by rw [hb]; first | rfl | simp, HB.out.alloc (Nat.le_refl _) _⟩

end Go.Proofs.Ytjbndfogjmfbhaa.PDynOrders
