/- Printed by this session's own program (wip/tools: a turn of the kit's print) out of the translation: each Go function that the law reaches as a Lean function, and that the machine's call comes to what that function tells; no condition but what each theorem names. -/
import Derived.Test.YtjohdgejjnbddaaDoorPHeadNotesx0
import Derived.Test.YtjohdgejjnbddaaDoorPHeadNotesx1
import Derived.Test.YtjohdgejjnbddaaDoorPHeadNotesx2
import Derived.Test.YtjohdgejjnbddaaDoorPHeadNotesx5
namespace Go.Proofs.YtjohdgejjnbddaaDoor.PHeadNotes
open Go.RowKit Go.Proofs.YtjohdgejjnbddaaDoorW.PrintWords Go.Proofs.YtjohdgejjnbddaaDoorW.PrintLast Go.Proofs.YtjohdgejjnbddaaDoorW.PrintMore Go.Proofs.YtjohdgejjnbddaaDoorX
attribute [local go_sem] max2_int min2_int max_two min_two max_three min_three max_four min_four   -- for this text's walks alone
set_option linter.unusedVariables false
set_option linter.unusedSimpArgs false

/-! ### span_Join: function 64 -/
mutual
def span_Join.l0 : Nat → Int → List Int → List Int → Int → Int → Option (List Int × Option Int)
 | 0, _, _, _, _, _ => none
 | k + 1, x0, x6, x13, x14, x15 => if x15 < x14 then (if 0 ≤ x15 then (if x15 < (x13.length : Int) then ((bits_Len64.f (rd x13 x15)).bind fun t143 => (if t143 > (wrap64 (8 * x0)) then (some (([] : List Int), some 28)) else (span_Join.l1 k x0 x6 (rd x13 x15) x13 x14 x15 x0 0))) else (none)) else (none)) else (some (x6, none))
def span_Join.l1 : Nat → Int → List Int → Int → List Int → Int → Int → Int → Int → Option (List Int × Option Int)
 | 0, _, _, _, _, _, _, _, _ => none
 | k + 1, x0, x6, x8, x13, x14, x15, x25, x26 => if x26 < x25 then (if x6.length < 140737488355328 then (span_Join.l1 k x0 (x6 ++ [(x8) % 256]) (x8 / 256) x13 x14 x15 x25 (wrap64 (x26 + 1))) else (none)) else (span_Join.l0 k x0 x6 x13 x14 (wrap64 (x15 + 1)))
end
def span_Join.f (k : Nat) (a0 : Int) (l1 : List Int) : Option (List Int × Option Int) := (span_wide.f a0).bind fun t141 => (if t141 = true then (span_Join.l0 k a0 ([] : List Int) l1 (l1.length : Int) 0) else (some (([] : List Int), some 1)))
theorem span_Join.mono_l : ∀ k, (∀ y0 y1 y2 y3 y4, LeO (span_Join.l0 k y0 y1 y2 y3 y4) (span_Join.l0 (k + 1) y0 y1 y2 y3 y4)) ∧ (∀ y0 y1 y2 y3 y4 y5 y6 y7, LeO (span_Join.l1 k y0 y1 y2 y3 y4 y5 y6 y7) (span_Join.l1 (k + 1) y0 y1 y2 y3 y4 y5 y6 y7))
 | 0 => ⟨fun _ _ _ _ _ r h => by simp [span_Join.l0] at h, fun _ _ _ _ _ _ _ _ r h => by simp [span_Join.l1] at h⟩
 | k + 1 => by
  obtain ⟨ih0, ih1⟩ := span_Join.mono_l k; refine ⟨?_, ?_⟩
  ·intro y0 y1 y2 y3 y4
   unfold span_Join.l0
   repeat' first
   | (with_reducible exact ih0 _ _ _ _ _)
   | (with_reducible exact ih1 _ _ _ _ _ _ _ _)
   | (with_reducible exact LeO.refl _)
   | (with_reducible exact LeO.none _)
   | (with_reducible refine LeO.ite ?_ ?_)
   | (with_reducible refine LeO.bind ?_ (fun _ => ?_))
   | exact ih0 _ _ _ _ _
   | exact ih1 _ _ _ _ _ _ _ _
   | exact LeO.none _
   | refine LeO.ite ?_ ?_
   | refine LeO.bind ?_ (fun _ => ?_)
  ·intro y0 y1 y2 y3 y4 y5 y6 y7
   unfold span_Join.l1
   repeat' first
   | (with_reducible exact ih0 _ _ _ _ _)
   | (with_reducible exact ih1 _ _ _ _ _ _ _ _)
   | (with_reducible exact LeO.refl _)
   | (with_reducible exact LeO.none _)
   | (with_reducible refine LeO.ite ?_ ?_)
   | (with_reducible refine LeO.bind ?_ (fun _ => ?_))
   | exact ih0 _ _ _ _ _
   | exact ih1 _ _ _ _ _ _ _ _
   | exact LeO.none _
   | refine LeO.ite ?_ ?_
   | refine LeO.bind ?_ (fun _ => ?_)
theorem span_Join.mono : ∀ a0 a1 k, LeO (span_Join.f k a0 a1) (span_Join.f (k + 1) a0 a1) := by
 intro a0 a1 k; obtain ⟨ih0, ih1⟩ := span_Join.mono_l k
 unfold span_Join.f
 repeat' first
   | (with_reducible exact ih0 _ _ _ _ _)
   | (with_reducible exact ih1 _ _ _ _ _ _ _ _)
   | (with_reducible exact LeO.refl _)
   | (with_reducible exact LeO.none _)
   | (with_reducible refine LeO.ite ?_ ?_)
   | (with_reducible refine LeO.bind ?_ (fun _ => ?_))
   | exact ih0 _ _ _ _ _
   | exact ih1 _ _ _ _ _ _ _ _
   | exact LeO.none _
   | refine LeO.ite ?_ ?_
   | refine LeO.bind ?_ (fun _ => ?_)
set_option maxHeartbeats 8000000 in
set_option maxRecDepth 100000 in
theorem span_Join.calls (k : Nat) (a0 : Int) (A1 : Option Addr) (c1 : Nat) (l1 : List Int) (r1 : List Int) (r2 : Option Int) (w : World) (hr1 : Kd.C (Kd.int .u64) w A1 l1.length l1) (hc1 : l1.length ≤ c1) (h : span_Join.f k a0 l1 = some (r1, r2)) :
  Calls Tryd.prog 64 #[.int .i64 a0, .slice A1 l1.length c1] w fun e w' => ∃ v0_ : Value, e = .returned (.tuple #[v0_, errW r2]) ∧ Kd.R (Kd.int .u8) 5 w' w.heap.size (fun _ => True) v0_ r1 ∧ Below w.heap.size w w' := by
 have hu29 := Tryd.underlying29; have hu32 := Tryd.underlying32; have HR1 := aM hr1; have HC1 := aM hc1; clear hr1 hc1; have HB := aM (Below.refl w.heap.size w); have H : ((span_wide.f a0).bind fun t141 => (if t141 = true then (span_Join.l0 k a0 ([] : List Int) l1 (l1.length : Int) 0) else (some (([] : List Int), some 1)))) = some (r1, r2) := h; clear h; replace H := Option.bind_eq_some_iff.mp H; obtain ⟨t141, A30, H⟩ := H; replace H : (if t141 = true then (span_Join.l0 k a0 ([] : List Int) l1 (l1.length : Int) 0) else (some (([] : List Int), some 1))) = some (r1, r2) := H; have A3 := aM A30; clear A30
 by_cases c4 : t141 = true
 ·subst c4
  have H1 : (span_Join.l0 k a0 ([] : List Int) l1 (l1.length : Int) 0) = some (r1, r2) := by rw [if_pos rfl] at H; exact H
  clear H; have H := H1; clear H1; have H' := aM H; clear H
  go_enter Tryd.func64, Tryd.ntmps64
  go_wp2_with (first | ((with_reducible refine gate_callee (f := 88) rfl ?_); refine goesL_ (some 10) rfl rfl Tryd.func88 (by kernel_rfl) rfl #[.int .i64 a0] rfl (by (try simp only [List.map_toArray, List.map_cons, List.map_nil]); first | done | rfl | (simp only [List.length_drop, List.length_take]; rfl)) ?_; (with_reducible refine (span_wide.calls a0 true _ A3.out).mono ?_); rintro e w' ⟨rfl, ⟨nd, rfl⟩⟩; refine ⟨_, rfl, ?_⟩))
  go_loopg [6, 15] k (fun kq v6 v15 w' => ∃ (x6_1 : List Int) (x15_1 : Int), v15 = .int .i64 x15_1 ∧ Aside0 (span_Join.l0 kq a0 x6_1 l1 (l1.length : Int) x15_1 = some (r1, r2)) ∧ Aside0 (kq ≤ k) ∧ Aside0 (Kd.R (Kd.int .u8) 5 w' w.heap.size (fun _ => True) v6 x6_1) ∧ Aside0 (Below w.heap.size w w'))
  case atStart => exact ⟨(([] : List Int)), (0), (by first | rfl | (simp; done) | (simp [*]; done)), H', ⟨Nat.le_refl _⟩, ⟨by first | exact Kd.R_nil _ _ _ _ _ | exact Kd.N_nil _ _ _ _ _ | exact Kd.V_nil _ _ _ _ _ | exact Kd.Q_nil _ _ _ _ _ | exact Kd.S_nil _ _ _ _ _⟩, ⟨by repeat (first | (with_reducible first | exact HB.out | apply bA | apply bN | apply bD) | exact HB.out)⟩⟩
  case round =>
   clear H'
   try clear c1
   try clear p2
   try clear c4
   obtain ⟨x6_1, x15_1, rfl, HA, HK1, HO_6, HB⟩ := hrel
   cases gk with
   | zero => exact absurd HA.out (by simp [span_Join.l0])
   | succ k1 =>
    have H := HA.out; clear HA; simp only [span_Join.l0] at H
    by_cases c5 : x15_1 < (l1.length : Int)
    ·rw [if_pos c5] at H; have c5b0 : decide (x15_1 < (l1.length : Int)) = true := decide_eq_true c5; clear c5
     by_cases c6 : 0 ≤ x15_1
     ·rw [if_pos c6] at H; have c6b0 : decide (0 ≤ x15_1) = true := decide_eq_true c6; clear c6
      by_cases c7 : x15_1 < (l1.length : Int)
      ·rw [if_pos c7] at H; have c7b0 : decide (x15_1 < (l1.length : Int)) = true := decide_eq_true c7; clear c7; replace H := Option.bind_eq_some_iff.mp H; obtain ⟨t143, A80, H⟩ := H; replace H : (if t143 > (wrap64 (8 * a0)) then (some (([] : List Int), some 28)) else (span_Join.l1 k1 a0 x6_1 (rd l1 x15_1) l1 (l1.length : Int) x15_1 a0 0)) = some (r1, r2) := H; have A8 := aM A80; clear A80
       by_cases c9 : t143 > (wrap64 (8 * a0))
       ·rw [if_pos c9] at H; have c9b0 : decide ((wrap64 (8 * a0)) < t143) = true := decide_eq_true c9; clear c9; simp only [Option.some.injEq, Prod.mk.injEq] at H; obtain ⟨rfl, rfl⟩ := H; have p142 : 0 ≤ (x15_1 : Int) := of_decide_eq_true (by first | (with_reducible assumption) | assumption); have q142 : x15_1 < (l1.length : Int) := of_decide_eq_true (by first | (with_reducible assumption) | assumption); obtain ⟨ad142, e142, hx142_0⟩ := Kd.at_int HR1.out x15_1 p142 q142
        cases e142
        replace hx142_0 := (HB.out.cell (World.block_lt_of_cell? w _ hx142_0)).trans hx142_0; replace p142 := eq_true p142; replace q142 := eq_true q142
        go_wp2_with (first | ((with_reducible refine gate_callee (f := 94) rfl ?_); refine goesL_ (some 20) rfl rfl Tryd.func94 (by kernel_rfl) rfl #[.int .u64 (rd l1 x15_1)] rfl (by (try simp only [List.map_toArray, List.map_cons, List.map_nil]); first | done | rfl | (simp only [List.length_drop, List.length_take]; rfl)) ?_; (with_reducible refine (bits_Len64.calls (rd l1 x15_1) t143 _ A8.out).mono ?_); rintro e w' ⟨rfl, ⟨nd, rfl⟩⟩; refine ⟨_, rfl, ?_⟩))
        go_ret2
        exact ⟨_, by first | rfl | (simp [errW_none, errW_some] <;> rfl) | (simp [*, errW_none, errW_some] <;> rfl), by first | exact Kd.R_nil _ _ _ _ _ | exact Kd.N_nil _ _ _ _ _ | exact Kd.V_nil _ _ _ _ _ | exact Kd.Q_nil _ _ _ _ _ | exact Kd.S_nil _ _ _ _ _, by repeat (first | (with_reducible first | exact HB.out | apply bA | apply bN | apply bD) | exact HB.out)⟩
       ·rw [if_neg c9] at H; have c9b0 : decide ((wrap64 (8 * a0)) < t143) = false := decide_eq_false c9; clear c9; have H' := aM H; clear H; have p142 : 0 ≤ (x15_1 : Int) := of_decide_eq_true (by first | (with_reducible assumption) | assumption); have q142 : x15_1 < (l1.length : Int) := of_decide_eq_true (by first | (with_reducible assumption) | assumption); obtain ⟨ad142, e142, hx142_0⟩ := Kd.at_int HR1.out x15_1 p142 q142
        cases e142
        replace hx142_0 := (HB.out.cell (World.block_lt_of_cell? w _ hx142_0)).trans hx142_0; replace p142 := eq_true p142; replace q142 := eq_true q142
        go_wp2_with (first | ((with_reducible refine gate_callee (f := 94) rfl ?_); refine goesL_ (some 20) rfl rfl Tryd.func94 (by kernel_rfl) rfl #[.int .u64 (rd l1 x15_1)] rfl (by (try simp only [List.map_toArray, List.map_cons, List.map_nil]); first | done | rfl | (simp only [List.length_drop, List.length_take]; rfl)) ?_; (with_reducible refine (bits_Len64.calls (rd l1 x15_1) t143 _ A8.out).mono ?_); rintro e w' ⟨rfl, ⟨nd, rfl⟩⟩; refine ⟨_, rfl, ?_⟩))
        go_loopg [6, 8, 26] k1 (fun kq v6 v8 v26 w' => ∃ (x6_2 : List Int) (x8_2 : Int) (x26_2 : Int), v8 = .int .u64 x8_2 ∧ v26 = .int .i64 x26_2 ∧ Aside0 (span_Join.l1 kq a0 x6_2 x8_2 l1 (l1.length : Int) x15_1 a0 x26_2 = some (r1, r2)) ∧ Aside0 (kq ≤ k1) ∧ Aside0 (Kd.R (Kd.int .u8) 5 w' w.heap.size (fun _ => True) v6 x6_2) ∧ Aside0 (Below w.heap.size w w'))
        case atStart => exact ⟨(x6_1), (rd l1 x15_1), (0), (by first | rfl | (simp; done) | (simp [*]; done)), (by first | rfl | (simp; done) | (simp [*]; done)), H', ⟨Nat.le_refl _⟩, ⟨by (with_reducible repeat (first | apply rA | apply rN | apply rD)); exact HO_6.out⟩, ⟨by repeat (first | (with_reducible first | exact HB.out | apply bA | apply bN | apply bD) | exact HB.out)⟩⟩
        case round =>
         clear H'
         try clear c1
         try clear p1
         try clear q1
         try clear hx1
         try clear p2
         try clear c4
         try clear c5
         try clear c5b0
         try clear c6
         try clear c6b0
         try clear p6
         try clear c7
         try clear c7b0
         try clear c8
         try clear c9
         try clear c9b0
         try clear hx142_0
         try clear p142
         try clear p2
         try clear q142
         obtain ⟨x6_2, x8_2, x26_2, rfl, rfl, HA, HK2, HO_6, HB⟩ := hrel
         cases gk with
         | zero => exact absurd HA.out (by simp [span_Join.l1])
         | succ k2 =>
          have H := HA.out; clear HA; simp only [span_Join.l1] at H
          by_cases c10 : x26_2 < a0
          ·rw [if_pos c10] at H; have c10b0 : decide (x26_2 < a0) = true := decide_eq_true c10; clear c10
           by_cases c11 : x6_2.length < 140737488355328
           ·rw [if_pos c11] at H; have LMc11 := aM c11; clear c11; obtain ⟨y144, hy144⟩ : ∃ y_ : List Int, y_ = (x6_2 ++ [(x8_2) % 256]) := ⟨_, rfl⟩
            replace H : (span_Join.l1 k2 a0 y144 (x8_2 / 256) l1 (l1.length : Int) x15_1 a0 (wrap64 (x26_2 + 1))) = some (r1, r2) := by first | (rw [hy144]; with_reducible exact H) | (have H2_ := (Option.bind_some _ _).symm.trans H; rw [hy144]; with_reducible exact H2_) | (have H2_ := (Option.bind_some _ _).symm.trans H; with_reducible exact H2_) | with_reducible exact H | (rw [hy144]; exact H) | exact H
            have Ny144 := aM hy144; clear hy144; have H' := aM H; clear H
            go_wp2_with (first | ((with_reducible refine gate_builtin (b := .append) (xs := #[.tmp 28, .tmp 31]) rfl ?_); at_builtin; refine Kd.R_append (Kd.int .u8) (w0 := w) w.heap.size rfl (.tmp 28) (.tmp 31) 22 5 (.int .u8 0) 1 rfl Tryd.underlying22 info5 rfl (by decide) (by omega) u6 x6_2 ((x8_2) % 256) [.int .u8 ((x8_2) % 256)] (fun _ => True) (fun _ => False) rfl rfl ?aP (fun _ hk => hk.elim) ?aF ?aO ?aB ?aS ?aL ?_; (case aP => exact rfl); (case aB => exact (by repeat (first | (with_reducible first | exact HB.out | apply bA | apply bN | apply bD) | exact HB.out))); (case aF => exact (fun _ _ => trivial)); (case aO => exact (by (with_reducible repeat (first | apply rA | apply rN | apply rD)); exact HO_6.out)); (case aS => exact (below_size (by repeat (first | (with_reducible first | exact HB.out | apply bA | apply bN | apply bD) | exact HB.out)))); (case aL => have := LMc11.out; omega); intro v145 w12 ho hb hg hat; rw [← Ny144.out] at ho; have n0_ := aM (hb); have n1_ := aM (ho); clear HB; clear HO_6; have HB := n0_; have HO146 := n1_; clear n0_ n1_; clear ho hb hg hat))
            go_roundg k2
            case measure => have := HK1.out; have := HK2.out; omega
            case rel => exact ⟨(y144), (x8_2 / 256), (wrap64 (x26_2 + 1)), (by first | rfl | (simp; done) | (simp [*]; done)), (by first | rfl | (simp; done) | (simp [*]; done)), H', ⟨by have := HK1.out; have := HK2.out; omega⟩, ⟨by (with_reducible repeat (first | apply rA | apply rN | apply rD)); exact HO146.out⟩, ⟨by repeat (first | (with_reducible first | exact HB.out | apply bA | apply bN | apply bD) | exact HB.out)⟩⟩
           ·rw [if_neg c11] at H; exact absurd H (by simp)
          ·rw [if_neg c10] at H; have c10b0 : decide (x26_2 < a0) = false := decide_eq_false c10; clear c10; have H' := aM H; clear H
           go_wp2
           go_roundg k2
           case measure => have := HK1.out; have := HK2.out; omega
           case rel => exact ⟨(x6_2), (wrap64 (x15_1 + 1)), (by first | rfl | (simp; done) | (simp [*]; done)), H', ⟨by have := HK1.out; have := HK2.out; omega⟩, ⟨by (with_reducible repeat (first | apply rA | apply rN | apply rD)); exact HO_6.out⟩, ⟨by repeat (first | (with_reducible first | exact HB.out | apply bA | apply bN | apply bD) | exact HB.out)⟩⟩
      ·rw [if_neg c7] at H; exact absurd H (by simp)
     ·rw [if_neg c6] at H; exact absurd H (by simp)
    ·rw [if_neg c5] at H; have c5b0 : decide (x15_1 < (l1.length : Int)) = false := decide_eq_false c5; clear c5; simp only [Option.some.injEq, Prod.mk.injEq] at H; obtain ⟨rfl, rfl⟩ := H
     go_wp2
     go_ret2
     exact ⟨_, by first | rfl | (simp [errW_none, errW_some] <;> rfl) | (simp [*, errW_none, errW_some] <;> rfl), by (with_reducible repeat (first | apply rA | apply rN | apply rD)); exact HO_6.out, by repeat (first | (with_reducible first | exact HB.out | apply bA | apply bN | apply bD) | exact HB.out)⟩
 ·replace c4 := Bool.eq_false_iff.mpr c4; subst c4
  have H1 : (some (([] : List Int), some 1)) = some (r1, r2) := by rw [if_neg (show ¬ (false = true) by decide)] at H; exact H
  clear H; have H := H1; clear H1; simp only [Option.some.injEq, Prod.mk.injEq] at H; obtain ⟨rfl, rfl⟩ := H
  go_enter Tryd.func64, Tryd.ntmps64
  go_wp2_with (first | ((with_reducible refine gate_callee (f := 88) rfl ?_); refine goesL_ (some 10) rfl rfl Tryd.func88 (by kernel_rfl) rfl #[.int .i64 a0] rfl (by (try simp only [List.map_toArray, List.map_cons, List.map_nil]); first | done | rfl | (simp only [List.length_drop, List.length_take]; rfl)) ?_; (with_reducible refine (span_wide.calls a0 false _ A3.out).mono ?_); rintro e w' ⟨rfl, ⟨nd, rfl⟩⟩; refine ⟨_, rfl, ?_⟩))
  go_ret2
  exact ⟨_, by first | rfl | (simp [errW_none, errW_some] <;> rfl) | (simp [*, errW_none, errW_some] <;> rfl), by first | exact Kd.R_nil _ _ _ _ _ | exact Kd.N_nil _ _ _ _ _ | exact Kd.V_nil _ _ _ _ _ | exact Kd.Q_nil _ _ _ _ _ | exact Kd.S_nil _ _ _ _ _, by repeat (first | (with_reducible first | exact HB.out | apply bA | apply bN | apply bD) | exact HB.out)⟩

/-! ### head_writer_put: function 41 (by hand) -/
-- (*shackle/head.writer).put: within what calls it, which is walked by hand

/-! ### head_Write: function 16 (by hand) -/
/-! ### (*writer).put and head.Write -/
/-- Numbers of n bytes each behind what was written. -/
def putF (n : Int) (L b : List Int) : Option (List Int) :=
 match span_Join.f 100 n L with
 | some (jb, none) => if b.length + jb.length ≤ 100000 then some (b ++ jb) else none
 | _ => none
def putProgs : List S50 → List Int → Option (List Int)
 | [], b => some b
 | x :: r, b => (putF 4 [x.f0, x.f1] b).bind fun b1 => (putF 8 [x.f2, x.f3, x.f3, x.f4, x.f5, x.f6] b1).bind fun b2 => putProgs r b2
def writeF (ty en : Int) (ps : List S50) : Option (List Int × Option Int) :=
 if (ty = 2 ∨ ty = 3) ∧ 0 < ps.length ∧ ps.length ≤ 16 then
  if ∀ x ∈ ps, (0 ≤ x.f0 ∧ x.f0 < 4294967296) ∧ (0 ≤ x.f1 ∧ x.f1 < 4294967296) then
   (putF 1 [127, 69, 76, 70, 2, 1, 1] []).bind fun b1 => (putF 2 [ty, 62] (b1 ++ List.replicate 9 0)).bind fun b2 => (putF 4 [1] b2).bind fun b3 => (putF 8 [en, 64, 0] b3).bind fun b4 => (putF 4 [0] b4).bind fun b5 =>
    (putF 2 [64, 56, (ps.length : Int), 0, 0, 0] b5).bind fun b6 => (putProgs ps b6).bind fun b7 => some (b7, none)
  else none
 else some ([], some 1)
/-- The writer's variable in memory. -/
structure Wtr (w0 w : World) (gw : Nat) (v : Value) (b : List Int) : Prop where
 at_ : w.heap[gw]? = some (.cells #[v, .nilIface] 95 (0, 0))
 own : Kd.R (Kd.int .u8) 5 w w0.heap.size (fun _ => True) v b
 bel : Below w0.heap.size w0 w
theorem cellOfBlk {w : World} {g t : Nat} {a b : Value} (h : w.heap[g]? = some (.cells #[a, b] t (0, 0))) : w.cell? ⟨g, 0, none⟩ = some a := by simp [World.cell?, h]
theorem cellOfBlk1 {w : World} {g t : Nat} {a b : Value} (h : w.heap[g]? = some (.cells #[a, b] t (0, 0))) : w.cell? ⟨g, 1, none⟩ = some b := by simp [World.cell?, h]
theorem Wtr.below {w0 w w' : World} {gw : Nat} {v : Value} {b : List Int} (h : Wtr w0 w gw v b) (hb : Below w.heap.size w w') : Wtr w0 w' gw v b :=
 ⟨blk_below h.at_ hb, Kd.R_below h.own hb, below_step h.bel hb⟩
theorem Wtr.set {w0 w w1 : World} {gw : Nat} {v v1 : Value} {b b1 : List Int} (h : Wtr w0 w gw v b) (hg : w0.heap.size ≤ gw) (ho : Kd.R (Kd.int .u8) 5 w1 w0.heap.size (fun _ => True) v1 b1) (hb : Below w0.heap.size w0 w1) (hgr : w.grownBy w1 v.ownBlock) : Wtr w0 (w1.setCell ⟨gw, 0, none⟩ v1) gw v1 b1 := by
 have ha : w1.heap[gw]? = some (.cells #[v, .nilIface] 95 (0, 0)) := blk_grown h.at_ hgr (Kd.R_ne h.own h.at_ (by decide)); exact ⟨blk_set ha 0 v1, Kd.R_set ho ha (by decide) 0 v1, below_set hb hg⟩
/-- Blocks of other types than the writer's and its row's stay. -/
def Keeps (w w' : World) : Prop := ∀ (g t : Nat) (cs : Array Value), w.heap[g]? = some (.cells cs t (0, 0)) → t ≠ 95 → t ≠ 5 → w'.heap[g]? = some (.cells cs t (0, 0))
theorem Keeps.refl (w : World) : Keeps w w := fun _ _ _ h _ _ => h
theorem Keeps.below {w w1 w2 : World} (h : Keeps w w1) (hb : Below w1.heap.size w1 w2) : Keeps w w2 := fun g t cs h1 h2 h3 => blk_below (h g t cs h1 h2 h3) hb
theorem Keeps.set {w0 w w1 w2 : World} {gw : Nat} {v v1 : Value} {b : List Int} (h : Keeps w w1) (hW : Wtr w0 w1 gw v b) (hgr : w1.grownBy w2 v.ownBlock) : Keeps w (w2.setCell ⟨gw, 0, none⟩ v1) := fun g t cs h1 h2 h3 => by
 have a := h g t cs h1 h2 h3; exact blk_far (blk_grown a hgr (Kd.R_ne hW.own a (fun e => h3 e.symm))) (p := ⟨gw, 0, none⟩) (blk_ne a hW.at_ h2) v1
set_option maxHeartbeats 8000000 in
set_option maxRecDepth 100000 in
theorem put_at (gw : Nat) (v : Value) (b : List Int) (n : Int) (A : Option Addr) (c : Nat) (L b1 : List Int) (w0 w : World) (hg : w0.heap.size ≤ gw) (hW : Wtr w0 w gw v b) (hL : Kd.C (Kd.int .u64) w A L.length L) (hc : L.length ≤ c) (hp : putF n L b = some b1) :
  Calls Tryd.prog 41 #[.pointer (some ⟨gw, 0, none⟩), .int .i64 n, .slice A L.length c] w fun e w' => e = .returned (.tuple #[]) ∧ (∃ v', Wtr w0 w' gw v' b1) ∧ Keeps w w' := by
 have hu95 := Tryd.underlying95; have hu29 := Tryd.underlying29; have hu32 := Tryd.underlying32
 unfold putF at hp
 split at hp
 case h_2 => cases hp
 rename_i jb hj
 split at hp
 case isFalse => cases hp
 rename_i hsz
 obtain rfl := Option.some.inj hp; have HJ := aM hj; have HS := aM hsz; have HW := aM hW; have HL := aM hL; have HC := aM hc; have HG := aM hg; have HK := aM (Keeps.refl w); clear hp hj hsz hW hL hc hg
 go_enter Tryd.func41, Tryd.ntmps41
 go_wp2_with (first | (go_at_call 64; refine (span_Join.calls 100 n A c L jb none _ HL.out HC.out HJ.out).mono ?_; simp only [errW_none]; rintro e w2 ⟨v0, rfl, hO, hb⟩; have HO := aM hO; have HK2 := aM (HK.out.below hb); clear HK; have HK := HK2; clear HK2; have HW2 := aM (HW.out.below hb); clear HW hb hO; have HW := HW2; clear HW2; obtain ⟨Aj, cj, rfl⟩ := Kd.R_slice HO.out; obtain ⟨Ab, cb, rfl⟩ := Kd.R_slice HW.out.own; have g0 := cellOfBlk HW.out.at_) | ((with_reducible refine gate_builtin (b := .append) (xs := #[.tmp 24, .tmp 25]) rfl ?_); refine Kd.R_append_row (Value.int .u8) (0 : Int) (h1 := fun _ => rfl) (w0 := w0) w0.heap.size rfl (.tmp 24) (.tmp 25) 22 5 (.int .u8 0) 1 rfl Tryd.underlying22 info5 rfl (by decide) (.slice Ab b.length cb) b jb Aj jb.length cj (fun _ => True) rfl rfl (fun _ _ => trivial) HW.out.own (Kd.R_reads' HO.out).2.2 HW.out.bel (below_size HW.out.bel) (by have := HS.out; omega) ?_; intro v1 w3 ho hb hgr hat; have HW3 := aM (Wtr.set HW.out HG.out ho hb hgr); have HK3 := aM (Keeps.set (v1 := v1) HK.out HW.out hgr); have g3 : w3.cell? ⟨gw, 0, none⟩ = some (.slice Ab b.length cb) := cellOfBlk (blk_grown HW.out.at_ hgr (Kd.R_ne HW.out.own HW.out.at_ (by decide))); have f3 : w3.frozen? ⟨gw, 0, none⟩ = false := blk_frozen (blk_grown HW.out.at_ hgr (Kd.R_ne HW.out.own HW.out.at_ (by decide))) 0; obtain ⟨An, cn, rfl⟩ := Kd.R_slice ho; clear ho hb hgr hat HW g0))
 first | go_end0 | ((try simp only [Exit.inBlock, Exit.then]); refine bodyPost_ret (results_none rfl _ _ _) rfl ?_)
 rw [List.length_append] at HW3 HK3; exact ⟨rfl, ⟨_, HW3.out⟩, HK3.out⟩

theorem cells3 {w : World} {g t : Nat} {a b c : Value} (h : w.heap[g]? = some (.cells #[a, b, c] t (0, 0))) : w.cell? ⟨g, 0, none⟩ = some a ∧ w.cell? ⟨g, 1, none⟩ = some b ∧ w.cell? ⟨g, 2, none⟩ = some c := by
 refine ⟨?_, ?_, ?_⟩ <;> simp [World.cell?, h]
theorem putF_len {n : Int} {L b b1 : List Int} (h : putF n L b = some b1) : b1.length ≤ 100000 := by
 unfold putF at h
 split at h
 case h_2 => cases h
 split at h
 case isFalse => cases h
 obtain rfl := Option.some.inj h; rw [List.length_append]
 assumption
set_option maxHeartbeats 16000000 in
set_option maxRecDepth 100000 in
theorem write_at (ty en : Int) (A : Option Addr) (c : Nat) (ps : List S50) (r1 : List Int) (r2 : Option Int) (w : World) (hr : Kd.C k50 w A ps.length ps) (hc : ps.length ≤ c) (h : writeF ty en ps = some (r1, r2)) :
  Calls Tryd.prog 16 #[.agg #[.int .i64 ty, .int .u64 en, .slice A ps.length c]] w fun e w' => ∃ v : Value, e = .returned (.tuple #[v, errW r2]) ∧ Kd.R (Kd.int .u8) 5 w' w.heap.size (fun _ => True) v r1 ∧ Below w.heap.size w w' := by
 have hu27 := Tryd.underlying27; have hu95 := Tryd.underlying95; have hu50 := Tryd.underlying50; have hu29 := Tryd.underlying29; have hu32 := Tryd.underlying32; obtain ⟨w1, gh, e1, e2, hh1, hb1⟩ := alloc_named w (.cells #[.int .i64 ty, .int .u64 en, .slice A ps.length c] 27); obtain ⟨c0, c1, c2⟩ := cells3 hh1; have HW1 := aM hb1; have HH1 := aM hh1; have HRP := aM (Kd.C_below hr hb1); have HCP := aM hc; clear hr hc hb1 hh1
 unfold writeF at h
 by_cases hok : (ty = 2 ∨ ty = 3) ∧ 0 < ps.length ∧ ps.length ≤ 16
 case neg =>
  rw [if_neg hok] at h; obtain ⟨rfl, rfl⟩ := Prod.mk.inj (Option.some.inj h); clear h; have fin : Kd.R (Kd.int .u8) 5 w1 w.heap.size (fun _ => True) (.slice none 0 0) [] ∧ Below w.heap.size w w1 := ⟨Kd.R_nil _ _ _ _ _, HW1.out⟩; have FIN := aM fin; clear fin
  by_cases h2 : ty = 2
  ·subst h2
   by_cases hl : ps.length = 0
   ·have d1 : (ps.length == 0) = true := beq_iff_eq.mpr hl; have d2 : ((ps.length : Int) == 0) = true := beq_iff_eq.mpr (by omega); clear hok hl
    go_enter Tryd.func16, Tryd.ntmps16
    go_wp2
    go_ret2
    exact ⟨_, rfl, FIN.out⟩
   ·have d1 : (ps.length == 0) = false := beq_eq_false_iff_ne.mpr hl; have d2 : ((ps.length : Int) == 0) = false := beq_eq_false_iff_ne.mpr (by omega); have d3 : decide ((16 : Int) < (ps.length : Int)) = true := decide_eq_true (by omega); have d4 : decide (16 < ps.length) = true := decide_eq_true (by omega); clear hok hl
    go_enter Tryd.func16, Tryd.ntmps16
    go_wp2
    go_ret2
    exact ⟨_, rfl, FIN.out⟩
  ·have t2 : (ty == 2) = false := beq_eq_false_iff_ne.mpr h2; have t2' : (ty != 2) = true := bne_iff_ne.mpr h2
   by_cases h3 : ty = 3
   ·subst h3
    by_cases hl : ps.length = 0
    ·have d1 : (ps.length == 0) = true := beq_iff_eq.mpr hl; have d2 : ((ps.length : Int) == 0) = true := beq_iff_eq.mpr (by omega); clear hok hl
     go_enter Tryd.func16, Tryd.ntmps16
     go_wp2
     go_ret2
     exact ⟨_, rfl, FIN.out⟩
    ·have d1 : (ps.length == 0) = false := beq_eq_false_iff_ne.mpr hl; have d2 : ((ps.length : Int) == 0) = false := beq_eq_false_iff_ne.mpr (by omega); have d3 : decide ((16 : Int) < (ps.length : Int)) = true := decide_eq_true (by omega); have d4 : decide (16 < ps.length) = true := decide_eq_true (by omega); clear hok hl
     go_enter Tryd.func16, Tryd.ntmps16
     go_wp2
     go_ret2
     exact ⟨_, rfl, FIN.out⟩
   ·have t3 : (ty == 3) = false := beq_eq_false_iff_ne.mpr h3; have t3' : (ty != 3) = true := bne_iff_ne.mpr h3; clear hok
    go_enter Tryd.func16, Tryd.ntmps16
    go_wp2
    go_ret2
    exact ⟨_, rfl, FIN.out⟩
 case pos =>
  rw [if_pos hok] at h
  split at h
  case isFalse => cases h
  rename_i hall
  have HALL := aM hall; have HN := aM hok.2; have d1 : (ps.length == 0) = false := beq_eq_false_iff_ne.mpr (by omega); have d2 : ((ps.length : Int) == 0) = false := beq_eq_false_iff_ne.mpr (by omega); have d3 : decide ((16 : Int) < (ps.length : Int)) = false := decide_eq_false (by omega); have d4 : decide (16 < ps.length) = false := decide_eq_false (by omega); have wl : IntKind.u64.wrap (ps.length : Int) = (ps.length : Int) := hd_uwrap (by omega) (by omega); rw [Option.bind_eq_some_iff] at h; obtain ⟨b1, h1, h⟩ := h; rw [Option.bind_eq_some_iff] at h; obtain ⟨b2, h2, h⟩ := h; rw [Option.bind_eq_some_iff] at h; obtain ⟨b3, h3, h⟩ := h; rw [Option.bind_eq_some_iff] at h; obtain ⟨b4, h4, h⟩ := h; rw [Option.bind_eq_some_iff] at h; obtain ⟨b5, h5, h⟩ := h; rw [Option.bind_eq_some_iff] at h; obtain ⟨b6, h6, h⟩ := h; rw [Option.bind_eq_some_iff] at h; obtain ⟨b7, h7, h⟩ := h; obtain ⟨rfl, rfl⟩ := Prod.mk.inj (Option.some.inj h); have HP1 := aM h1; have HP3 := aM h3; have HP4 := aM h4; have HP5 := aM h5; have HP6 := aM h6; have HP7 := aM h7; have HS1 := aM (putF_len h1); obtain ⟨w2, gw, e3, e4, hw2, hb2⟩ := alloc_named w1 (.cells #[.slice none 0 0, .nilIface] 95); have HG := aM (show w1.heap.size ≤ gw by rw [← e4]; exact Nat.le_refl _); have HW := aM (show Wtr w1 w2 gw (.slice none 0 0) [] from ⟨hw2, Kd.R_nil _ _ _ _ _, hb2⟩); have HH := aM (blk_below HH1.out hb2); have g0 := cellOfBlk hw2; have HNE := aM (blk_ne HH.out HW.out.at_ (by decide) : gh ≠ gw); have hty := hok.1; have HP2 := aM h2; clear hok hall h h1 h2 h3 h4 h5 h6 h7 hw2 hb2
  rcases hty with rfl | rfl
  ·go_enter Tryd.func16, Tryd.ntmps16
   go_wp2_with (first | ((with_reducible refine gate_dst (N := 31) rfl ?_); refine Kd.R_lit (Kd.int .u64) _ 24 ?hg (N := 31) ?hd (xs := ([127, 69, 76, 70, 2, 1, 1] : List Int)) (inner := [.int .u64 127, .int .u64 69, .int .u64 76, .int .u64 70, .int .u64 2, .int .u64 1, .int .u64 1]) (ok := fun _ => True) (okp := fun _ => True) ?hr ?hp (fun _ hk => hk) trivial (Below.refl _ _) (Nat.le_refl _) (by simp) ?_; (case hd => rfl); (case hg => rfl); (case hr => first | (go_simp; done) | (go_simp; rfl)); (case hp => exact (Reps.one (show Kd.M (Kd.int .u64) _ _ _ (127) [.int .u64 (127)] from rfl) (Reps.one (show Kd.M (Kd.int .u64) _ _ _ (69) [.int .u64 (69)] from rfl) (Reps.one (show Kd.M (Kd.int .u64) _ _ _ (76) [.int .u64 (76)] from rfl) (Reps.one (show Kd.M (Kd.int .u64) _ _ _ (70) [.int .u64 (70)] from rfl) (Reps.one (show Kd.M (Kd.int .u64) _ _ _ (2) [.int .u64 (2)] from rfl) (Reps.one (show Kd.M (Kd.int .u64) _ _ _ (1) [.int .u64 (1)] from rfl) (Reps.one (show Kd.M (Kd.int .u64) _ _ _ (1) [.int .u64 (1)] from rfl) (Reps.none _ _))))))))); intro vL wL ho hb hg_ hnew_; have HI := aM (Kd.R_reads ho); have HH2 := aM (blk_below HH.out hb); have HW2 := aM (HW.out.below hb); clear HH HW; have HH := HH2; have HW := HW2; clear HH2 HW2; clear c0 c1 c2; (try clear g0); (try clear g3 f3); obtain ⟨c0, c1, c2⟩ := cells3 HH.out; have g0 := cellOfBlk HW.out.at_; clear ho hg_ hnew_ hb; obtain ⟨Ai, ci, rfl, hi1, hi2⟩ := HI.out; have HIC := aM hi1; have HIR := aM hi2; clear HI hi1 hi2) | ((with_reducible refine gate_dst (N := 32) rfl ?_); refine goesL_ (some 32) rfl rfl Tryd.func41 (by kernel_rfl) rfl #[.pointer (some ⟨gw, 0, none⟩), .int .i64 1, .slice Ai 7 ci] rfl (by (try simp only [List.map_toArray, List.map_cons, List.map_nil]); first | done | rfl) ?_; refine (put_at gw _ _ 1 Ai ci ([127, 69, 76, 70, 2, 1, 1] : List Int) _ w1 _ HG.out HW.out HIR.out HIC.out HP1.out).mono ?_; rintro e w' ⟨rfl, ⟨v', hW'⟩, hK'⟩; refine ⟨_, rfl, ?_⟩; clear HIR HIC; have HH2 := aM (hK' _ _ _ HH.out (by decide) (by decide)); have HW2 := aM hW'; clear HH HW hW'; have HH := HH2; have HW := HW2; clear HH2 HW2; clear c0 c1 c2; (try clear g0); (try clear g3 f3); obtain ⟨c0, c1, c2⟩ := cells3 HH.out; have g0 := cellOfBlk HW.out.at_) | ((with_reducible refine gate_dst (N := 38) rfl ?_); refine Kd.R_append_zeros (Kd.int .u8) (w0 := w1) w1.heap.size rfl (.tmp 37) (.const (.int .i64 9)) 22 3 5 (.int .u8 0) 1 rfl Tryd.underlying22 Tryd.underlying3 info5 rfl (by decide) (by decide) _ _ 0 9 (fun _ => True) rfl rfl rfl (fun _ _ => trivial) HW.out.own (by decide) HW.out.bel (below_size HW.out.bel) (by have := HS1.out; simp only [Int.reduceToNat]; omega) ?_; intro v1 w3 ho hb hgr hat; have HW3 := aM (Wtr.set HW.out HG.out ho hb hgr); have g3 := cellOfBlk (blk_grown HW.out.at_ hgr (Kd.R_ne HW.out.own HW.out.at_ (by decide))); have f3 := blk_frozen (blk_grown HW.out.at_ hgr (Kd.R_ne HW.out.own HW.out.at_ (by decide))) 0; have HHG := blk_grown HH.out hgr (Kd.R_ne HW.out.own HH.out (by decide)); obtain ⟨An, cn, rfl⟩ := Kd.R_slice ho; simp only [List.length_append, List.length_replicate, Int.reduceToNat] at HW3; have HH3 := aM (blk_far HHG (p := ⟨gw, 0, none⟩) HNE.out (Value.slice An (b1.length + 9) cn)); clear ho hb hgr hat c0 c1 c2 g0 HH HW; have HH := HH3; have HW := HW3; clear HH3 HW3; obtain ⟨c0, c1, c2⟩ := cells3 HHG; clear HHG; have hne1 := HNE.out; have hne2 := Ne.symm hne1) | ((with_reducible refine gate_dst (N := 45) rfl ?_); refine Kd.R_lit (Kd.int .u64) _ 24 ?hg (N := 45) ?hd (xs := ([2, 62] : List Int)) (inner := [.int .u64 2, .int .u64 62]) (ok := fun _ => True) (okp := fun _ => True) ?hr ?hp (fun _ hk => hk) trivial (Below.refl _ _) (Nat.le_refl _) (by simp) ?_; (case hd => rfl); (case hg => rfl); (case hr => first | (go_simp; done) | (go_simp; rfl)); (case hp => exact (Reps.one (show Kd.M (Kd.int .u64) _ _ _ (2) [.int .u64 (2)] from rfl) (Reps.one (show Kd.M (Kd.int .u64) _ _ _ (62) [.int .u64 (62)] from rfl) (Reps.none _ _)))); intro vL wL ho hb hg_ hnew_; have HI := aM (Kd.R_reads ho); have HH2 := aM (blk_below HH.out hb); have HW2 := aM (HW.out.below hb); clear HH HW; have HH := HH2; have HW := HW2; clear HH2 HW2; clear c0 c1 c2; (try clear g0); (try clear g3 f3); obtain ⟨c0, c1, c2⟩ := cells3 HH.out; have g0 := cellOfBlk HW.out.at_; clear ho hg_ hnew_ hb; obtain ⟨Ai, ci, rfl, hi1, hi2⟩ := HI.out; have HIC := aM hi1; have HIR := aM hi2; clear HI hi1 hi2) | ((with_reducible refine gate_dst (N := 46) rfl ?_); refine goesL_ (some 46) rfl rfl Tryd.func41 (by kernel_rfl) rfl #[.pointer (some ⟨gw, 0, none⟩), .int .i64 2, .slice Ai 2 ci] rfl (by (try simp only [List.map_toArray, List.map_cons, List.map_nil]); first | done | rfl) ?_; refine (put_at gw _ _ 2 Ai ci ([2, 62] : List Int) _ w1 _ HG.out HW.out HIR.out HIC.out HP2.out).mono ?_; rintro e w' ⟨rfl, ⟨v', hW'⟩, hK'⟩; refine ⟨_, rfl, ?_⟩; clear HIR HIC; have HH2 := aM (hK' _ _ _ HH.out (by decide) (by decide)); have HW2 := aM hW'; clear HH HW hW'; have HH := HH2; have HW := HW2; clear HH2 HW2; clear c0 c1 c2; (try clear g0); (try clear g3 f3); obtain ⟨c0, c1, c2⟩ := cells3 HH.out; have g0 := cellOfBlk HW.out.at_) | ((with_reducible refine gate_dst (N := 48) rfl ?_); refine Kd.R_lit (Kd.int .u64) _ 24 ?hg (N := 48) ?hd (xs := ([1] : List Int)) (inner := [.int .u64 1]) (ok := fun _ => True) (okp := fun _ => True) ?hr ?hp (fun _ hk => hk) trivial (Below.refl _ _) (Nat.le_refl _) (by simp) ?_; (case hd => rfl); (case hg => rfl); (case hr => first | (go_simp; done) | (go_simp; rfl)); (case hp => exact (Reps.one (show Kd.M (Kd.int .u64) _ _ _ (1) [.int .u64 (1)] from rfl) (Reps.none _ _))); intro vL wL ho hb hg_ hnew_; have HI := aM (Kd.R_reads ho); have HH2 := aM (blk_below HH.out hb); have HW2 := aM (HW.out.below hb); clear HH HW; have HH := HH2; have HW := HW2; clear HH2 HW2; clear c0 c1 c2; (try clear g0); (try clear g3 f3); obtain ⟨c0, c1, c2⟩ := cells3 HH.out; have g0 := cellOfBlk HW.out.at_; clear ho hg_ hnew_ hb; obtain ⟨Ai, ci, rfl, hi1, hi2⟩ := HI.out; have HIC := aM hi1; have HIR := aM hi2; clear HI hi1 hi2) | ((with_reducible refine gate_dst (N := 49) rfl ?_); refine goesL_ (some 49) rfl rfl Tryd.func41 (by kernel_rfl) rfl #[.pointer (some ⟨gw, 0, none⟩), .int .i64 4, .slice Ai 1 ci] rfl (by (try simp only [List.map_toArray, List.map_cons, List.map_nil]); first | done | rfl) ?_; refine (put_at gw _ _ 4 Ai ci ([1] : List Int) _ w1 _ HG.out HW.out HIR.out HIC.out HP3.out).mono ?_; rintro e w' ⟨rfl, ⟨v', hW'⟩, hK'⟩; refine ⟨_, rfl, ?_⟩; clear HIR HIC; have HH2 := aM (hK' _ _ _ HH.out (by decide) (by decide)); have HW2 := aM hW'; clear HH HW hW'; have HH := HH2; have HW := HW2; clear HH2 HW2; clear c0 c1 c2; (try clear g0); (try clear g3 f3); obtain ⟨c0, c1, c2⟩ := cells3 HH.out; have g0 := cellOfBlk HW.out.at_) | ((with_reducible refine gate_dst (N := 53) rfl ?_); refine Kd.R_lit (Kd.int .u64) _ 24 ?hg (N := 53) ?hd (xs := ([en, 64, 0] : List Int)) (inner := [.int .u64 en, .int .u64 64, .int .u64 0]) (ok := fun _ => True) (okp := fun _ => True) ?hr ?hp (fun _ hk => hk) trivial (Below.refl _ _) (Nat.le_refl _) (by simp) ?_; (case hd => rfl); (case hg => rfl); (case hr => first | (go_simp; done) | (go_simp; rfl)); (case hp => exact (Reps.one (show Kd.M (Kd.int .u64) _ _ _ (en) [.int .u64 (en)] from rfl) (Reps.one (show Kd.M (Kd.int .u64) _ _ _ (64) [.int .u64 (64)] from rfl) (Reps.one (show Kd.M (Kd.int .u64) _ _ _ (0) [.int .u64 (0)] from rfl) (Reps.none _ _))))); intro vL wL ho hb hg_ hnew_; have HI := aM (Kd.R_reads ho); have HH2 := aM (blk_below HH.out hb); have HW2 := aM (HW.out.below hb); clear HH HW; have HH := HH2; have HW := HW2; clear HH2 HW2; clear c0 c1 c2; (try clear g0); (try clear g3 f3); obtain ⟨c0, c1, c2⟩ := cells3 HH.out; have g0 := cellOfBlk HW.out.at_; clear ho hg_ hnew_ hb; obtain ⟨Ai, ci, rfl, hi1, hi2⟩ := HI.out; have HIC := aM hi1; have HIR := aM hi2; clear HI hi1 hi2) | ((with_reducible refine gate_dst (N := 54) rfl ?_); refine goesL_ (some 54) rfl rfl Tryd.func41 (by kernel_rfl) rfl #[.pointer (some ⟨gw, 0, none⟩), .int .i64 8, .slice Ai 3 ci] rfl (by (try simp only [List.map_toArray, List.map_cons, List.map_nil]); first | done | rfl) ?_; refine (put_at gw _ _ 8 Ai ci ([en, 64, 0] : List Int) _ w1 _ HG.out HW.out HIR.out HIC.out HP4.out).mono ?_; rintro e w' ⟨rfl, ⟨v', hW'⟩, hK'⟩; refine ⟨_, rfl, ?_⟩; clear HIR HIC; have HH2 := aM (hK' _ _ _ HH.out (by decide) (by decide)); have HW2 := aM hW'; clear HH HW hW'; have HH := HH2; have HW := HW2; clear HH2 HW2; clear c0 c1 c2; (try clear g0); (try clear g3 f3); obtain ⟨c0, c1, c2⟩ := cells3 HH.out; have g0 := cellOfBlk HW.out.at_) | ((with_reducible refine gate_dst (N := 56) rfl ?_); refine Kd.R_lit (Kd.int .u64) _ 24 ?hg (N := 56) ?hd (xs := ([0] : List Int)) (inner := [.int .u64 0]) (ok := fun _ => True) (okp := fun _ => True) ?hr ?hp (fun _ hk => hk) trivial (Below.refl _ _) (Nat.le_refl _) (by simp) ?_; (case hd => rfl); (case hg => rfl); (case hr => first | (go_simp; done) | (go_simp; rfl)); (case hp => exact (Reps.one (show Kd.M (Kd.int .u64) _ _ _ (0) [.int .u64 (0)] from rfl) (Reps.none _ _))); intro vL wL ho hb hg_ hnew_; have HI := aM (Kd.R_reads ho); have HH2 := aM (blk_below HH.out hb); have HW2 := aM (HW.out.below hb); clear HH HW; have HH := HH2; have HW := HW2; clear HH2 HW2; clear c0 c1 c2; (try clear g0); (try clear g3 f3); obtain ⟨c0, c1, c2⟩ := cells3 HH.out; have g0 := cellOfBlk HW.out.at_; clear ho hg_ hnew_ hb; obtain ⟨Ai, ci, rfl, hi1, hi2⟩ := HI.out; have HIC := aM hi1; have HIR := aM hi2; clear HI hi1 hi2) | ((with_reducible refine gate_dst (N := 57) rfl ?_); refine goesL_ (some 57) rfl rfl Tryd.func41 (by kernel_rfl) rfl #[.pointer (some ⟨gw, 0, none⟩), .int .i64 4, .slice Ai 1 ci] rfl (by (try simp only [List.map_toArray, List.map_cons, List.map_nil]); first | done | rfl) ?_; refine (put_at gw _ _ 4 Ai ci ([0] : List Int) _ w1 _ HG.out HW.out HIR.out HIC.out HP5.out).mono ?_; rintro e w' ⟨rfl, ⟨v', hW'⟩, hK'⟩; refine ⟨_, rfl, ?_⟩; clear HIR HIC; have HH2 := aM (hK' _ _ _ HH.out (by decide) (by decide)); have HW2 := aM hW'; clear HH HW hW'; have HH := HH2; have HW := HW2; clear HH2 HW2; clear c0 c1 c2; (try clear g0); (try clear g3 f3); obtain ⟨c0, c1, c2⟩ := cells3 HH.out; have g0 := cellOfBlk HW.out.at_) | ((with_reducible refine gate_dst (N := 63) rfl ?_); refine Kd.R_lit (Kd.int .u64) _ 24 ?hg (N := 63) ?hd (xs := ([64, 56, (ps.length : Int), 0, 0, 0] : List Int)) (inner := [.int .u64 64, .int .u64 56, .int .u64 (ps.length : Int), .int .u64 0, .int .u64 0, .int .u64 0]) (ok := fun _ => True) (okp := fun _ => True) ?hr ?hp (fun _ hk => hk) trivial (Below.refl _ _) (Nat.le_refl _) (by simp) ?_; (case hd => rfl); (case hg => rfl); (case hr => first | (go_simp; done) | (go_simp; rfl)); (case hp => exact (Reps.one (show Kd.M (Kd.int .u64) _ _ _ (64) [.int .u64 (64)] from rfl) (Reps.one (show Kd.M (Kd.int .u64) _ _ _ (56) [.int .u64 (56)] from rfl) (Reps.one (show Kd.M (Kd.int .u64) _ _ _ ((ps.length : Int)) [.int .u64 ((ps.length : Int))] from rfl) (Reps.one (show Kd.M (Kd.int .u64) _ _ _ (0) [.int .u64 (0)] from rfl) (Reps.one (show Kd.M (Kd.int .u64) _ _ _ (0) [.int .u64 (0)] from rfl) (Reps.one (show Kd.M (Kd.int .u64) _ _ _ (0) [.int .u64 (0)] from rfl) (Reps.none _ _)))))))); intro vL wL ho hb hg_ hnew_; have HI := aM (Kd.R_reads ho); have HH2 := aM (blk_below HH.out hb); have HW2 := aM (HW.out.below hb); clear HH HW; have HH := HH2; have HW := HW2; clear HH2 HW2; clear c0 c1 c2; (try clear g0); (try clear g3 f3); obtain ⟨c0, c1, c2⟩ := cells3 HH.out; have g0 := cellOfBlk HW.out.at_; clear ho hg_ hnew_ hb; obtain ⟨Ai, ci, rfl, hi1, hi2⟩ := HI.out; have HIC := aM hi1; have HIR := aM hi2; clear HI hi1 hi2) | ((with_reducible refine gate_dst (N := 64) rfl ?_); refine goesL_ (some 64) rfl rfl Tryd.func41 (by kernel_rfl) rfl #[.pointer (some ⟨gw, 0, none⟩), .int .i64 2, .slice Ai 6 ci] rfl (by (try simp only [List.map_toArray, List.map_cons, List.map_nil]); first | done | rfl) ?_; refine (put_at gw _ _ 2 Ai ci ([64, 56, (ps.length : Int), 0, 0, 0] : List Int) _ w1 _ HG.out HW.out HIR.out HIC.out HP6.out).mono ?_; rintro e w' ⟨rfl, ⟨v', hW'⟩, hK'⟩; refine ⟨_, rfl, ?_⟩; clear HIR HIC; have HH2 := aM (hK' _ _ _ HH.out (by decide) (by decide)); have HW2 := aM hW'; clear HH HW hW'; have HH := HH2; have HW := HW2; clear HH2 HW2; clear c0 c1 c2; (try clear g0); (try clear g3 f3); obtain ⟨c0, c1, c2⟩ := cells3 HH.out; have g0 := cellOfBlk HW.out.at_))

   clear e1 e2 e3 e4
   go_loopg [68] (ps.length + 1) (fun kq v68 w' => ∃ (i : Nat) (v : Value) (b : List Int), v68 = .int .i64 (i : Int) ∧ Aside0 (i + kq = ps.length + 1 ∧ i ≤ ps.length) ∧ Aside0 (putProgs (ps.drop i) b = some b7) ∧ Aside0 (Wtr w1 w' gw v b) ∧ Aside0 (w'.heap[gh]? = some (.cells #[.int .i64 2, .int .u64 en, .slice A ps.length c] 27 (0, 0))))
   case atStart => exact ⟨0, _, b6, rfl, ⟨by omega, by omega⟩, HP7, HW, HH⟩
   case round =>
    clear HW HH HP1 HP2 HP3 HP4 HP5 HP6 HP7
    (try clear g0)
    (try clear c0 c1 c2)
    obtain ⟨i, v, b, rfl, HK, HP, HW, HH⟩ := hrel
    cases gk with
    | zero => exact absurd HK.out (by omega)
    | succ k1 =>
     by_cases hi : i < ps.length
     ·have hi2 : decide ((i : Int) < (ps.length : Int)) = true := decide_eq_true (by omega); have hi4 : decide (i < ps.length) = true := decide_eq_true hi
      have hwi : wrap64 ((i : Int) + 1) = ((i + 1 : Nat) : Int) := by rw [hd_wrap64 (by omega) (by have := HN.out; omega)]; omega
      obtain ⟨ad, rfl, t0, t1, t2, t3, t4, t5, t6⟩ := at_T50 (Kd.C_below HRP.out HW.out.bel) (i : Int) (by omega) (by omega)
      have eX : rd_T50 ps i = ps[i] := by simp [rd_T50, List.getD_eq_getElem?_getD, List.getElem?_eq_getElem hi]
      have hx := HP.out; rw [List.drop_eq_getElem_cons hi, putProgs] at hx; have hall := HALL.out ps[i] (List.getElem_mem hi); obtain ⟨X, hX⟩ : ∃ X, ps[i] = X := ⟨_, rfl⟩; rw [eX, hX] at t0 t1 t2 t3 t4 t5 t6; rw [hX] at hx hall; simp only [Int.toNat_natCast] at t0 t1 t2 t3 t4 t5 t6; have wf0 : IntKind.u64.wrap X.f0 = X.f0 := hd_uwrap hall.1.1 (by have := hall.1.2; omega); have wf1 : IntKind.u64.wrap X.f1 = X.f1 := hd_uwrap hall.2.1 (by have := hall.2.2; omega); rw [Option.bind_eq_some_iff] at hx; obtain ⟨q1, hq1, hx⟩ := hx; rw [Option.bind_eq_some_iff] at hx; obtain ⟨q2, hq2, hx⟩ := hx; have HQ1 := aM hq1; have HQ2 := aM hq2; have HP2 := aM hx; have p0 := eq_true (show (0 : Int) ≤ (i : Int) by omega); have q0 := eq_true (show (i : Int) < (ps.length : Int) by omega); obtain ⟨w5, gx, e5, e6, hx5, hb5⟩ := alloc_named wr (.cells #[.int .u32 X.f0, .int .u32 X.f1, .int .u64 X.f2, .int .u64 X.f3, .int .u64 X.f4, .int .u64 X.f5, .int .u64 X.f6] 50); have HW2 := aM (HW.out.below hb5); have HH2 := aM (blk_below HH.out hb5); have HX := aM (show w5.heap[gx]? = some (.cells (cells50 X) 50 (0, 0)) from hx5); have HWI := aM hwi; have HI := aM hi; clear HW HH hx hall hq1 hq2 HP eX hX hx5 hb5 hwi hi; have HW := HW2; have HH := HH2; clear HW2 HH2; obtain ⟨x0, x1, x2, x3, x4, x5, x6⟩ := cells_at HX.out; obtain ⟨c0, c1, c2⟩ := cells3 HH.out
      go_wp2_with (first | ((with_reducible refine gate_dst (N := 79) rfl ?_); refine Kd.R_lit (Kd.int .u64) _ 24 ?hg (N := 79) ?hd (xs := ([X.f0, X.f1] : List Int)) (inner := [.int .u64 X.f0, .int .u64 X.f1]) (ok := fun _ => True) (okp := fun _ => True) ?hr ?hp (fun _ hk => hk) trivial (Below.refl _ _) (Nat.le_refl _) (by simp) ?_; (case hd => rfl); (case hg => rfl); (case hr => first | (go_simp; done) | (go_simp; rfl)); (case hp => exact (Reps.one (show Kd.M (Kd.int .u64) _ _ _ (X.f0) [.int .u64 (X.f0)] from rfl) (Reps.one (show Kd.M (Kd.int .u64) _ _ _ (X.f1) [.int .u64 (X.f1)] from rfl) (Reps.none _ _)))); intro vL wL ho hb hg_ hnew_; have HI := aM (Kd.R_reads ho); have HH2 := aM (blk_below HH.out hb); have HW2 := aM (HW.out.below hb); clear HH HW; have HH := HH2; have HW := HW2; clear HH2 HW2; clear x0 x1 x2 x3 x4 x5 x6; have HX2 := aM (blk_below HX.out hb); clear HX; have HX := HX2; clear HX2; obtain ⟨x0, x1, x2, x3, x4, x5, x6⟩ := cells_at HX.out; clear c0 c1 c2; (try clear g0); (try clear g3 f3); obtain ⟨c0, c1, c2⟩ := cells3 HH.out; have g0 := cellOfBlk HW.out.at_; clear ho hg_ hnew_ hb; obtain ⟨Ai, ci, rfl, hi1, hi2⟩ := HI.out; have HIC := aM hi1; have HIR := aM hi2; clear HI hi1 hi2) | ((with_reducible refine gate_dst (N := 80) rfl ?_); refine goesL_ (some 80) rfl rfl Tryd.func41 (by kernel_rfl) rfl #[.pointer (some ⟨gw, 0, none⟩), .int .i64 4, .slice Ai 2 ci] rfl (by (try simp only [List.map_toArray, List.map_cons, List.map_nil]); first | done | rfl) ?_; refine (put_at gw _ _ 4 Ai ci ([X.f0, X.f1] : List Int) _ w1 _ HG.out HW.out HIR.out HIC.out HQ1.out).mono ?_; rintro e w' ⟨rfl, ⟨v', hW'⟩, hK'⟩; refine ⟨_, rfl, ?_⟩; clear HIR HIC; have HH2 := aM (hK' _ _ _ HH.out (by decide) (by decide)); have HW2 := aM hW'; clear HH HW hW'; have HH := HH2; have HW := HW2; clear HH2 HW2; clear x0 x1 x2 x3 x4 x5 x6; have HX2 := aM (hK' _ _ _ HX.out (by decide) (by decide)); clear HX hK'; have HX := HX2; clear HX2; obtain ⟨x0, x1, x2, x3, x4, x5, x6⟩ := cells_at HX.out; clear c0 c1 c2; (try clear g0); (try clear g3 f3); obtain ⟨c0, c1, c2⟩ := cells3 HH.out; have g0 := cellOfBlk HW.out.at_) | ((with_reducible refine gate_dst (N := 94) rfl ?_); refine Kd.R_lit (Kd.int .u64) _ 24 ?hg (N := 94) ?hd (xs := ([X.f2, X.f3, X.f3, X.f4, X.f5, X.f6] : List Int)) (inner := [.int .u64 X.f2, .int .u64 X.f3, .int .u64 X.f3, .int .u64 X.f4, .int .u64 X.f5, .int .u64 X.f6]) (ok := fun _ => True) (okp := fun _ => True) ?hr ?hp (fun _ hk => hk) trivial (Below.refl _ _) (Nat.le_refl _) (by simp) ?_; (case hd => rfl); (case hg => rfl); (case hr => first | (go_simp; done) | (go_simp; rfl)); (case hp => exact (Reps.one (show Kd.M (Kd.int .u64) _ _ _ (X.f2) [.int .u64 (X.f2)] from rfl) (Reps.one (show Kd.M (Kd.int .u64) _ _ _ (X.f3) [.int .u64 (X.f3)] from rfl) (Reps.one (show Kd.M (Kd.int .u64) _ _ _ (X.f3) [.int .u64 (X.f3)] from rfl) (Reps.one (show Kd.M (Kd.int .u64) _ _ _ (X.f4) [.int .u64 (X.f4)] from rfl) (Reps.one (show Kd.M (Kd.int .u64) _ _ _ (X.f5) [.int .u64 (X.f5)] from rfl) (Reps.one (show Kd.M (Kd.int .u64) _ _ _ (X.f6) [.int .u64 (X.f6)] from rfl) (Reps.none _ _)))))))); intro vL wL ho hb hg_ hnew_; have HI := aM (Kd.R_reads ho); have HH2 := aM (blk_below HH.out hb); have HW2 := aM (HW.out.below hb); clear HH HW; have HH := HH2; have HW := HW2; clear HH2 HW2; clear x0 x1 x2 x3 x4 x5 x6; have HX2 := aM (blk_below HX.out hb); clear HX; have HX := HX2; clear HX2; obtain ⟨x0, x1, x2, x3, x4, x5, x6⟩ := cells_at HX.out; clear c0 c1 c2; (try clear g0); (try clear g3 f3); obtain ⟨c0, c1, c2⟩ := cells3 HH.out; have g0 := cellOfBlk HW.out.at_; clear ho hg_ hnew_ hb; obtain ⟨Ai, ci, rfl, hi1, hi2⟩ := HI.out; have HIC := aM hi1; have HIR := aM hi2; clear HI hi1 hi2) | ((with_reducible refine gate_dst (N := 95) rfl ?_); refine goesL_ (some 95) rfl rfl Tryd.func41 (by kernel_rfl) rfl #[.pointer (some ⟨gw, 0, none⟩), .int .i64 8, .slice Ai 6 ci] rfl (by (try simp only [List.map_toArray, List.map_cons, List.map_nil]); first | done | rfl) ?_; refine (put_at gw _ _ 8 Ai ci ([X.f2, X.f3, X.f3, X.f4, X.f5, X.f6] : List Int) _ w1 _ HG.out HW.out HIR.out HIC.out HQ2.out).mono ?_; rintro e w' ⟨rfl, ⟨v', hW'⟩, hK'⟩; refine ⟨_, rfl, ?_⟩; clear HIR HIC; have HH2 := aM (hK' _ _ _ HH.out (by decide) (by decide)); have HW2 := aM hW'; clear HH HW hW'; have HH := HH2; have HW := HW2; clear HH2 HW2; clear x0 x1 x2 x3 x4 x5 x6; have HX2 := aM (hK' _ _ _ HX.out (by decide) (by decide)); clear HX hK'; have HX := HX2; clear HX2; obtain ⟨x0, x1, x2, x3, x4, x5, x6⟩ := cells_at HX.out; clear c0 c1 c2; (try clear g0); (try clear g3 f3); obtain ⟨c0, c1, c2⟩ := cells3 HH.out; have g0 := cellOfBlk HW.out.at_))
      go_roundg k1
      case measure => omega
      case rel => exact ⟨i + 1, _, _, by rw [HWI.out], ⟨by have := HK.out; have := HI.out; omega⟩, HP2, HW, HH⟩
     ·have hi2 : decide ((i : Int) < (ps.length : Int)) = false := decide_eq_false (by omega); have hi4 : decide (i < ps.length) = false := decide_eq_false hi; have hx := HP.out; rw [List.drop_eq_nil_of_le (by omega), putProgs] at hx; obtain rfl := Option.some.inj hx; obtain ⟨Av, cv, rfl⟩ := Kd.R_slice HW.out.own; have g0 := cellOfBlk HW.out.at_; have g1 := cellOfBlk1 HW.out.at_; clear hi hx HK HP
      go_wp2
      go_quiet (fail)
      go_wp2
      go_ret2
      exact ⟨_, rfl, Kd.R_drewN (Kd.R_lower HW.out.own (below_size HW1.out)) nq, pw_below_drewN (below_step HW1.out HW.out.bel) nq⟩
  ·go_enter Tryd.func16, Tryd.ntmps16
   go_wp2_with (first | ((with_reducible refine gate_dst (N := 31) rfl ?_); refine Kd.R_lit (Kd.int .u64) _ 24 ?hg (N := 31) ?hd (xs := ([127, 69, 76, 70, 2, 1, 1] : List Int)) (inner := [.int .u64 127, .int .u64 69, .int .u64 76, .int .u64 70, .int .u64 2, .int .u64 1, .int .u64 1]) (ok := fun _ => True) (okp := fun _ => True) ?hr ?hp (fun _ hk => hk) trivial (Below.refl _ _) (Nat.le_refl _) (by simp) ?_; (case hd => rfl); (case hg => rfl); (case hr => first | (go_simp; done) | (go_simp; rfl)); (case hp => exact (Reps.one (show Kd.M (Kd.int .u64) _ _ _ (127) [.int .u64 (127)] from rfl) (Reps.one (show Kd.M (Kd.int .u64) _ _ _ (69) [.int .u64 (69)] from rfl) (Reps.one (show Kd.M (Kd.int .u64) _ _ _ (76) [.int .u64 (76)] from rfl) (Reps.one (show Kd.M (Kd.int .u64) _ _ _ (70) [.int .u64 (70)] from rfl) (Reps.one (show Kd.M (Kd.int .u64) _ _ _ (2) [.int .u64 (2)] from rfl) (Reps.one (show Kd.M (Kd.int .u64) _ _ _ (1) [.int .u64 (1)] from rfl) (Reps.one (show Kd.M (Kd.int .u64) _ _ _ (1) [.int .u64 (1)] from rfl) (Reps.none _ _))))))))); intro vL wL ho hb hg_ hnew_; have HI := aM (Kd.R_reads ho); have HH2 := aM (blk_below HH.out hb); have HW2 := aM (HW.out.below hb); clear HH HW; have HH := HH2; have HW := HW2; clear HH2 HW2; clear c0 c1 c2; (try clear g0); (try clear g3 f3); obtain ⟨c0, c1, c2⟩ := cells3 HH.out; have g0 := cellOfBlk HW.out.at_; clear ho hg_ hnew_ hb; obtain ⟨Ai, ci, rfl, hi1, hi2⟩ := HI.out; have HIC := aM hi1; have HIR := aM hi2; clear HI hi1 hi2) | ((with_reducible refine gate_dst (N := 32) rfl ?_); refine goesL_ (some 32) rfl rfl Tryd.func41 (by kernel_rfl) rfl #[.pointer (some ⟨gw, 0, none⟩), .int .i64 1, .slice Ai 7 ci] rfl (by (try simp only [List.map_toArray, List.map_cons, List.map_nil]); first | done | rfl) ?_; refine (put_at gw _ _ 1 Ai ci ([127, 69, 76, 70, 2, 1, 1] : List Int) _ w1 _ HG.out HW.out HIR.out HIC.out HP1.out).mono ?_; rintro e w' ⟨rfl, ⟨v', hW'⟩, hK'⟩; refine ⟨_, rfl, ?_⟩; clear HIR HIC; have HH2 := aM (hK' _ _ _ HH.out (by decide) (by decide)); have HW2 := aM hW'; clear HH HW hW'; have HH := HH2; have HW := HW2; clear HH2 HW2; clear c0 c1 c2; (try clear g0); (try clear g3 f3); obtain ⟨c0, c1, c2⟩ := cells3 HH.out; have g0 := cellOfBlk HW.out.at_) | ((with_reducible refine gate_dst (N := 38) rfl ?_); refine Kd.R_append_zeros (Kd.int .u8) (w0 := w1) w1.heap.size rfl (.tmp 37) (.const (.int .i64 9)) 22 3 5 (.int .u8 0) 1 rfl Tryd.underlying22 Tryd.underlying3 info5 rfl (by decide) (by decide) _ _ 0 9 (fun _ => True) rfl rfl rfl (fun _ _ => trivial) HW.out.own (by decide) HW.out.bel (below_size HW.out.bel) (by have := HS1.out; simp only [Int.reduceToNat]; omega) ?_; intro v1 w3 ho hb hgr hat; have HW3 := aM (Wtr.set HW.out HG.out ho hb hgr); have g3 := cellOfBlk (blk_grown HW.out.at_ hgr (Kd.R_ne HW.out.own HW.out.at_ (by decide))); have f3 := blk_frozen (blk_grown HW.out.at_ hgr (Kd.R_ne HW.out.own HW.out.at_ (by decide))) 0; have HHG := blk_grown HH.out hgr (Kd.R_ne HW.out.own HH.out (by decide)); obtain ⟨An, cn, rfl⟩ := Kd.R_slice ho; simp only [List.length_append, List.length_replicate, Int.reduceToNat] at HW3; have HH3 := aM (blk_far HHG (p := ⟨gw, 0, none⟩) HNE.out (Value.slice An (b1.length + 9) cn)); clear ho hb hgr hat c0 c1 c2 g0 HH HW; have HH := HH3; have HW := HW3; clear HH3 HW3; obtain ⟨c0, c1, c2⟩ := cells3 HHG; clear HHG; have hne1 := HNE.out; have hne2 := Ne.symm hne1) | ((with_reducible refine gate_dst (N := 45) rfl ?_); refine Kd.R_lit (Kd.int .u64) _ 24 ?hg (N := 45) ?hd (xs := ([3, 62] : List Int)) (inner := [.int .u64 3, .int .u64 62]) (ok := fun _ => True) (okp := fun _ => True) ?hr ?hp (fun _ hk => hk) trivial (Below.refl _ _) (Nat.le_refl _) (by simp) ?_; (case hd => rfl); (case hg => rfl); (case hr => first | (go_simp; done) | (go_simp; rfl)); (case hp => exact (Reps.one (show Kd.M (Kd.int .u64) _ _ _ (3) [.int .u64 (3)] from rfl) (Reps.one (show Kd.M (Kd.int .u64) _ _ _ (62) [.int .u64 (62)] from rfl) (Reps.none _ _)))); intro vL wL ho hb hg_ hnew_; have HI := aM (Kd.R_reads ho); have HH2 := aM (blk_below HH.out hb); have HW2 := aM (HW.out.below hb); clear HH HW; have HH := HH2; have HW := HW2; clear HH2 HW2; clear c0 c1 c2; (try clear g0); (try clear g3 f3); obtain ⟨c0, c1, c2⟩ := cells3 HH.out; have g0 := cellOfBlk HW.out.at_; clear ho hg_ hnew_ hb; obtain ⟨Ai, ci, rfl, hi1, hi2⟩ := HI.out; have HIC := aM hi1; have HIR := aM hi2; clear HI hi1 hi2) | ((with_reducible refine gate_dst (N := 46) rfl ?_); refine goesL_ (some 46) rfl rfl Tryd.func41 (by kernel_rfl) rfl #[.pointer (some ⟨gw, 0, none⟩), .int .i64 2, .slice Ai 2 ci] rfl (by (try simp only [List.map_toArray, List.map_cons, List.map_nil]); first | done | rfl) ?_; refine (put_at gw _ _ 2 Ai ci ([3, 62] : List Int) _ w1 _ HG.out HW.out HIR.out HIC.out HP2.out).mono ?_; rintro e w' ⟨rfl, ⟨v', hW'⟩, hK'⟩; refine ⟨_, rfl, ?_⟩; clear HIR HIC; have HH2 := aM (hK' _ _ _ HH.out (by decide) (by decide)); have HW2 := aM hW'; clear HH HW hW'; have HH := HH2; have HW := HW2; clear HH2 HW2; clear c0 c1 c2; (try clear g0); (try clear g3 f3); obtain ⟨c0, c1, c2⟩ := cells3 HH.out; have g0 := cellOfBlk HW.out.at_) | ((with_reducible refine gate_dst (N := 48) rfl ?_); refine Kd.R_lit (Kd.int .u64) _ 24 ?hg (N := 48) ?hd (xs := ([1] : List Int)) (inner := [.int .u64 1]) (ok := fun _ => True) (okp := fun _ => True) ?hr ?hp (fun _ hk => hk) trivial (Below.refl _ _) (Nat.le_refl _) (by simp) ?_; (case hd => rfl); (case hg => rfl); (case hr => first | (go_simp; done) | (go_simp; rfl)); (case hp => exact (Reps.one (show Kd.M (Kd.int .u64) _ _ _ (1) [.int .u64 (1)] from rfl) (Reps.none _ _))); intro vL wL ho hb hg_ hnew_; have HI := aM (Kd.R_reads ho); have HH2 := aM (blk_below HH.out hb); have HW2 := aM (HW.out.below hb); clear HH HW; have HH := HH2; have HW := HW2; clear HH2 HW2; clear c0 c1 c2; (try clear g0); (try clear g3 f3); obtain ⟨c0, c1, c2⟩ := cells3 HH.out; have g0 := cellOfBlk HW.out.at_; clear ho hg_ hnew_ hb; obtain ⟨Ai, ci, rfl, hi1, hi2⟩ := HI.out; have HIC := aM hi1; have HIR := aM hi2; clear HI hi1 hi2) | ((with_reducible refine gate_dst (N := 49) rfl ?_); refine goesL_ (some 49) rfl rfl Tryd.func41 (by kernel_rfl) rfl #[.pointer (some ⟨gw, 0, none⟩), .int .i64 4, .slice Ai 1 ci] rfl (by (try simp only [List.map_toArray, List.map_cons, List.map_nil]); first | done | rfl) ?_; refine (put_at gw _ _ 4 Ai ci ([1] : List Int) _ w1 _ HG.out HW.out HIR.out HIC.out HP3.out).mono ?_; rintro e w' ⟨rfl, ⟨v', hW'⟩, hK'⟩; refine ⟨_, rfl, ?_⟩; clear HIR HIC; have HH2 := aM (hK' _ _ _ HH.out (by decide) (by decide)); have HW2 := aM hW'; clear HH HW hW'; have HH := HH2; have HW := HW2; clear HH2 HW2; clear c0 c1 c2; (try clear g0); (try clear g3 f3); obtain ⟨c0, c1, c2⟩ := cells3 HH.out; have g0 := cellOfBlk HW.out.at_) | ((with_reducible refine gate_dst (N := 53) rfl ?_); refine Kd.R_lit (Kd.int .u64) _ 24 ?hg (N := 53) ?hd (xs := ([en, 64, 0] : List Int)) (inner := [.int .u64 en, .int .u64 64, .int .u64 0]) (ok := fun _ => True) (okp := fun _ => True) ?hr ?hp (fun _ hk => hk) trivial (Below.refl _ _) (Nat.le_refl _) (by simp) ?_; (case hd => rfl); (case hg => rfl); (case hr => first | (go_simp; done) | (go_simp; rfl)); (case hp => exact (Reps.one (show Kd.M (Kd.int .u64) _ _ _ (en) [.int .u64 (en)] from rfl) (Reps.one (show Kd.M (Kd.int .u64) _ _ _ (64) [.int .u64 (64)] from rfl) (Reps.one (show Kd.M (Kd.int .u64) _ _ _ (0) [.int .u64 (0)] from rfl) (Reps.none _ _))))); intro vL wL ho hb hg_ hnew_; have HI := aM (Kd.R_reads ho); have HH2 := aM (blk_below HH.out hb); have HW2 := aM (HW.out.below hb); clear HH HW; have HH := HH2; have HW := HW2; clear HH2 HW2; clear c0 c1 c2; (try clear g0); (try clear g3 f3); obtain ⟨c0, c1, c2⟩ := cells3 HH.out; have g0 := cellOfBlk HW.out.at_; clear ho hg_ hnew_ hb; obtain ⟨Ai, ci, rfl, hi1, hi2⟩ := HI.out; have HIC := aM hi1; have HIR := aM hi2; clear HI hi1 hi2) | ((with_reducible refine gate_dst (N := 54) rfl ?_); refine goesL_ (some 54) rfl rfl Tryd.func41 (by kernel_rfl) rfl #[.pointer (some ⟨gw, 0, none⟩), .int .i64 8, .slice Ai 3 ci] rfl (by (try simp only [List.map_toArray, List.map_cons, List.map_nil]); first | done | rfl) ?_; refine (put_at gw _ _ 8 Ai ci ([en, 64, 0] : List Int) _ w1 _ HG.out HW.out HIR.out HIC.out HP4.out).mono ?_; rintro e w' ⟨rfl, ⟨v', hW'⟩, hK'⟩; refine ⟨_, rfl, ?_⟩; clear HIR HIC; have HH2 := aM (hK' _ _ _ HH.out (by decide) (by decide)); have HW2 := aM hW'; clear HH HW hW'; have HH := HH2; have HW := HW2; clear HH2 HW2; clear c0 c1 c2; (try clear g0); (try clear g3 f3); obtain ⟨c0, c1, c2⟩ := cells3 HH.out; have g0 := cellOfBlk HW.out.at_) | ((with_reducible refine gate_dst (N := 56) rfl ?_); refine Kd.R_lit (Kd.int .u64) _ 24 ?hg (N := 56) ?hd (xs := ([0] : List Int)) (inner := [.int .u64 0]) (ok := fun _ => True) (okp := fun _ => True) ?hr ?hp (fun _ hk => hk) trivial (Below.refl _ _) (Nat.le_refl _) (by simp) ?_; (case hd => rfl); (case hg => rfl); (case hr => first | (go_simp; done) | (go_simp; rfl)); (case hp => exact (Reps.one (show Kd.M (Kd.int .u64) _ _ _ (0) [.int .u64 (0)] from rfl) (Reps.none _ _))); intro vL wL ho hb hg_ hnew_; have HI := aM (Kd.R_reads ho); have HH2 := aM (blk_below HH.out hb); have HW2 := aM (HW.out.below hb); clear HH HW; have HH := HH2; have HW := HW2; clear HH2 HW2; clear c0 c1 c2; (try clear g0); (try clear g3 f3); obtain ⟨c0, c1, c2⟩ := cells3 HH.out; have g0 := cellOfBlk HW.out.at_; clear ho hg_ hnew_ hb; obtain ⟨Ai, ci, rfl, hi1, hi2⟩ := HI.out; have HIC := aM hi1; have HIR := aM hi2; clear HI hi1 hi2) | ((with_reducible refine gate_dst (N := 57) rfl ?_); refine goesL_ (some 57) rfl rfl Tryd.func41 (by kernel_rfl) rfl #[.pointer (some ⟨gw, 0, none⟩), .int .i64 4, .slice Ai 1 ci] rfl (by (try simp only [List.map_toArray, List.map_cons, List.map_nil]); first | done | rfl) ?_; refine (put_at gw _ _ 4 Ai ci ([0] : List Int) _ w1 _ HG.out HW.out HIR.out HIC.out HP5.out).mono ?_; rintro e w' ⟨rfl, ⟨v', hW'⟩, hK'⟩; refine ⟨_, rfl, ?_⟩; clear HIR HIC; have HH2 := aM (hK' _ _ _ HH.out (by decide) (by decide)); have HW2 := aM hW'; clear HH HW hW'; have HH := HH2; have HW := HW2; clear HH2 HW2; clear c0 c1 c2; (try clear g0); (try clear g3 f3); obtain ⟨c0, c1, c2⟩ := cells3 HH.out; have g0 := cellOfBlk HW.out.at_) | ((with_reducible refine gate_dst (N := 63) rfl ?_); refine Kd.R_lit (Kd.int .u64) _ 24 ?hg (N := 63) ?hd (xs := ([64, 56, (ps.length : Int), 0, 0, 0] : List Int)) (inner := [.int .u64 64, .int .u64 56, .int .u64 (ps.length : Int), .int .u64 0, .int .u64 0, .int .u64 0]) (ok := fun _ => True) (okp := fun _ => True) ?hr ?hp (fun _ hk => hk) trivial (Below.refl _ _) (Nat.le_refl _) (by simp) ?_; (case hd => rfl); (case hg => rfl); (case hr => first | (go_simp; done) | (go_simp; rfl)); (case hp => exact (Reps.one (show Kd.M (Kd.int .u64) _ _ _ (64) [.int .u64 (64)] from rfl) (Reps.one (show Kd.M (Kd.int .u64) _ _ _ (56) [.int .u64 (56)] from rfl) (Reps.one (show Kd.M (Kd.int .u64) _ _ _ ((ps.length : Int)) [.int .u64 ((ps.length : Int))] from rfl) (Reps.one (show Kd.M (Kd.int .u64) _ _ _ (0) [.int .u64 (0)] from rfl) (Reps.one (show Kd.M (Kd.int .u64) _ _ _ (0) [.int .u64 (0)] from rfl) (Reps.one (show Kd.M (Kd.int .u64) _ _ _ (0) [.int .u64 (0)] from rfl) (Reps.none _ _)))))))); intro vL wL ho hb hg_ hnew_; have HI := aM (Kd.R_reads ho); have HH2 := aM (blk_below HH.out hb); have HW2 := aM (HW.out.below hb); clear HH HW; have HH := HH2; have HW := HW2; clear HH2 HW2; clear c0 c1 c2; (try clear g0); (try clear g3 f3); obtain ⟨c0, c1, c2⟩ := cells3 HH.out; have g0 := cellOfBlk HW.out.at_; clear ho hg_ hnew_ hb; obtain ⟨Ai, ci, rfl, hi1, hi2⟩ := HI.out; have HIC := aM hi1; have HIR := aM hi2; clear HI hi1 hi2) | ((with_reducible refine gate_dst (N := 64) rfl ?_); refine goesL_ (some 64) rfl rfl Tryd.func41 (by kernel_rfl) rfl #[.pointer (some ⟨gw, 0, none⟩), .int .i64 2, .slice Ai 6 ci] rfl (by (try simp only [List.map_toArray, List.map_cons, List.map_nil]); first | done | rfl) ?_; refine (put_at gw _ _ 2 Ai ci ([64, 56, (ps.length : Int), 0, 0, 0] : List Int) _ w1 _ HG.out HW.out HIR.out HIC.out HP6.out).mono ?_; rintro e w' ⟨rfl, ⟨v', hW'⟩, hK'⟩; refine ⟨_, rfl, ?_⟩; clear HIR HIC; have HH2 := aM (hK' _ _ _ HH.out (by decide) (by decide)); have HW2 := aM hW'; clear HH HW hW'; have HH := HH2; have HW := HW2; clear HH2 HW2; clear c0 c1 c2; (try clear g0); (try clear g3 f3); obtain ⟨c0, c1, c2⟩ := cells3 HH.out; have g0 := cellOfBlk HW.out.at_))

   clear e1 e2 e3 e4
   go_loopg [68] (ps.length + 1) (fun kq v68 w' => ∃ (i : Nat) (v : Value) (b : List Int), v68 = .int .i64 (i : Int) ∧ Aside0 (i + kq = ps.length + 1 ∧ i ≤ ps.length) ∧ Aside0 (putProgs (ps.drop i) b = some b7) ∧ Aside0 (Wtr w1 w' gw v b) ∧ Aside0 (w'.heap[gh]? = some (.cells #[.int .i64 3, .int .u64 en, .slice A ps.length c] 27 (0, 0))))
   case atStart => exact ⟨0, _, b6, rfl, ⟨by omega, by omega⟩, HP7, HW, HH⟩
   case round =>
    clear HW HH HP1 HP2 HP3 HP4 HP5 HP6 HP7
    (try clear g0)
    (try clear c0 c1 c2)
    obtain ⟨i, v, b, rfl, HK, HP, HW, HH⟩ := hrel
    cases gk with
    | zero => exact absurd HK.out (by omega)
    | succ k1 =>
     by_cases hi : i < ps.length
     ·have hi2 : decide ((i : Int) < (ps.length : Int)) = true := decide_eq_true (by omega); have hi4 : decide (i < ps.length) = true := decide_eq_true hi
      have hwi : wrap64 ((i : Int) + 1) = ((i + 1 : Nat) : Int) := by rw [hd_wrap64 (by omega) (by have := HN.out; omega)]; omega
      obtain ⟨ad, rfl, t0, t1, t2, t3, t4, t5, t6⟩ := at_T50 (Kd.C_below HRP.out HW.out.bel) (i : Int) (by omega) (by omega)
      have eX : rd_T50 ps i = ps[i] := by simp [rd_T50, List.getD_eq_getElem?_getD, List.getElem?_eq_getElem hi]
      have hx := HP.out; rw [List.drop_eq_getElem_cons hi, putProgs] at hx; have hall := HALL.out ps[i] (List.getElem_mem hi); obtain ⟨X, hX⟩ : ∃ X, ps[i] = X := ⟨_, rfl⟩; rw [eX, hX] at t0 t1 t2 t3 t4 t5 t6; rw [hX] at hx hall; simp only [Int.toNat_natCast] at t0 t1 t2 t3 t4 t5 t6; have wf0 : IntKind.u64.wrap X.f0 = X.f0 := hd_uwrap hall.1.1 (by have := hall.1.2; omega); have wf1 : IntKind.u64.wrap X.f1 = X.f1 := hd_uwrap hall.2.1 (by have := hall.2.2; omega); rw [Option.bind_eq_some_iff] at hx; obtain ⟨q1, hq1, hx⟩ := hx; rw [Option.bind_eq_some_iff] at hx; obtain ⟨q2, hq2, hx⟩ := hx; have HQ1 := aM hq1; have HQ2 := aM hq2; have HP2 := aM hx; have p0 := eq_true (show (0 : Int) ≤ (i : Int) by omega); have q0 := eq_true (show (i : Int) < (ps.length : Int) by omega); obtain ⟨w5, gx, e5, e6, hx5, hb5⟩ := alloc_named wr (.cells #[.int .u32 X.f0, .int .u32 X.f1, .int .u64 X.f2, .int .u64 X.f3, .int .u64 X.f4, .int .u64 X.f5, .int .u64 X.f6] 50); have HW2 := aM (HW.out.below hb5); have HH2 := aM (blk_below HH.out hb5); have HX := aM (show w5.heap[gx]? = some (.cells (cells50 X) 50 (0, 0)) from hx5); have HWI := aM hwi; have HI := aM hi; clear HW HH hx hall hq1 hq2 HP eX hX hx5 hb5 hwi hi; have HW := HW2; have HH := HH2; clear HW2 HH2; obtain ⟨x0, x1, x2, x3, x4, x5, x6⟩ := cells_at HX.out; obtain ⟨c0, c1, c2⟩ := cells3 HH.out
      go_wp2_with (first | ((with_reducible refine gate_dst (N := 79) rfl ?_); refine Kd.R_lit (Kd.int .u64) _ 24 ?hg (N := 79) ?hd (xs := ([X.f0, X.f1] : List Int)) (inner := [.int .u64 X.f0, .int .u64 X.f1]) (ok := fun _ => True) (okp := fun _ => True) ?hr ?hp (fun _ hk => hk) trivial (Below.refl _ _) (Nat.le_refl _) (by simp) ?_; (case hd => rfl); (case hg => rfl); (case hr => first | (go_simp; done) | (go_simp; rfl)); (case hp => exact (Reps.one (show Kd.M (Kd.int .u64) _ _ _ (X.f0) [.int .u64 (X.f0)] from rfl) (Reps.one (show Kd.M (Kd.int .u64) _ _ _ (X.f1) [.int .u64 (X.f1)] from rfl) (Reps.none _ _)))); intro vL wL ho hb hg_ hnew_; have HI := aM (Kd.R_reads ho); have HH2 := aM (blk_below HH.out hb); have HW2 := aM (HW.out.below hb); clear HH HW; have HH := HH2; have HW := HW2; clear HH2 HW2; clear x0 x1 x2 x3 x4 x5 x6; have HX2 := aM (blk_below HX.out hb); clear HX; have HX := HX2; clear HX2; obtain ⟨x0, x1, x2, x3, x4, x5, x6⟩ := cells_at HX.out; clear c0 c1 c2; (try clear g0); (try clear g3 f3); obtain ⟨c0, c1, c2⟩ := cells3 HH.out; have g0 := cellOfBlk HW.out.at_; clear ho hg_ hnew_ hb; obtain ⟨Ai, ci, rfl, hi1, hi2⟩ := HI.out; have HIC := aM hi1; have HIR := aM hi2; clear HI hi1 hi2) | ((with_reducible refine gate_dst (N := 80) rfl ?_); refine goesL_ (some 80) rfl rfl Tryd.func41 (by kernel_rfl) rfl #[.pointer (some ⟨gw, 0, none⟩), .int .i64 4, .slice Ai 2 ci] rfl (by (try simp only [List.map_toArray, List.map_cons, List.map_nil]); first | done | rfl) ?_; refine (put_at gw _ _ 4 Ai ci ([X.f0, X.f1] : List Int) _ w1 _ HG.out HW.out HIR.out HIC.out HQ1.out).mono ?_; rintro e w' ⟨rfl, ⟨v', hW'⟩, hK'⟩; refine ⟨_, rfl, ?_⟩; clear HIR HIC; have HH2 := aM (hK' _ _ _ HH.out (by decide) (by decide)); have HW2 := aM hW'; clear HH HW hW'; have HH := HH2; have HW := HW2; clear HH2 HW2; clear x0 x1 x2 x3 x4 x5 x6; have HX2 := aM (hK' _ _ _ HX.out (by decide) (by decide)); clear HX hK'; have HX := HX2; clear HX2; obtain ⟨x0, x1, x2, x3, x4, x5, x6⟩ := cells_at HX.out; clear c0 c1 c2; (try clear g0); (try clear g3 f3); obtain ⟨c0, c1, c2⟩ := cells3 HH.out; have g0 := cellOfBlk HW.out.at_) | ((with_reducible refine gate_dst (N := 94) rfl ?_); refine Kd.R_lit (Kd.int .u64) _ 24 ?hg (N := 94) ?hd (xs := ([X.f2, X.f3, X.f3, X.f4, X.f5, X.f6] : List Int)) (inner := [.int .u64 X.f2, .int .u64 X.f3, .int .u64 X.f3, .int .u64 X.f4, .int .u64 X.f5, .int .u64 X.f6]) (ok := fun _ => True) (okp := fun _ => True) ?hr ?hp (fun _ hk => hk) trivial (Below.refl _ _) (Nat.le_refl _) (by simp) ?_; (case hd => rfl); (case hg => rfl); (case hr => first | (go_simp; done) | (go_simp; rfl)); (case hp => exact (Reps.one (show Kd.M (Kd.int .u64) _ _ _ (X.f2) [.int .u64 (X.f2)] from rfl) (Reps.one (show Kd.M (Kd.int .u64) _ _ _ (X.f3) [.int .u64 (X.f3)] from rfl) (Reps.one (show Kd.M (Kd.int .u64) _ _ _ (X.f3) [.int .u64 (X.f3)] from rfl) (Reps.one (show Kd.M (Kd.int .u64) _ _ _ (X.f4) [.int .u64 (X.f4)] from rfl) (Reps.one (show Kd.M (Kd.int .u64) _ _ _ (X.f5) [.int .u64 (X.f5)] from rfl) (Reps.one (show Kd.M (Kd.int .u64) _ _ _ (X.f6) [.int .u64 (X.f6)] from rfl) (Reps.none _ _)))))))); intro vL wL ho hb hg_ hnew_; have HI := aM (Kd.R_reads ho); have HH2 := aM (blk_below HH.out hb); have HW2 := aM (HW.out.below hb); clear HH HW; have HH := HH2; have HW := HW2; clear HH2 HW2; clear x0 x1 x2 x3 x4 x5 x6; have HX2 := aM (blk_below HX.out hb); clear HX; have HX := HX2; clear HX2; obtain ⟨x0, x1, x2, x3, x4, x5, x6⟩ := cells_at HX.out; clear c0 c1 c2; (try clear g0); (try clear g3 f3); obtain ⟨c0, c1, c2⟩ := cells3 HH.out; have g0 := cellOfBlk HW.out.at_; clear ho hg_ hnew_ hb; obtain ⟨Ai, ci, rfl, hi1, hi2⟩ := HI.out; have HIC := aM hi1; have HIR := aM hi2; clear HI hi1 hi2) | ((with_reducible refine gate_dst (N := 95) rfl ?_); refine goesL_ (some 95) rfl rfl Tryd.func41 (by kernel_rfl) rfl #[.pointer (some ⟨gw, 0, none⟩), .int .i64 8, .slice Ai 6 ci] rfl (by (try simp only [List.map_toArray, List.map_cons, List.map_nil]); first | done | rfl) ?_; refine (put_at gw _ _ 8 Ai ci ([X.f2, X.f3, X.f3, X.f4, X.f5, X.f6] : List Int) _ w1 _ HG.out HW.out HIR.out HIC.out HQ2.out).mono ?_; rintro e w' ⟨rfl, ⟨v', hW'⟩, hK'⟩; refine ⟨_, rfl, ?_⟩; clear HIR HIC; have HH2 := aM (hK' _ _ _ HH.out (by decide) (by decide)); have HW2 := aM hW'; clear HH HW hW'; have HH := HH2; have HW := HW2; clear HH2 HW2; clear x0 x1 x2 x3 x4 x5 x6; have HX2 := aM (hK' _ _ _ HX.out (by decide) (by decide)); clear HX hK'; have HX := HX2; clear HX2; obtain ⟨x0, x1, x2, x3, x4, x5, x6⟩ := cells_at HX.out; clear c0 c1 c2; (try clear g0); (try clear g3 f3); obtain ⟨c0, c1, c2⟩ := cells3 HH.out; have g0 := cellOfBlk HW.out.at_))
      go_roundg k1
      case measure => omega
      case rel => exact ⟨i + 1, _, _, by rw [HWI.out], ⟨by have := HK.out; have := HI.out; omega⟩, HP2, HW, HH⟩
     ·have hi2 : decide ((i : Int) < (ps.length : Int)) = false := decide_eq_false (by omega); have hi4 : decide (i < ps.length) = false := decide_eq_false hi; have hx := HP.out; rw [List.drop_eq_nil_of_le (by omega), putProgs] at hx; obtain rfl := Option.some.inj hx; obtain ⟨Av, cv, rfl⟩ := Kd.R_slice HW.out.own; have g0 := cellOfBlk HW.out.at_; have g1 := cellOfBlk1 HW.out.at_; clear hi hx HK HP
      go_wp2
      go_quiet (fail)
      go_wp2
      go_ret2
      exact ⟨_, rfl, Kd.R_drewN (Kd.R_lower HW.out.own (below_size HW1.out)) nq, pw_below_drewN (below_step HW1.out HW.out.bel) nq⟩
def head_Write.f (a0_0 : Int) (a0_1 : Int) (l0_2 : List (S50)) : Option (List Int × Option Int) := writeF a0_0 a0_1 l0_2
theorem head_Write.calls (a0_0 : Int) (a0_1 : Int) (A0_2 : Option Addr) (c0_2 : Nat) (l0_2 : List (S50)) (r1 : List Int) (r2 : Option Int) (w : World) (hr0_2 : Kd.C k50 w A0_2 l0_2.length l0_2) (hc0_2 : l0_2.length ≤ c0_2) (h : head_Write.f a0_0 a0_1 l0_2 = some (r1, r2)) :
  Calls Tryd.prog 16 #[.agg #[.int .i64 a0_0, .int .u64 a0_1, .slice A0_2 l0_2.length c0_2]] w fun e w' => ∃ v0_ : Value, e = .returned (.tuple #[v0_, errW r2]) ∧ Kd.R (Kd.int .u8) 5 w' w.heap.size (fun _ => True) v0_ r1 ∧ Below w.heap.size w w' :=
 write_at a0_0 a0_1 A0_2 c0_2 l0_2 r1 r2 w hr0_2 hc0_2 h

/-! ### reflectlite_ValueOf: function 82 (by hand) -/
-- internal/reflectlite.ValueOf: within shacklelaw00.Is, which is walked by hand

/-! ### reflectlite_Value_Type: function 83 (by hand) -/
-- (internal/reflectlite.Value).Type: within shacklelaw00.Is, which is walked by hand

/-! ### reflectlite_Value_IsNil: function 84 (by hand) -/
-- (internal/reflectlite.Value).IsNil: within shacklelaw00.Is, which is walked by hand

/-! ### reflectlite_TypeOf: function 86 (by hand) -/
-- internal/reflectlite.TypeOf: within shacklelaw00.Is, which is walked by hand

/-! ### reflectlite_Value_Elem: function 108 (by hand) -/
-- (internal/reflectlite.Value).Elem: within shacklelaw00.Is, which is walked by hand

/-! ### reflectlite_Value_Set: function 109 (by hand) -/
-- (internal/reflectlite.Value).Set: within shacklelaw00.Is, which is walked by hand

/-! ### errors_as: function 85 (by hand) -/
-- errors.as: within shacklelaw00.Is, which is walked by hand

/-! ### errors_As: function 49 (by hand) -/
-- errors.As: within shacklelaw00.Is, which is walked by hand

/-! ### errors_is: function 87 (by hand) -/
-- errors.is: within shacklelaw00.Is, which is walked by hand

/-! ### errors_Is: function 50 (by hand) -/
-- errors.Is: within shacklelaw00.Is, which is walked by hand

/-! ### shacklelaw00_Is: function 22 (by hand) -/
def shacklelaw00_Is.f (a0 : Option Int) (a1 a2 : Int) : Option Bool := isF a0 a1 a2
theorem shacklelaw00_Is.calls (e0 : Value) (a0 : Option Int) (a1 a2 : Int) (r : Bool) (w : World) (hG : ErrTy w) (he0 : ErrAt 32 103 105 w 0 a0 e0) (h : shacklelaw00_Is.f a0 a1 a2 = some r) :
  Calls Tryd.prog 22 #[e0, .int .u64 a1, .int .i64 a2] w fun e w' => e = .returned (.bool r) ∧ Below w.heap.size w w' := isF_calls e0 a0 a1 a2 r w he0 hG h

/-! ### shacklelaw04_shown: function 8 (by hand) -/
/-! ### shown: the document's examples -/
def B120 : List Int := [127, 69, 76, 70, 2, 1, 1, 0, 0, 0, 0, 0, 0, 0, 0, 0, 3, 0, 62, 0, 1, 0, 0, 0, 0, 0, 0, 0, 0, 0, 0, 0, 64, 0, 0, 0, 0, 0, 0, 0, 0, 0, 0, 0, 0, 0, 0, 0, 0, 0, 0, 0, 64, 0, 56, 0, 1, 0, 0, 0, 0, 0, 0, 0, 1, 0, 0, 0, 0, 0, 0, 0, 0, 0, 0, 0, 0, 0, 0, 0, 0, 0, 0, 0, 0, 0, 0, 0, 0, 0, 0, 0, 0, 0, 0, 0, 0, 0, 0, 0, 0, 0, 0, 0, 1, 0, 0, 0, 0, 0, 0, 0, 0, 16, 0, 0, 0, 0, 0, 0]
theorem len120 : B120.length = 120 := rfl
theorem len121 : (B120 ++ [7]).length = 121 := rfl
theorem sh1 : readV [] = (0, 0, [], some (spZ 0 4)) := by kernel_rfl
theorem sh2 : readV (List.replicate 64 0) = (0, 0, [], some (spZ 0 3)) := by kernel_rfl
theorem sh3 : writeF 3 0 [⟨1, 0, 0, 0, 0, 1, 4096⟩] = some (B120, none) := by kernel_rfl
theorem sh4 : readV (B120 ++ [7]) = (3, 0, [⟨1, 0, 0, 0, 0, 1, 4096⟩], none) := by kernel_rfl
theorem sh5 : interpF [] [] = some (⟨#[]⟩, some 6) := by kernel_rfl
theorem sh6 : isF (some (spZ 0 4)) 0 4 = some true := by kernel_rfl
theorem sh8 : writeF 4 0 [] = some ([], some 1) := by kernel_rfl
theorem sh7 : isF (some (spZ 0 3)) 0 3 = some true := by kernel_rfl
theorem Kd.C_nil_u8 (w : World) : Kd.C (Kd.int .u8) w none 0 [] := (Kd.R_reads' (Kd.R_nil (Kd.int .u8) 5 w 0 (fun _ => True))).2.2
theorem Kd.C_nil_50 (w : World) : Kd.C k50 w none 0 [] := (Kd.R_reads' (Kd.R_nil k50 50 w 0 (fun _ => True))).2.2
theorem w4_at (w : World) : Calls Tryd.prog 16 #[.agg #[.int .i64 4, .int .u64 0, .slice none 0 0]] w fun e w' => ∃ v : Value, e = .returned (.tuple #[v, .iface 32 (.int .i64 1)]) ∧ Kd.R (Kd.int .u8) 5 w' w.heap.size (fun _ => True) v [] ∧ Below w.heap.size w w' :=
 write_at 4 0 none 0 [] [] (some 1) w (Kd.C_nil_50 w) (Nat.le_refl _) sh8
theorem i0_at (w : World) : Calls Tryd.prog 14 #[.slice none 0 0, .agg #[.int .i64 0, .int .u64 0, .slice none 0 0]] w fun e w' => ∃ ve : Value, e = .returned (.tuple #[.string ⟨#[]⟩, ve]) ∧ ErrAt 32 103 105 w' w.heap.size (some 6) ve ∧ Below w.heap.size w w' :=
 interp_at none 0 [] 0 0 none 0 [] ⟨#[]⟩ (some 6) w (Kd.C_nil_u8 w) (Nat.le_refl _) (Kd.C_nil_50 w) (Nat.le_refl _) sh5
set_option maxHeartbeats 16000000 in
set_option maxRecDepth 100000 in
theorem shown_at (w : World) (hG : ErrTy w) : Calls Tryd.prog 8 #[] w fun e w' => e = .returned (.bool true) ∧ Below w.heap.size w w' := by
 have hu27 := Tryd.underlying27; have hu29 := Tryd.underlying29; have hu32 := Tryd.underlying32; have hu50 := Tryd.underlying50
 have hcm32 : (Tryd.prog.info? 32).map (fun i => i.comparable) = some true := by kernel_rfl
 have HG := aM hG; have HB := aM (Below.refl w.heap.size w); clear hG
 go_enter Tryd.func8, Tryd.ntmps8
 go_wp2_with (first | ((with_reducible refine gate_dst (N := 16) rfl ?_); refine goesL_ (some 16) rfl rfl Tryd.func9 (by kernel_rfl) rfl #[.slice none 0 0] rfl (by (try simp only [List.map_toArray, List.map_cons, List.map_nil]); first | done | rfl) ?_; (have hcon := read_at none 0 [] _ (ErrTy.below (by repeat (first | exact HB.out | apply bA | apply bN | apply bD)) HG.out).2 (Kd.C_nil_u8 _) (Nat.le_refl _) (by decide)); rw [sh1] at hcon; refine hcon.mono ?_; clear hcon; rintro e w2 ⟨v, ve1, rfl, hE, hO, hb⟩; refine ⟨_, rfl, ?_⟩; have HE1 := aM (ErrAt.lower hE (Nat.zero_le _)); have HO := aM hO; obtain ⟨Aq, cq, rfl⟩ := Kd.R_slice hO; clear hE hO; have HB2 := aM (below_step (by repeat (first | exact HB.out | apply bA | apply bN | apply bD)) hb); clear HB; have HB := HB2; clear HB2; clear hb HO) | ((with_reducible refine gate_dst (N := 20) rfl ?_); refine Kd.R_make (Kd.int .u8) (w0 := w) w.heap.size 5 rfl (N := 20) rfl 22 (.const (.int .i64 64)) (.const (.int .i64 64)) rfl 64 rfl rfl Tryd.underlying22 (.int .u8 0) 1 info5 rfl (by decide) (by decide) 0 (ok := fun _ => True) (okp := fun _ => True) rfl (fun _ hk => hk) trivial (by decide) (by decide) (by repeat (first | exact HB.out | apply bA | apply bN | apply bD)) (below_size (by repeat (first | exact HB.out | apply bA | apply bN | apply bD))) ?_; intro v3 w3 hO hb hg_ hn_; have HO := aM hO; obtain ⟨Am, cm, rfl⟩ := Kd.R_slice hO; clear hO hn_; have HE1_ := aM (ErrAt.grown (by repeat (first | exact HE1.out | apply ErrAt.alloc)) hg_ (fun _ _ _ => by simp)); clear HE1 hg_; have HE1 := HE1_; clear HE1_; have HB2 := aM hb; clear HB hb; have HB := HB2; clear HB2; simp only [List.length_replicate, Int.reduceToNat]) | ((with_reducible refine gate_dst (N := 21) rfl ?_); refine goesL_ (some 21) rfl rfl Tryd.func9 (by kernel_rfl) rfl #[.slice Am 64 cm] rfl (by (try simp only [List.map_toArray, List.map_cons, List.map_nil]); first | done | rfl) ?_; (have hcon := read_at Am cm (List.replicate 64 0) _ (ErrTy.below (by repeat (first | exact HB.out | apply bA | apply bN | apply bD)) HG.out).2 (Kd.R_reads' HO.out).2.2 (Kd.R_reads' HO.out).2.1 (by decide)); rw [sh2] at hcon; refine hcon.mono ?_; clear hcon; rintro e w4 ⟨v, ve2, rfl, hE, hO, hb⟩; refine ⟨_, rfl, ?_⟩; have HE2 := aM (ErrAt.lower hE (Nat.zero_le _)); obtain ⟨Ar, cr, rfl⟩ := Kd.R_slice hO; clear hE hO HO; have HE1_ := aM (ErrAt.below (by repeat (first | exact HE1.out | apply ErrAt.alloc)) hb); clear HE1; have HE1 := HE1_; clear HE1_; have HB2 := aM (below_step (by repeat (first | exact HB.out | apply bA | apply bN | apply bD)) hb); clear HB; have HB := HB2; clear HB2; clear hb) | ((with_reducible refine gate_dst (N := 26) rfl ?_); refine goesL_ (some 26) rfl rfl Tryd.func16 (by kernel_rfl) rfl #[.agg #[.int .i64 4, .int .u64 0, .slice none 0 0]] rfl (by (try simp only [List.map_toArray, List.map_cons, List.map_nil]); first | done | rfl) ?_; refine (w4_at _).mono ?_; rintro e w5 ⟨v5, rfl, hO, hb⟩; refine ⟨_, rfl, ?_⟩; obtain ⟨As, cs, rfl⟩ := Kd.R_slice hO; clear hO; have HE1_ := aM (ErrAt.below (by repeat (first | exact HE1.out | apply ErrAt.alloc)) hb); clear HE1; have HE1 := HE1_; clear HE1_; have HE2_ := aM (ErrAt.below (by repeat (first | exact HE2.out | apply ErrAt.alloc)) hb); clear HE2; have HE2 := HE2_; clear HE2_; have HB2 := aM (below_step (by repeat (first | exact HB.out | apply bA | apply bN | apply bD)) hb); clear HB; have HB := HB2; clear HB2; clear hb) | ((with_reducible refine gate_dst (N := 31) rfl ?_); refine goesL_ (some 31) rfl rfl Tryd.func14 (by kernel_rfl) rfl #[.slice none 0 0, .agg #[.int .i64 0, .int .u64 0, .slice none 0 0]] rfl (by (try simp only [List.map_toArray, List.map_cons, List.map_nil]); first | done | rfl) ?_; refine (i0_at _).mono ?_; rintro e w6 ⟨ve4, rfl, hE, hb⟩; refine ⟨_, rfl, ?_⟩; obtain rfl := ErrAt.code_eq hE (by decide); clear hE; have HE1_ := aM (ErrAt.below (by repeat (first | exact HE1.out | apply ErrAt.alloc)) hb); clear HE1; have HE1 := HE1_; clear HE1_; have HE2_ := aM (ErrAt.below (by repeat (first | exact HE2.out | apply ErrAt.alloc)) hb); clear HE2; have HE2 := HE2_; clear HE2_; have HB2 := aM (below_step (by repeat (first | exact HB.out | apply bA | apply bN | apply bD)) hb); clear HB; have HB := HB2; clear HB2; clear hb) | ((with_reducible refine gate_dst (N := 36) rfl ?_); refine Kd.R_lit k50 (w0 := w) w.heap.size 50 ?hg (N := 36) ?hd (xs := ([⟨1, 0, 0, 0, 0, 1, 4096⟩] : List S50)) (inner := [.int .u32 1, .int .u32 0, .int .u64 0, .int .u64 0, .int .u64 0, .int .u64 1, .int .u64 4096]) (ok := fun _ => True) (okp := fun _ => True) ?hr ?hp (fun _ hk => hk) trivial (by repeat (first | exact HB.out | apply bA | apply bN | apply bD)) (below_size (by repeat (first | exact HB.out | apply bA | apply bN | apply bD))) (by decide) ?_; (case hd => rfl); (case hg => rfl); (case hr => first | (go_simp; done) | (go_simp; rfl)); (case hp => exact (Reps.c7 (k50_mkM _ _ _ ⟨1, 0, 0, 0, 0, 1, 4096⟩) (Reps.none _ _))); intro v7 w7 hO hb hg_ hn_; have HO := aM hO; obtain ⟨At, ct, rfl⟩ := Kd.R_slice hO; clear hO hn_; have HE1_ := aM (ErrAt.grown (by repeat (first | exact HE1.out | apply ErrAt.alloc)) hg_ (fun _ _ _ => by simp)); clear HE1; have HE1 := HE1_; clear HE1_; have HE2_ := aM (ErrAt.grown (by repeat (first | exact HE2.out | apply ErrAt.alloc)) hg_ (fun _ _ _ => by simp)); clear HE2 hg_; have HE2 := HE2_; clear HE2_; have HB2 := aM hb; clear HB hb; have HB := HB2; clear HB2) | ((with_reducible refine gate_dst (N := 38) rfl ?_); refine goesL_ (some 38) rfl rfl Tryd.func16 (by kernel_rfl) rfl #[.agg #[.int .i64 3, .int .u64 0, .slice At 1 ct]] rfl (by (try simp only [List.map_toArray, List.map_cons, List.map_nil]); first | done | rfl) ?_; (have hcon := write_at 3 0 At ct [⟨1, 0, 0, 0, 0, 1, 4096⟩] B120 none _ (Kd.R_reads' HO.out).2.2 (Kd.R_reads' HO.out).2.1 sh3); simp only [errW_none, len120] at hcon; refine hcon.mono ?_; clear hcon; rintro e w8 ⟨v8, rfl, hO, hb⟩; refine ⟨_, rfl, ?_⟩; have HOb := aM (Kd.R_lower hO (below_size (by repeat (first | exact HB.out | apply bA | apply bN | apply bD)))); obtain ⟨Ab, cb, rfl⟩ := Kd.R_slice hO; clear hO HO; have HE1_ := aM (ErrAt.below (by repeat (first | exact HE1.out | apply ErrAt.alloc)) hb); clear HE1; have HE1 := HE1_; clear HE1_; have HE2_ := aM (ErrAt.below (by repeat (first | exact HE2.out | apply ErrAt.alloc)) hb); clear HE2; have HE2 := HE2_; clear HE2_; have HB2 := aM (below_step (by repeat (first | exact HB.out | apply bA | apply bN | apply bD)) hb); clear HB; have HB := HB2; clear HB2; clear hb) | ((with_reducible refine gate_builtin (b := .append) (xs := #[.tmp 42, .tmp 43]) rfl ?_); at_builtin; refine Kd.R_append (Kd.int .u8) (w0 := w) w.heap.size rfl (.tmp 42) (.tmp 43) 22 5 (.int .u8 0) 1 rfl Tryd.underlying22 info5 rfl (by decide) (by decide) (.slice Ab 120 cb) B120 7 [.int .u8 7] (fun _ => True) (fun _ => False) rfl rfl rfl (fun _ hk => hk.elim) (fun _ _ => trivial) HOb.out HB.out (below_size HB.out) (by rw [len120]; decide) ?_; intro v9 w9 hO hb hg_ hat_; have HO := aM hO; obtain ⟨Au, cu, rfl⟩ := Kd.R_slice hO; clear hO hat_; have HE1_ := aM (ErrAt.grown HE1.out hg_ (fun _ _ h_ => Kd.R_ne HOb.out h_ (by decide))); have HE2_ := aM (ErrAt.grown HE2.out hg_ (fun _ _ h_ => Kd.R_ne HOb.out h_ (by decide))); clear HE1 HE2 HOb hg_; have HE1 := HE1_; have HE2 := HE2_; clear HE1_ HE2_; have HB2 := aM hb; clear HB hb; have HB := HB2; clear HB2; simp only [len121]) | ((with_reducible refine gate_dst (N := 45) rfl ?_); refine goesL_ (some 45) rfl rfl Tryd.func9 (by kernel_rfl) rfl #[.slice Au 121 cu] rfl (by (try simp only [List.map_toArray, List.map_cons, List.map_nil]); first | done | rfl) ?_; (have hcon := read_at Au cu (B120 ++ [7]) _ (ErrTy.below (by repeat (first | exact HB.out | apply bA | apply bN | apply bD)) HG.out).2 (Kd.R_reads' HO.out).2.2 (Kd.R_reads' HO.out).2.1 (by rw [len121]; decide)); rw [sh4] at hcon; refine hcon.mono ?_; clear hcon; rintro e w10 ⟨v, ve6, rfl, hE, hO, hb⟩; refine ⟨_, rfl, ?_⟩; obtain rfl := ErrAt.none_eq hE; obtain ⟨Av, cv, rfl⟩ := Kd.R_slice hO; clear hE hO HO; have HE1_ := aM (ErrAt.below (by repeat (first | exact HE1.out | apply ErrAt.alloc)) hb); clear HE1; have HE1 := HE1_; clear HE1_; have HE2_ := aM (ErrAt.below (by repeat (first | exact HE2.out | apply ErrAt.alloc)) hb); clear HE2; have HE2 := HE2_; clear HE2_; have HB2 := aM (below_step (by repeat (first | exact HB.out | apply bA | apply bN | apply bD)) hb); clear HB; have HB := HB2; clear HB2; clear hb) | ((with_reducible refine gate_dst (N := 49) rfl ?_); refine goesL_ (some 49) rfl rfl Tryd.func22 (by kernel_rfl) rfl #[ve1, .int .u64 0, .int .i64 4] rfl (by (try simp only [List.map_toArray, List.map_cons, List.map_nil]); first | done | rfl) ?_; refine (isF_calls ve1 (some (spZ 0 4)) 0 4 true _ (by repeat (first | exact HE1.out | apply ErrAt.alloc)) (ErrTy.below (by repeat (first | exact HB.out | apply bA | apply bN | apply bD)) HG.out) sh6).mono ?_; rintro e w11 ⟨rfl, hb⟩; refine ⟨_, rfl, ?_⟩; have xf0 := (hb.cell (p := ⟨_, 0, none⟩) (by simp)).trans (World.cell?_alloc_at _ _ _ _ rfl); have xf2 := (hb.cell (p := ⟨_, 2, none⟩) (by simp)).trans (World.cell?_alloc_at _ _ _ _ rfl); simp at xf0 xf2; have HE2_ := aM (ErrAt.below (by repeat (first | exact HE2.out | apply ErrAt.alloc)) hb); clear HE2; have HE2 := HE2_; clear HE2_; have HB2 := aM (below_step (by repeat (first | exact HB.out | apply bA | apply bN | apply bD)) hb); clear HB; have HB := HB2; clear HB2; clear hb HE1) | ((with_reducible refine gate_dst (N := 51) rfl ?_); refine goesL_ (some 51) rfl rfl Tryd.func22 (by kernel_rfl) rfl #[ve2, .int .u64 0, .int .i64 3] rfl (by (try simp only [List.map_toArray, List.map_cons, List.map_nil]); first | done | rfl) ?_; refine (isF_calls ve2 (some (spZ 0 3)) 0 3 true _ HE2.out (ErrTy.below HB.out HG.out) sh7).mono ?_; rintro e w12 ⟨rfl, hb⟩; refine ⟨_, rfl, ?_⟩; have xg0 := (hb.cell (p := ⟨_, 0, none⟩) (World.block_lt_of_cell? _ _ xf0)).trans xf0; have xg2 := (hb.cell (p := ⟨_, 2, none⟩) (World.block_lt_of_cell? _ _ xf2)).trans xf2; clear xf0 xf2; have HB2 := aM (below_step (by repeat (first | exact HB.out | apply bA | apply bN | apply bD)) hb); clear HB; have HB := HB2; clear HB2; clear hb HE2))
 go_ret
 exact ⟨rfl, HB.out⟩

def shacklelaw04_shown.f : Option (Bool) := some true
theorem shacklelaw04_shown.calls (r : Bool) (w : World) (hG : ErrTy w) (h : shacklelaw04_shown.f = some r) :
  Calls Tryd.prog 8 #[] w fun e w' => e = .returned (.bool r) ∧ Below w.heap.size w w' := by
 obtain rfl : true = r := Option.some.inj h; exact shown_at w hG

/-! ### shackleref01_Same: function 12 -/
def shackleref01_Same.l0 : Nat → List Int → List Int → Int → Option (Bool)
 | 0, _, _, _ => none
 | k + 1, x0, x1, x5 => if x5 < (x0.length : Int) then (if 0 ≤ x5 then (if x5 < (x1.length : Int) then (if (rd x0 x5) = (rd x1 x5) then (shackleref01_Same.l0 k x0 x1 (wrap64 (x5 + 1))) else (some false)) else (none)) else (none)) else (some true)
def shackleref01_Same.f (k : Nat) (l0 : List Int) (l1 : List Int) : Option (Bool) := if (l0.length : Int) = (l1.length : Int) then (shackleref01_Same.l0 k l0 l1 0) else (some false)
theorem shackleref01_Same.mono_l : ∀ k, (∀ y0 y1 y2, LeO (shackleref01_Same.l0 k y0 y1 y2) (shackleref01_Same.l0 (k + 1) y0 y1 y2))
 | 0 => fun _ _ _ r h => by simp [shackleref01_Same.l0] at h
 | k + 1 => by
  have ih0 := shackleref01_Same.mono_l k
  ·intro y0 y1 y2
   unfold shackleref01_Same.l0
   repeat' first
   | (with_reducible exact ih0 _ _ _)
   | (with_reducible exact LeO.refl _)
   | (with_reducible exact LeO.none _)
   | (with_reducible refine LeO.ite ?_ ?_)
   | (with_reducible refine LeO.bind ?_ (fun _ => ?_))
   | exact ih0 _ _ _
   | exact LeO.none _
   | refine LeO.ite ?_ ?_
   | refine LeO.bind ?_ (fun _ => ?_)
theorem shackleref01_Same.mono : ∀ a0 a1 k, LeO (shackleref01_Same.f k a0 a1) (shackleref01_Same.f (k + 1) a0 a1) := by
 intro a0 a1 k; have ih0 := shackleref01_Same.mono_l k
 unfold shackleref01_Same.f
 repeat' first
   | (with_reducible exact ih0 _ _ _)
   | (with_reducible exact LeO.refl _)
   | (with_reducible exact LeO.none _)
   | (with_reducible refine LeO.ite ?_ ?_)
   | (with_reducible refine LeO.bind ?_ (fun _ => ?_))
   | exact ih0 _ _ _
   | exact LeO.none _
   | refine LeO.ite ?_ ?_
   | refine LeO.bind ?_ (fun _ => ?_)
set_option maxHeartbeats 8000000 in
set_option maxRecDepth 100000 in
theorem shackleref01_Same.calls (k : Nat) (A0 : Option Addr) (c0 : Nat) (l0 : List Int) (A1 : Option Addr) (c1 : Nat) (l1 : List Int) (r : Bool) (w : World) (hr0 : Kd.C (Kd.int .u8) w A0 l0.length l0) (hc0 : l0.length ≤ c0) (hr1 : Kd.C (Kd.int .u8) w A1 l1.length l1) (hc1 : l1.length ≤ c1) (h : shackleref01_Same.f k l0 l1 = some r) :
  Calls Tryd.prog 12 #[.slice A0 l0.length c0, .slice A1 l1.length c1] w fun e w' => e = .returned (.bool r) ∧ Drawn0 w w' := by
 have HR0 := aM hr0; have HC0 := aM hc0; clear hr0 hc0; have HR1 := aM hr1; have HC1 := aM hc1; clear hr1 hc1; have H : (if (l0.length : Int) = (l1.length : Int) then (shackleref01_Same.l0 k l0 l1 0) else (some false)) = some r := h; clear h
 by_cases c3 : (l0.length : Int) = (l1.length : Int)
 ·rw [if_pos c3] at H; have c3b0 : ((l0.length : Int) == (l1.length : Int)) = true := beq_iff_eq.mpr c3; have c3b1 : ((l0.length : Int) != (l1.length : Int)) = false := bne_eq_false_iff_eq.mpr c3
  have c3b2 : (l0.length == l1.length) = true := by first | simpa using c3 | (simp at c3 ⊢; omega)
  clear c3; have H' := aM H; clear H
  go_enter Tryd.func12, Tryd.ntmps12
  go_wp2
  repeat (go_quiet (fail); try go_wp2)
  go_loopg [5] k (fun kq v5 w' => ∃ (x5_1 : Int), v5 = .int .i64 x5_1 ∧ Aside0 (shackleref01_Same.l0 kq l0 l1 x5_1 = some r) ∧ Aside0 (kq ≤ k) ∧ Drawn0 w w')
  case atStart => exact ⟨(0), (by first | rfl | (simp; done) | (simp [*]; done)), H', ⟨Nat.le_refl _⟩, by repeat (first | exact Drawn0.refl _ | apply Drawn0.step)⟩
  case round =>
   clear H'
   try clear c1
   try clear p2
   try clear c3
   try clear c3b0
   try clear c3b1
   try clear c3b2
   obtain ⟨x5_1, rfl, HA, HK1, ⟨m1, rfl⟩⟩ := hrel
   cases gk with
   | zero => exact absurd HA.out (by simp [shackleref01_Same.l0])
   | succ k1 =>
    have H := HA.out; clear HA; simp only [shackleref01_Same.l0] at H
    by_cases c4 : x5_1 < (l0.length : Int)
    ·rw [if_pos c4] at H; have c4b0 : decide (x5_1 < (l0.length : Int)) = true := decide_eq_true c4; clear c4
     by_cases c5 : 0 ≤ x5_1
     ·rw [if_pos c5] at H; have c5b0 : decide (0 ≤ x5_1) = true := decide_eq_true c5; clear c5
      by_cases c6 : x5_1 < (l1.length : Int)
      ·rw [if_pos c6] at H; have c6b0 : decide (x5_1 < (l1.length : Int)) = true := decide_eq_true c6; clear c6
       by_cases c7 : (rd l0 x5_1) = (rd l1 x5_1)
       ·rw [if_pos c7] at H; have c7b0 : ((rd l0 x5_1) == (rd l1 x5_1)) = true := beq_iff_eq.mpr c7; have c7b1 : ((rd l0 x5_1) != (rd l1 x5_1)) = false := bne_eq_false_iff_eq.mpr c7; clear c7; have H' := aM H; clear H; have p147 : 0 ≤ (x5_1 : Int) := of_decide_eq_true (by first | (with_reducible assumption) | assumption); have q147 : x5_1 < (l0.length : Int) := of_decide_eq_true (by first | (with_reducible assumption) | assumption); obtain ⟨ad147, e147, hx147_0⟩ := Kd.at_int HR0.out x5_1 p147 q147
        cases e147
        replace p147 := eq_true p147; replace q147 := eq_true q147; have p148 : 0 ≤ (x5_1 : Int) := of_decide_eq_true (by first | (with_reducible assumption) | assumption); have q148 : x5_1 < (l1.length : Int) := of_decide_eq_true (by first | (with_reducible assumption) | assumption); obtain ⟨ad148, e148, hx148_0⟩ := Kd.at_int HR1.out x5_1 p148 q148
        cases e148
        replace p148 := eq_true p148; replace q148 := eq_true q148
        go_wp2
        repeat (go_quiet (fail); try go_wp2)
        go_roundg k1
        case measure => have := HK1.out; omega
        case rel => exact ⟨(wrap64 (x5_1 + 1)), (by first | rfl | (simp; done) | (simp [*]; done)), H', ⟨by have := HK1.out; omega⟩, by repeat (first | exact Drawn0.refl _ | apply Drawn0.step)⟩
       ·rw [if_neg c7] at H; have c7b0 : ((rd l0 x5_1) == (rd l1 x5_1)) = false := beq_eq_false_iff_ne.mpr c7; have c7b1 : ((rd l0 x5_1) != (rd l1 x5_1)) = true := bne_iff_ne.mpr c7; obtain rfl := Option.some.inj H; have p147 : 0 ≤ (x5_1 : Int) := of_decide_eq_true (by first | (with_reducible assumption) | assumption); have q147 : x5_1 < (l0.length : Int) := of_decide_eq_true (by first | (with_reducible assumption) | assumption); obtain ⟨ad147, e147, hx147_0⟩ := Kd.at_int HR0.out x5_1 p147 q147
        cases e147
        replace p147 := eq_true p147; replace q147 := eq_true q147; have p148 : 0 ≤ (x5_1 : Int) := of_decide_eq_true (by first | (with_reducible assumption) | assumption); have q148 : x5_1 < (l1.length : Int) := of_decide_eq_true (by first | (with_reducible assumption) | assumption); obtain ⟨ad148, e148, hx148_0⟩ := Kd.at_int HR1.out x5_1 p148 q148
        cases e148
        replace p148 := eq_true p148; replace q148 := eq_true q148
        go_wp2
        repeat (go_quiet (fail); try go_wp2)
        go_ret
        exact ⟨by first | rfl | (simp; done) | (simp [*]; done), by repeat (first | exact Drawn0.refl _ | apply Drawn0.step)⟩
      ·rw [if_neg c6] at H; exact absurd H (by simp)
     ·rw [if_neg c5] at H; exact absurd H (by simp)
    ·rw [if_neg c4] at H; have c4b0 : decide (x5_1 < (l0.length : Int)) = false := decide_eq_false c4; clear c4; obtain rfl := Option.some.inj H
     go_wp2
     repeat (go_quiet (fail); try go_wp2)
     go_ret
     exact ⟨by first | rfl | (simp; done) | (simp [*]; done), by repeat (first | exact Drawn0.refl _ | apply Drawn0.step)⟩
 ·rw [if_neg c3] at H; have c3b0 : ((l0.length : Int) == (l1.length : Int)) = false := beq_eq_false_iff_ne.mpr c3; have c3b1 : ((l0.length : Int) != (l1.length : Int)) = true := bne_iff_ne.mpr c3
  have c3b2 : (l0.length == l1.length) = false := by first | simpa using c3 | (simp at c3 ⊢; omega)
  obtain rfl := Option.some.inj H
  go_enter Tryd.func12, Tryd.ntmps12
  go_wp2
  repeat (go_quiet (fail); try go_wp2)
  go_ret
  exact ⟨by first | rfl | (simp; done) | (simp [*]; done), by repeat (first | exact Drawn0.refl _ | apply Drawn0.step)⟩

end Go.Proofs.YtjohdgejjnbddaaDoor.PHeadNotes
