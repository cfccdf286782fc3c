/- Printed by this session's own program (wip/tools: a turn of the kit's print) out of the translation: each Go function that the law reaches as a Lean function, and that the machine's call comes to what that function tells; no condition but what each theorem names. -/
import Derived.Test.YthhlnhbmjkjmlaaPRelocValuesx0
namespace Go.Proofs.Ythhlnhbmjkjmlaa.PRelocValues
open Go.RowKit Go.Proofs.YthhlnhbmjkjmlaaW.PrintWords Go.Proofs.YthhlnhbmjkjmlaaW.PrintLast Go.Proofs.YthhlnhbmjkjmlaaW.PrintMore Go.Proofs.YthhlnhbmjkjmlaaX
attribute [local go_sem] max2_int min2_int max_two min_two max_three min_three max_four min_four   -- for this text's walks alone
set_option linter.unusedVariables false
set_option linter.unusedSimpArgs false

/-! ### shackleref19_Value: function 16 -/
mutual
def shackleref19_Value.l0 : Nat → List Int → List Int → List Int → Int → Int → Int → Int → Int → Int → Int → Int → Int → Bool → Int → Option (Int × Int × Int)
  | 0, _, _, _, _, _, _, _, _, _, _, _, _, _, _ => none
  | k + 1, x9, x10, x13, x14, x134000, x134001, x134002, x134003, x135000, x135001, x135002, x135003, x135004, x135005 => if x14 < (x9.length : Int) then (if 0 ≤ x14 then (if (rd x9 x14) = x134001 then (if x14 < (x13.length : Int) then (if (rd x13 x14) < 2147483648 then (shackleref19_Value.j1 k x10 x14 (rd x13 x14) true x134000 x134001 x134002 x134003 x135000 x135001 x135002 x135003 x135004 x135005) else (shackleref19_Value.j1 k x10 x14 (rd x13 x14) (decide ((rd x13 x14) ≥ 18446744071562067968)) x134000 x134001 x134002 x134003 x135000 x135001 x135002 x135003 x135004 x135005)) else (none)) else (shackleref19_Value.l0 k x9 x10 x13 (wrap64 (x14 + 1)) x134000 x134001 x134002 x134003 x135000 x135001 x135002 x135003 x135004 x135005)) else (none)) else (some (0, 0, 20))
def shackleref19_Value.j1 : Nat → List Int → Int → Int → Bool → Int → Int → Int → Int → Int → Int → Int → Int → Bool → Int → Option (Int × Int × Int)
  | 0, _, _, _, _, _, _, _, _, _, _, _, _, _, _ => none
  | k + 1, x10, x14, x15, x16, x134000, x134001, x134002, x134003, x135000, x135001, x135002, x135003, x135004, x135005 => if x134001 = 18 then (if x135002 = 0 then (shackleref19_Value.j2 k x10 x14 x15 x16 false x134000 x134001 x134002 x134003) else (shackleref19_Value.j2 k x10 x14 x15 x16 (!x135004) x134000 x134001 x134002 x134003)) else (shackleref19_Value.j2 k x10 x14 x15 x16 false x134000 x134001 x134002 x134003)
def shackleref19_Value.j2 : Nat → List Int → Int → Int → Bool → Bool → Int → Int → Int → Int → Option (Int × Int × Int)
  | 0, _, _, _, _, _, _, _, _, _ => none
  | k + 1, x10, x14, x15, x16, x106, x134000, x134001, x134002, x134003 => if x106 = true then (some (0, 0, 21)) else (if x134001 = 2 then (shackleref19_Value.j3 k x10 x14 x15 (!x16) x134000 x134001 x134002 x134003) else (if x134001 = 11 then (shackleref19_Value.j3 k x10 x14 x15 (!x16) x134000 x134001 x134002 x134003) else (shackleref19_Value.j3 k x10 x14 x15 false x134000 x134001 x134002 x134003)))
def shackleref19_Value.j3 : Nat → List Int → Int → Int → Bool → Int → Int → Int → Int → Option (Int × Int × Int)
  | 0, _, _, _, _, _, _, _, _ => none
  | k + 1, x10, x14, x15, x120, x134000, x134001, x134002, x134003 => if x120 = true then (some (0, 0, 20)) else (if x134001 = 10 then (shackleref19_Value.j4 k x10 x14 x15 (decide (x15 ≥ 4294967296))) else (if x134001 = 32 then (shackleref19_Value.j4 k x10 x14 x15 (decide (x15 ≥ 4294967296))) else (shackleref19_Value.j4 k x10 x14 x15 false)))
def shackleref19_Value.j4 : Nat → List Int → Int → Int → Bool → Option (Int × Int × Int)
  | 0, _, _, _, _ => none
  | k + 1, x10, x14, x15, x133 => if x133 = true then (some (0, 0, 20)) else (if 0 ≤ x14 then (if x14 < (x10.length : Int) then (if (rd x10 x14) = 4 then (some (Int.tmod x15 4294967296, rd x10 x14, 0)) else (some (x15, rd x10 x14, 0))) else (none)) else (none))
end
def shackleref19_Value.f (k : Nat) (a0_0 : Int) (a0_1 : Int) (a0_2 : Int) (a0_3 : Int) (a1 : Int) (a2_0 : Int) (a2_1 : Int) (a2_2 : Int) (a2_3 : Int) (a2_4 : Bool) (a2_5 : Int) : Option (Int × Int × Int) := shackleref19_Value.l0 k (([0, 1, 2, 6, 7, 8, 10, 11, 16, 17, 18, 24, 32, 33, 37] : List Int)) (([0, 8, 4, 8, 8, 8, 4, 4, 8, 8, 8, 8, 4, 8, 8] : List Int)) (([0, IntKind.u64.wrap (a2_0 + (IntKind.u64.wrap (a0_3))), IntKind.u64.wrap ((IntKind.u64.wrap (a2_0 + (IntKind.u64.wrap (a0_3)))) - (IntKind.u64.wrap (a1 + a0_0))), a2_0, a2_0, IntKind.u64.wrap (a1 + (IntKind.u64.wrap (a0_3))), IntKind.u64.wrap (a2_0 + (IntKind.u64.wrap (a0_3))), IntKind.u64.wrap (a2_0 + (IntKind.u64.wrap (a0_3))), IntKind.u64.wrap (a2_2), IntKind.u64.wrap (a2_3 + (IntKind.u64.wrap (a0_3))), IntKind.u64.wrap ((IntKind.u64.wrap (a2_3 + (IntKind.u64.wrap (a0_3)))) - a2_5), IntKind.u64.wrap ((IntKind.u64.wrap (a2_0 + (IntKind.u64.wrap (a0_3)))) - (IntKind.u64.wrap (a1 + a0_0))), IntKind.u64.wrap (a2_1 + (IntKind.u64.wrap (a0_3))), IntKind.u64.wrap (a2_1 + (IntKind.u64.wrap (a0_3))), IntKind.u64.wrap (a1 + (IntKind.u64.wrap (a0_3)))] : List Int)) 0 a0_0 a0_1 a0_2 a0_3 a2_0 a2_1 a2_2 a2_3 a2_4 a2_5
theorem shackleref19_Value.mono_l : ∀ k, (∀ y0 y1 y2 y3 y4 y5 y6 y7 y8 y9 y10 y11 y12 y13, LeO (shackleref19_Value.l0 k y0 y1 y2 y3 y4 y5 y6 y7 y8 y9 y10 y11 y12 y13) (shackleref19_Value.l0 (k + 1) y0 y1 y2 y3 y4 y5 y6 y7 y8 y9 y10 y11 y12 y13)) ∧ (∀ y0 y1 y2 y3 y4 y5 y6 y7 y8 y9 y10 y11 y12 y13, LeO (shackleref19_Value.j1 k y0 y1 y2 y3 y4 y5 y6 y7 y8 y9 y10 y11 y12 y13) (shackleref19_Value.j1 (k + 1) y0 y1 y2 y3 y4 y5 y6 y7 y8 y9 y10 y11 y12 y13)) ∧ (∀ y0 y1 y2 y3 y4 y5 y6 y7 y8, LeO (shackleref19_Value.j2 k y0 y1 y2 y3 y4 y5 y6 y7 y8) (shackleref19_Value.j2 (k + 1) y0 y1 y2 y3 y4 y5 y6 y7 y8)) ∧ (∀ y0 y1 y2 y3 y4 y5 y6 y7, LeO (shackleref19_Value.j3 k y0 y1 y2 y3 y4 y5 y6 y7) (shackleref19_Value.j3 (k + 1) y0 y1 y2 y3 y4 y5 y6 y7)) ∧ (∀ y0 y1 y2 y3, LeO (shackleref19_Value.j4 k y0 y1 y2 y3) (shackleref19_Value.j4 (k + 1) y0 y1 y2 y3))
  | 0 => ⟨fun _ _ _ _ _ _ _ _ _ _ _ _ _ _ r h => by simp [shackleref19_Value.l0] at h, fun _ _ _ _ _ _ _ _ _ _ _ _ _ _ r h => by simp [shackleref19_Value.j1] at h, fun _ _ _ _ _ _ _ _ _ r h => by simp [shackleref19_Value.j2] at h, fun _ _ _ _ _ _ _ _ r h => by simp [shackleref19_Value.j3] at h, fun _ _ _ _ r h => by simp [shackleref19_Value.j4] at h⟩
  | k + 1 => by
    obtain ⟨ih0, ih1, ih2, ih3, ih4⟩ := shackleref19_Value.mono_l k
    refine ⟨?_, ?_, ?_, ?_, ?_⟩
    · intro y0 y1 y2 y3 y4 y5 y6 y7 y8 y9 y10 y11 y12 y13
      unfold shackleref19_Value.l0
      repeat' first
      | (with_reducible exact ih0 _ _ _ _ _ _ _ _ _ _ _ _ _ _)
      | (with_reducible exact ih1 _ _ _ _ _ _ _ _ _ _ _ _ _ _)
      | (with_reducible exact ih2 _ _ _ _ _ _ _ _ _)
      | (with_reducible exact ih3 _ _ _ _ _ _ _ _)
      | (with_reducible exact ih4 _ _ _ _)
      | (with_reducible exact LeO.refl _)
      | (with_reducible exact LeO.none _)
      | (with_reducible refine LeO.ite ?_ ?_)
      | (with_reducible refine LeO.bind ?_ (fun _ => ?_))
      | exact ih0 _ _ _ _ _ _ _ _ _ _ _ _ _ _
      | exact ih1 _ _ _ _ _ _ _ _ _ _ _ _ _ _
      | exact ih2 _ _ _ _ _ _ _ _ _
      | exact ih3 _ _ _ _ _ _ _ _
      | exact ih4 _ _ _ _
      | exact LeO.none _
      | refine LeO.ite ?_ ?_
      | refine LeO.bind ?_ (fun _ => ?_)
    · intro y0 y1 y2 y3 y4 y5 y6 y7 y8 y9 y10 y11 y12 y13
      unfold shackleref19_Value.j1
      repeat' first
      | (with_reducible exact ih0 _ _ _ _ _ _ _ _ _ _ _ _ _ _)
      | (with_reducible exact ih1 _ _ _ _ _ _ _ _ _ _ _ _ _ _)
      | (with_reducible exact ih2 _ _ _ _ _ _ _ _ _)
      | (with_reducible exact ih3 _ _ _ _ _ _ _ _)
      | (with_reducible exact ih4 _ _ _ _)
      | (with_reducible exact LeO.refl _)
      | (with_reducible exact LeO.none _)
      | (with_reducible refine LeO.ite ?_ ?_)
      | (with_reducible refine LeO.bind ?_ (fun _ => ?_))
      | exact ih0 _ _ _ _ _ _ _ _ _ _ _ _ _ _
      | exact ih1 _ _ _ _ _ _ _ _ _ _ _ _ _ _
      | exact ih2 _ _ _ _ _ _ _ _ _
      | exact ih3 _ _ _ _ _ _ _ _
      | exact ih4 _ _ _ _
      | exact LeO.none _
      | refine LeO.ite ?_ ?_
      | refine LeO.bind ?_ (fun _ => ?_)
    · intro y0 y1 y2 y3 y4 y5 y6 y7 y8
      unfold shackleref19_Value.j2
      repeat' first
      | (with_reducible exact ih0 _ _ _ _ _ _ _ _ _ _ _ _ _ _)
      | (with_reducible exact ih1 _ _ _ _ _ _ _ _ _ _ _ _ _ _)
      | (with_reducible exact ih2 _ _ _ _ _ _ _ _ _)
      | (with_reducible exact ih3 _ _ _ _ _ _ _ _)
      | (with_reducible exact ih4 _ _ _ _)
      | (with_reducible exact LeO.refl _)
      | (with_reducible exact LeO.none _)
      | (with_reducible refine LeO.ite ?_ ?_)
      | (with_reducible refine LeO.bind ?_ (fun _ => ?_))
      | exact ih0 _ _ _ _ _ _ _ _ _ _ _ _ _ _
      | exact ih1 _ _ _ _ _ _ _ _ _ _ _ _ _ _
      | exact ih2 _ _ _ _ _ _ _ _ _
      | exact ih3 _ _ _ _ _ _ _ _
      | exact ih4 _ _ _ _
      | exact LeO.none _
      | refine LeO.ite ?_ ?_
      | refine LeO.bind ?_ (fun _ => ?_)
    · intro y0 y1 y2 y3 y4 y5 y6 y7
      unfold shackleref19_Value.j3
      repeat' first
      | (with_reducible exact ih0 _ _ _ _ _ _ _ _ _ _ _ _ _ _)
      | (with_reducible exact ih1 _ _ _ _ _ _ _ _ _ _ _ _ _ _)
      | (with_reducible exact ih2 _ _ _ _ _ _ _ _ _)
      | (with_reducible exact ih3 _ _ _ _ _ _ _ _)
      | (with_reducible exact ih4 _ _ _ _)
      | (with_reducible exact LeO.refl _)
      | (with_reducible exact LeO.none _)
      | (with_reducible refine LeO.ite ?_ ?_)
      | (with_reducible refine LeO.bind ?_ (fun _ => ?_))
      | exact ih0 _ _ _ _ _ _ _ _ _ _ _ _ _ _
      | exact ih1 _ _ _ _ _ _ _ _ _ _ _ _ _ _
      | exact ih2 _ _ _ _ _ _ _ _ _
      | exact ih3 _ _ _ _ _ _ _ _
      | exact ih4 _ _ _ _
      | exact LeO.none _
      | refine LeO.ite ?_ ?_
      | refine LeO.bind ?_ (fun _ => ?_)
    · intro y0 y1 y2 y3
      unfold shackleref19_Value.j4
      repeat' first
      | (with_reducible exact ih0 _ _ _ _ _ _ _ _ _ _ _ _ _ _)
      | (with_reducible exact ih1 _ _ _ _ _ _ _ _ _ _ _ _ _ _)
      | (with_reducible exact ih2 _ _ _ _ _ _ _ _ _)
      | (with_reducible exact ih3 _ _ _ _ _ _ _ _)
      | (with_reducible exact ih4 _ _ _ _)
      | (with_reducible exact LeO.refl _)
      | (with_reducible exact LeO.none _)
      | (with_reducible refine LeO.ite ?_ ?_)
      | (with_reducible refine LeO.bind ?_ (fun _ => ?_))
      | exact ih0 _ _ _ _ _ _ _ _ _ _ _ _ _ _
      | exact ih1 _ _ _ _ _ _ _ _ _ _ _ _ _ _
      | exact ih2 _ _ _ _ _ _ _ _ _
      | exact ih3 _ _ _ _ _ _ _ _
      | exact ih4 _ _ _ _
      | exact LeO.none _
      | refine LeO.ite ?_ ?_
      | refine LeO.bind ?_ (fun _ => ?_)
theorem shackleref19_Value.mono : ∀ a0 a1 a2 a3 a4 a5 a6 a7 a8 a9 a10 k, LeO (shackleref19_Value.f k a0 a1 a2 a3 a4 a5 a6 a7 a8 a9 a10) (shackleref19_Value.f (k + 1) a0 a1 a2 a3 a4 a5 a6 a7 a8 a9 a10) := by
  intro a0 a1 a2 a3 a4 a5 a6 a7 a8 a9 a10 k
  obtain ⟨ih0, ih1, ih2, ih3, ih4⟩ := shackleref19_Value.mono_l k
  unfold shackleref19_Value.f
  repeat' first
      | (with_reducible exact ih0 _ _ _ _ _ _ _ _ _ _ _ _ _ _)
      | (with_reducible exact ih1 _ _ _ _ _ _ _ _ _ _ _ _ _ _)
      | (with_reducible exact ih2 _ _ _ _ _ _ _ _ _)
      | (with_reducible exact ih3 _ _ _ _ _ _ _ _)
      | (with_reducible exact ih4 _ _ _ _)
      | (with_reducible exact LeO.refl _)
      | (with_reducible exact LeO.none _)
      | (with_reducible refine LeO.ite ?_ ?_)
      | (with_reducible refine LeO.bind ?_ (fun _ => ?_))
      | exact ih0 _ _ _ _ _ _ _ _ _ _ _ _ _ _
      | exact ih1 _ _ _ _ _ _ _ _ _ _ _ _ _ _
      | exact ih2 _ _ _ _ _ _ _ _ _
      | exact ih3 _ _ _ _ _ _ _ _
      | exact ih4 _ _ _ _
      | exact LeO.none _
      | refine LeO.ite ?_ ?_
      | refine LeO.bind ?_ (fun _ => ?_)
set_option maxHeartbeats 8000000 in
set_option maxRecDepth 100000 in
theorem shackleref19_Value.calls (k : Nat) (a0_0 : Int) (a0_1 : Int) (a0_2 : Int) (a0_3 : Int) (a1 : Int) (a2_0 : Int) (a2_1 : Int) (a2_2 : Int) (a2_3 : Int) (a2_4 : Bool) (a2_5 : Int) (r1 : Int) (r2 : Int) (r3 : Int) (w : World) (h : shackleref19_Value.f k a0_0 a0_1 a0_2 a0_3 a1 a2_0 a2_1 a2_2 a2_3 a2_4 a2_5 = some (r1, r2, r3)) :
    Calls Try.prog 16 #[.agg #[.int .u64 a0_0, .int .i64 a0_1, .int .i64 a0_2, .int .i64 a0_3], .int .u64 a1, .agg #[.int .u64 a2_0, .int .u64 a2_1, .int .i64 a2_2, .int .u64 a2_3, .bool a2_4, .int .u64 a2_5]] w fun e w' => e = .returned (.tuple #[.int .u64 r1, .int .i64 r2, .int .i64 r3]) ∧ Below w.heap.size w w' := by
  have hu24 := Try.underlying24
  have hu26 := Try.underlying26
  have HB := Aside0.mk (Below.refl w.heap.size w)
  have H : (shackleref19_Value.l0 k (([0, 1, 2, 6, 7, 8, 10, 11, 16, 17, 18, 24, 32, 33, 37] : List Int)) (([0, 8, 4, 8, 8, 8, 4, 4, 8, 8, 8, 8, 4, 8, 8] : List Int)) (([0, IntKind.u64.wrap (a2_0 + (IntKind.u64.wrap (a0_3))), IntKind.u64.wrap ((IntKind.u64.wrap (a2_0 + (IntKind.u64.wrap (a0_3)))) - (IntKind.u64.wrap (a1 + a0_0))), a2_0, a2_0, IntKind.u64.wrap (a1 + (IntKind.u64.wrap (a0_3))), IntKind.u64.wrap (a2_0 + (IntKind.u64.wrap (a0_3))), IntKind.u64.wrap (a2_0 + (IntKind.u64.wrap (a0_3))), IntKind.u64.wrap (a2_2), IntKind.u64.wrap (a2_3 + (IntKind.u64.wrap (a0_3))), IntKind.u64.wrap ((IntKind.u64.wrap (a2_3 + (IntKind.u64.wrap (a0_3)))) - a2_5), IntKind.u64.wrap ((IntKind.u64.wrap (a2_0 + (IntKind.u64.wrap (a0_3)))) - (IntKind.u64.wrap (a1 + a0_0))), IntKind.u64.wrap (a2_1 + (IntKind.u64.wrap (a0_3))), IntKind.u64.wrap (a2_1 + (IntKind.u64.wrap (a0_3))), IntKind.u64.wrap (a1 + (IntKind.u64.wrap (a0_3)))] : List Int)) 0 a0_0 a0_1 a0_2 a0_3 a2_0 a2_1 a2_2 a2_3 a2_4 a2_5) = some (r1, r2, r3) := h
  clear h
  obtain ⟨y135, hy135⟩ : ∃ y_ : List Int, y_ = (([0, 1, 2, 6, 7, 8, 10, 11, 16, 17, 18, 24, 32, 33, 37] : List Int)) := ⟨_, rfl⟩
  replace H : (shackleref19_Value.l0 k y135 (([0, 8, 4, 8, 8, 8, 4, 4, 8, 8, 8, 8, 4, 8, 8] : List Int)) (([0, IntKind.u64.wrap (a2_0 + (IntKind.u64.wrap (a0_3))), IntKind.u64.wrap ((IntKind.u64.wrap (a2_0 + (IntKind.u64.wrap (a0_3)))) - (IntKind.u64.wrap (a1 + a0_0))), a2_0, a2_0, IntKind.u64.wrap (a1 + (IntKind.u64.wrap (a0_3))), IntKind.u64.wrap (a2_0 + (IntKind.u64.wrap (a0_3))), IntKind.u64.wrap (a2_0 + (IntKind.u64.wrap (a0_3))), IntKind.u64.wrap (a2_2), IntKind.u64.wrap (a2_3 + (IntKind.u64.wrap (a0_3))), IntKind.u64.wrap ((IntKind.u64.wrap (a2_3 + (IntKind.u64.wrap (a0_3)))) - a2_5), IntKind.u64.wrap ((IntKind.u64.wrap (a2_0 + (IntKind.u64.wrap (a0_3)))) - (IntKind.u64.wrap (a1 + a0_0))), IntKind.u64.wrap (a2_1 + (IntKind.u64.wrap (a0_3))), IntKind.u64.wrap (a2_1 + (IntKind.u64.wrap (a0_3))), IntKind.u64.wrap (a1 + (IntKind.u64.wrap (a0_3)))] : List Int)) 0 a0_0 a0_1 a0_2 a0_3 a2_0 a2_1 a2_2 a2_3 a2_4 a2_5) = some (r1, r2, r3) := by first | (rw [hy135]; with_reducible exact H) | (have H2_ := (Option.bind_some _ _).symm.trans H; rw [hy135]; with_reducible exact H2_) | (have H2_ := (Option.bind_some _ _).symm.trans H; with_reducible exact H2_) | with_reducible exact H | (rw [hy135]; exact H) | exact H
  have Ny135 := Aside0.mk hy135
  clear hy135
  obtain ⟨y138, hy138⟩ : ∃ y_ : List Int, y_ = (([0, 8, 4, 8, 8, 8, 4, 4, 8, 8, 8, 8, 4, 8, 8] : List Int)) := ⟨_, rfl⟩
  replace H : (shackleref19_Value.l0 k y135 y138 (([0, IntKind.u64.wrap (a2_0 + (IntKind.u64.wrap (a0_3))), IntKind.u64.wrap ((IntKind.u64.wrap (a2_0 + (IntKind.u64.wrap (a0_3)))) - (IntKind.u64.wrap (a1 + a0_0))), a2_0, a2_0, IntKind.u64.wrap (a1 + (IntKind.u64.wrap (a0_3))), IntKind.u64.wrap (a2_0 + (IntKind.u64.wrap (a0_3))), IntKind.u64.wrap (a2_0 + (IntKind.u64.wrap (a0_3))), IntKind.u64.wrap (a2_2), IntKind.u64.wrap (a2_3 + (IntKind.u64.wrap (a0_3))), IntKind.u64.wrap ((IntKind.u64.wrap (a2_3 + (IntKind.u64.wrap (a0_3)))) - a2_5), IntKind.u64.wrap ((IntKind.u64.wrap (a2_0 + (IntKind.u64.wrap (a0_3)))) - (IntKind.u64.wrap (a1 + a0_0))), IntKind.u64.wrap (a2_1 + (IntKind.u64.wrap (a0_3))), IntKind.u64.wrap (a2_1 + (IntKind.u64.wrap (a0_3))), IntKind.u64.wrap (a1 + (IntKind.u64.wrap (a0_3)))] : List Int)) 0 a0_0 a0_1 a0_2 a0_3 a2_0 a2_1 a2_2 a2_3 a2_4 a2_5) = some (r1, r2, r3) := by first | (rw [hy138]; with_reducible exact H) | (have H2_ := (Option.bind_some _ _).symm.trans H; rw [hy138]; with_reducible exact H2_) | (have H2_ := (Option.bind_some _ _).symm.trans H; with_reducible exact H2_) | with_reducible exact H | (rw [hy138]; exact H) | exact H
  have Ny138 := Aside0.mk hy138
  clear hy138
  obtain ⟨y141, hy141⟩ : ∃ y_ : List Int, y_ = (([0, IntKind.u64.wrap (a2_0 + (IntKind.u64.wrap (a0_3))), IntKind.u64.wrap ((IntKind.u64.wrap (a2_0 + (IntKind.u64.wrap (a0_3)))) - (IntKind.u64.wrap (a1 + a0_0))), a2_0, a2_0, IntKind.u64.wrap (a1 + (IntKind.u64.wrap (a0_3))), IntKind.u64.wrap (a2_0 + (IntKind.u64.wrap (a0_3))), IntKind.u64.wrap (a2_0 + (IntKind.u64.wrap (a0_3))), IntKind.u64.wrap (a2_2), IntKind.u64.wrap (a2_3 + (IntKind.u64.wrap (a0_3))), IntKind.u64.wrap ((IntKind.u64.wrap (a2_3 + (IntKind.u64.wrap (a0_3)))) - a2_5), IntKind.u64.wrap ((IntKind.u64.wrap (a2_0 + (IntKind.u64.wrap (a0_3)))) - (IntKind.u64.wrap (a1 + a0_0))), IntKind.u64.wrap (a2_1 + (IntKind.u64.wrap (a0_3))), IntKind.u64.wrap (a2_1 + (IntKind.u64.wrap (a0_3))), IntKind.u64.wrap (a1 + (IntKind.u64.wrap (a0_3)))] : List Int)) := ⟨_, rfl⟩
  replace H : (shackleref19_Value.l0 k y135 y138 y141 0 a0_0 a0_1 a0_2 a0_3 a2_0 a2_1 a2_2 a2_3 a2_4 a2_5) = some (r1, r2, r3) := by first | (rw [hy141]; with_reducible exact H) | (have H2_ := (Option.bind_some _ _).symm.trans H; rw [hy141]; with_reducible exact H2_) | (have H2_ := (Option.bind_some _ _).symm.trans H; with_reducible exact H2_) | with_reducible exact H | (rw [hy141]; exact H) | exact H
  have Ny141 := Aside0.mk hy141
  clear hy141
  have H' := Aside0.mk H
  clear H
  go_enter Try.func16, Try.ntmps16
  go_wp2_with (first | ((with_reducible refine gate_dst (N := 3) rfl ?_); refine box_event ?hg (N := 3) ?hd (cs := #[.int .u64 a0_0, .int .i64 a0_1, .int .i64 a0_2, .int .i64 a0_3]) (t := 24) ?hr ?_; (case hd => rfl); (case hg => rfl); (case hr => first | (go_simp; done) | (go_simp; rfl)); intro gb133 hg w4 hbox hb; have n0_ := Aside0.mk (below_step (by repeat (first | (with_reducible first | exact HB.out | apply below_alloc | apply pw_below_drewN | apply below_drew1) | exact HB.out)) hb); have n1_ := Aside0.mk (hbox); have n2_ := Aside0.mk ((by rw [hg]; exact (below_size (by repeat (first | (with_reducible first | exact HB.out | apply below_alloc | apply pw_below_drewN | apply below_drew1) | exact HB.out))) : w.heap.size ≤ gb133)); have n3_ := Aside0.mk ((by rw [hg]; exact (below_size (by repeat (first | (with_reducible first | exact HB.out | apply below_alloc | apply pw_below_drewN | apply below_drew1) | exact HB.out))) : w.heap.size ≤ gb133)); clear HB; have HB := n0_; have BK133 := n1_; have GW133 := n2_; have GE133 := n3_; clear n0_ n1_ n2_ n3_; clear hb hbox hg) | ((with_reducible refine gate_dst (N := 5) rfl ?_); refine box_event ?hg (N := 5) ?hd (cs := #[.int .u64 a2_0, .int .u64 a2_1, .int .i64 a2_2, .int .u64 a2_3, .bool a2_4, .int .u64 a2_5]) (t := 26) ?hr ?_; (case hd => rfl); (case hg => rfl); (case hr => first | (go_simp; done) | (go_simp; rfl)); intro gb134 hg w5 hbox hb; have n0_ := Aside0.mk (blk_below (g := gb133) (o := .cells #[.int .u64 a0_0, .int .i64 a0_1, .int .i64 a0_2, .int .i64 a0_3] 24 (0, 0)) (by (with_reducible repeat (first | refine blk_drewN ?_ _ | refine blk_drew ?_ | refine blk_alloc ?_ _)); exact BK133.out) hb); have n1_ := Aside0.mk (below_step (by repeat (first | (with_reducible first | exact HB.out | apply below_alloc | apply pw_below_drewN | apply below_drew1 | refine below_set ?_ GE133.out) | exact HB.out)) hb); have n2_ := Aside0.mk (hbox); have n3_ := Aside0.mk ((by rw [hg]; exact (below_size (by repeat (first | (with_reducible first | exact HB.out | apply below_alloc | apply pw_below_drewN | apply below_drew1 | refine below_set ?_ GE133.out) | exact HB.out))) : w.heap.size ≤ gb134)); have n4_ := Aside0.mk ((by rw [hg]; exact (below_size (by repeat (first | (with_reducible first | exact HB.out | apply below_alloc | apply pw_below_drewN | apply below_drew1 | refine below_set ?_ GE133.out) | exact HB.out))) : w.heap.size ≤ gb134)); have n5_ := Aside0.mk ((by rw [hg]; exact Nat.ne_of_lt (blk_lt (g := gb133) (o := .cells #[.int .u64 a0_0, .int .i64 a0_1, .int .i64 a0_2, .int .i64 a0_3] 24 (0, 0)) (by (with_reducible repeat (first | refine blk_drewN ?_ _ | refine blk_drew ?_ | refine blk_alloc ?_ _)); exact BK133.out)) : gb133 ≠ gb134)); have n6_ := Aside0.mk ((by rw [hg]; exact Nat.ne_of_gt (blk_lt (g := gb133) (o := .cells #[.int .u64 a0_0, .int .i64 a0_1, .int .i64 a0_2, .int .i64 a0_3] 24 (0, 0)) (by (with_reducible repeat (first | refine blk_drewN ?_ _ | refine blk_drew ?_ | refine blk_alloc ?_ _)); exact BK133.out)) : gb134 ≠ gb133)); clear BK133; clear HB; have BK133 := n0_; have HB := n1_; have BK134 := n2_; have GW134 := n3_; have GE134 := n4_; have NB133_134 := n5_; have NB134_133 := n6_; clear n0_ n1_ n2_ n3_ n4_ n5_ n6_; clear hb hbox hg) | ((with_reducible refine gate_dst (N := 17) rfl ?_); refine Kd.R_lit (Kd.int .i64) _ 3 ?hg (N := 17) ?hd (xs := ([0, 1, 2, 6, 7, 8, 10, 11, 16, 17, 18, 24, 32, 33, 37] : List Int)) (inner := [.int .i64 0, .int .i64 1, .int .i64 2, .int .i64 6, .int .i64 7, .int .i64 8, .int .i64 10, .int .i64 11, .int .i64 16, .int .i64 17, .int .i64 18, .int .i64 24, .int .i64 32, .int .i64 33, .int .i64 37]) (ok := fun _ => True) (okp := fun _ => True) ?hr ?hp (fun _ hk => hk) trivial (Below.refl _ _) (Nat.le_refl _) (by simp) ?_; (case hd => rfl); (case hg => rfl); (case hr => first | (go_simp; done) | (go_simp; rfl)); (case hp => exact (Reps.one (show Kd.M (Kd.int .i64) _ _ _ 0 [.int .i64 0] from rfl) (Reps.one (show Kd.M (Kd.int .i64) _ _ _ 1 [.int .i64 1] from rfl) (Reps.one (show Kd.M (Kd.int .i64) _ _ _ 2 [.int .i64 2] from rfl) (Reps.one (show Kd.M (Kd.int .i64) _ _ _ 6 [.int .i64 6] from rfl) (Reps.one (show Kd.M (Kd.int .i64) _ _ _ 7 [.int .i64 7] from rfl) (Reps.one (show Kd.M (Kd.int .i64) _ _ _ 8 [.int .i64 8] from rfl) (Reps.one (show Kd.M (Kd.int .i64) _ _ _ 10 [.int .i64 10] from rfl) (Reps.one (show Kd.M (Kd.int .i64) _ _ _ 11 [.int .i64 11] from rfl) (Reps.one (show Kd.M (Kd.int .i64) _ _ _ 16 [.int .i64 16] from rfl) (Reps.one (show Kd.M (Kd.int .i64) _ _ _ 17 [.int .i64 17] from rfl) (Reps.one (show Kd.M (Kd.int .i64) _ _ _ 18 [.int .i64 18] from rfl) (Reps.one (show Kd.M (Kd.int .i64) _ _ _ 24 [.int .i64 24] from rfl) (Reps.one (show Kd.M (Kd.int .i64) _ _ _ 32 [.int .i64 32] from rfl) (Reps.one (show Kd.M (Kd.int .i64) _ _ _ 33 [.int .i64 33] from rfl) (Reps.one (show Kd.M (Kd.int .i64) _ _ _ 37 [.int .i64 37] from rfl) (Reps.none _ _))))))))))))))))); intro v136 w6 ho7 hb hg_ hnew_; clear hg_ hnew_; (first | rw [← Ny135.out] at ho7 | (simp only [Int.reduceToNat] at ho7; rw [← Ny135.out] at ho7)); have n0_ := Aside0.mk (Kd.R_lower ho7 (below_size (by repeat (first | (with_reducible first | exact HB.out | apply below_alloc | apply pw_below_drewN | apply below_drew1 | refine below_set ?_ GE133.out | refine below_set ?_ GE134.out) | exact HB.out)))); have n1_ := Aside0.mk (blk_below (g := gb133) (o := .cells #[.int .u64 a0_0, .int .i64 a0_1, .int .i64 a0_2, .int .i64 a0_3] 24 (0, 0)) (by (with_reducible repeat (first | refine blk_drewN ?_ _ | refine blk_drew ?_ | refine blk_alloc ?_ _)); exact BK133.out) hb); have n2_ := Aside0.mk (blk_below (g := gb134) (o := .cells #[.int .u64 a2_0, .int .u64 a2_1, .int .i64 a2_2, .int .u64 a2_3, .bool a2_4, .int .u64 a2_5] 26 (0, 0)) (by (with_reducible repeat (first | refine blk_drewN ?_ _ | refine blk_drew ?_ | refine blk_alloc ?_ _)); exact BK134.out) hb); have n3_ := Aside0.mk (below_step (by repeat (first | (with_reducible first | exact HB.out | apply below_alloc | apply pw_below_drewN | apply below_drew1 | refine below_set ?_ GE133.out | refine below_set ?_ GE134.out) | exact HB.out)) hb); clear BK133; clear BK134; clear HB; have HO137 := n0_; have BK133 := n1_; have BK134 := n2_; have HB := n3_; clear n0_ n1_ n2_ n3_; clear hb ho7) | ((with_reducible refine gate_dst (N := 18) rfl ?_); refine Kd.R_lit (Kd.int .i64) _ 3 ?hg (N := 18) ?hd (xs := ([0, 8, 4, 8, 8, 8, 4, 4, 8, 8, 8, 8, 4, 8, 8] : List Int)) (inner := [.int .i64 0, .int .i64 8, .int .i64 4, .int .i64 8, .int .i64 8, .int .i64 8, .int .i64 4, .int .i64 4, .int .i64 8, .int .i64 8, .int .i64 8, .int .i64 8, .int .i64 4, .int .i64 8, .int .i64 8]) (ok := fun _ => True) (okp := fun _ => True) ?hr ?hp (fun _ hk => hk) trivial (Below.refl _ _) (Nat.le_refl _) (by simp) ?_; (case hd => rfl); (case hg => rfl); (case hr => first | (go_simp; done) | (go_simp; rfl)); (case hp => exact (Reps.one (show Kd.M (Kd.int .i64) _ _ _ 0 [.int .i64 0] from rfl) (Reps.one (show Kd.M (Kd.int .i64) _ _ _ 8 [.int .i64 8] from rfl) (Reps.one (show Kd.M (Kd.int .i64) _ _ _ 4 [.int .i64 4] from rfl) (Reps.one (show Kd.M (Kd.int .i64) _ _ _ 8 [.int .i64 8] from rfl) (Reps.one (show Kd.M (Kd.int .i64) _ _ _ 8 [.int .i64 8] from rfl) (Reps.one (show Kd.M (Kd.int .i64) _ _ _ 8 [.int .i64 8] from rfl) (Reps.one (show Kd.M (Kd.int .i64) _ _ _ 4 [.int .i64 4] from rfl) (Reps.one (show Kd.M (Kd.int .i64) _ _ _ 4 [.int .i64 4] from rfl) (Reps.one (show Kd.M (Kd.int .i64) _ _ _ 8 [.int .i64 8] from rfl) (Reps.one (show Kd.M (Kd.int .i64) _ _ _ 8 [.int .i64 8] from rfl) (Reps.one (show Kd.M (Kd.int .i64) _ _ _ 8 [.int .i64 8] from rfl) (Reps.one (show Kd.M (Kd.int .i64) _ _ _ 8 [.int .i64 8] from rfl) (Reps.one (show Kd.M (Kd.int .i64) _ _ _ 4 [.int .i64 4] from rfl) (Reps.one (show Kd.M (Kd.int .i64) _ _ _ 8 [.int .i64 8] from rfl) (Reps.one (show Kd.M (Kd.int .i64) _ _ _ 8 [.int .i64 8] from rfl) (Reps.none _ _))))))))))))))))); intro v139 w8 ho9 hb hg_ hnew_; clear hg_ hnew_; (first | rw [← Ny138.out] at ho9 | (simp only [Int.reduceToNat] at ho9; rw [← Ny138.out] at ho9)); have n0_ := Aside0.mk (Kd.R_elder' (by (with_reducible repeat (first | apply Kd.R_alloc | apply Kd.R_drewN | apply Kd.R_drew)); exact HO137.out) (Kd.R_base ho9) hb); have n1_ := Aside0.mk (Kd.R_lower (Kd.R_new' ho9 (Kd.R_lt (by (with_reducible repeat (first | apply Kd.R_alloc | apply Kd.R_drewN | apply Kd.R_drew)); exact HO137.out))) (below_size (by repeat (first | (with_reducible first | exact HB.out | apply below_alloc | apply pw_below_drewN | apply below_drew1 | refine below_set ?_ GE133.out | refine below_set ?_ GE134.out) | exact HB.out)))); have n2_ := Aside0.mk (blk_below (g := gb133) (o := .cells #[.int .u64 a0_0, .int .i64 a0_1, .int .i64 a0_2, .int .i64 a0_3] 24 (0, 0)) (by (with_reducible repeat (first | refine blk_drewN ?_ _ | refine blk_drew ?_ | refine blk_alloc ?_ _)); exact BK133.out) hb); have n3_ := Aside0.mk (blk_below (g := gb134) (o := .cells #[.int .u64 a2_0, .int .u64 a2_1, .int .i64 a2_2, .int .u64 a2_3, .bool a2_4, .int .u64 a2_5] 26 (0, 0)) (by (with_reducible repeat (first | refine blk_drewN ?_ _ | refine blk_drew ?_ | refine blk_alloc ?_ _)); exact BK134.out) hb); have n4_ := Aside0.mk (below_step (by repeat (first | (with_reducible first | exact HB.out | apply below_alloc | apply pw_below_drewN | apply below_drew1 | refine below_set ?_ GE133.out | refine below_set ?_ GE134.out) | exact HB.out)) hb); clear HO137; clear BK133; clear BK134; clear HB; have HO137 := n0_; have HO140 := n1_; have BK133 := n2_; have BK134 := n3_; have HB := n4_; clear n0_ n1_ n2_ n3_ n4_; clear hb ho9; have hnb10 := NB133_134.out; have hnc10 := NB134_133.out; have hcz11_0 : w8.cell? ⟨gb133, 0, none⟩ = some (.int .u64 a0_0) := (blk_cell BK133.out 0).trans rfl; have hcz11_1 : w8.cell? ⟨gb133, 1, none⟩ = some (.int .i64 a0_1) := (blk_cell BK133.out 1).trans rfl; have hcz11_2 : w8.cell? ⟨gb133, 2, none⟩ = some (.int .i64 a0_2) := (blk_cell BK133.out 2).trans rfl; have hcz11_3 : w8.cell? ⟨gb133, 3, none⟩ = some (.int .i64 a0_3) := (blk_cell BK133.out 3).trans rfl; have hfz11_0 := blk_frozen BK133.out 0; have hfz11_1 := blk_frozen BK133.out 1; have hfz11_2 := blk_frozen BK133.out 2; have hfz11_3 := blk_frozen BK133.out 3; have hcz12_0 : w8.cell? ⟨gb134, 0, none⟩ = some (.int .u64 a2_0) := (blk_cell BK134.out 0).trans rfl; have hcz12_1 : w8.cell? ⟨gb134, 1, none⟩ = some (.int .u64 a2_1) := (blk_cell BK134.out 1).trans rfl; have hcz12_2 : w8.cell? ⟨gb134, 2, none⟩ = some (.int .i64 a2_2) := (blk_cell BK134.out 2).trans rfl; have hcz12_3 : w8.cell? ⟨gb134, 3, none⟩ = some (.int .u64 a2_3) := (blk_cell BK134.out 3).trans rfl; have hcz12_4 : w8.cell? ⟨gb134, 4, none⟩ = some (.bool a2_4) := (blk_cell BK134.out 4).trans rfl; have hcz12_5 : w8.cell? ⟨gb134, 5, none⟩ = some (.int .u64 a2_5) := (blk_cell BK134.out 5).trans rfl; have hfz12_0 := blk_frozen BK134.out 0; have hfz12_1 := blk_frozen BK134.out 1; have hfz12_2 := blk_frozen BK134.out 2; have hfz12_3 := blk_frozen BK134.out 3; have hfz12_4 := blk_frozen BK134.out 4; have hfz12_5 := blk_frozen BK134.out 5) | ((with_reducible refine gate_dst (N := 82) rfl ?_); refine Kd.R_lit (Kd.int .u64) _ 22 ?hg (N := 82) ?hd (xs := ([0, IntKind.u64.wrap (a2_0 + (IntKind.u64.wrap (a0_3))), IntKind.u64.wrap ((IntKind.u64.wrap (a2_0 + (IntKind.u64.wrap (a0_3)))) - (IntKind.u64.wrap (a1 + a0_0))), a2_0, a2_0, IntKind.u64.wrap (a1 + (IntKind.u64.wrap (a0_3))), IntKind.u64.wrap (a2_0 + (IntKind.u64.wrap (a0_3))), IntKind.u64.wrap (a2_0 + (IntKind.u64.wrap (a0_3))), IntKind.u64.wrap (a2_2), IntKind.u64.wrap (a2_3 + (IntKind.u64.wrap (a0_3))), IntKind.u64.wrap ((IntKind.u64.wrap (a2_3 + (IntKind.u64.wrap (a0_3)))) - a2_5), IntKind.u64.wrap ((IntKind.u64.wrap (a2_0 + (IntKind.u64.wrap (a0_3)))) - (IntKind.u64.wrap (a1 + a0_0))), IntKind.u64.wrap (a2_1 + (IntKind.u64.wrap (a0_3))), IntKind.u64.wrap (a2_1 + (IntKind.u64.wrap (a0_3))), IntKind.u64.wrap (a1 + (IntKind.u64.wrap (a0_3)))] : List Int)) (inner := [.int .u64 0, .int .u64 (IntKind.u64.wrap (a2_0 + (IntKind.u64.wrap (a0_3)))), .int .u64 (IntKind.u64.wrap ((IntKind.u64.wrap (a2_0 + (IntKind.u64.wrap (a0_3)))) - (IntKind.u64.wrap (a1 + a0_0)))), .int .u64 a2_0, .int .u64 a2_0, .int .u64 (IntKind.u64.wrap (a1 + (IntKind.u64.wrap (a0_3)))), .int .u64 (IntKind.u64.wrap (a2_0 + (IntKind.u64.wrap (a0_3)))), .int .u64 (IntKind.u64.wrap (a2_0 + (IntKind.u64.wrap (a0_3)))), .int .u64 (IntKind.u64.wrap (a2_2)), .int .u64 (IntKind.u64.wrap (a2_3 + (IntKind.u64.wrap (a0_3)))), .int .u64 (IntKind.u64.wrap ((IntKind.u64.wrap (a2_3 + (IntKind.u64.wrap (a0_3)))) - a2_5)), .int .u64 (IntKind.u64.wrap ((IntKind.u64.wrap (a2_0 + (IntKind.u64.wrap (a0_3)))) - (IntKind.u64.wrap (a1 + a0_0)))), .int .u64 (IntKind.u64.wrap (a2_1 + (IntKind.u64.wrap (a0_3)))), .int .u64 (IntKind.u64.wrap (a2_1 + (IntKind.u64.wrap (a0_3)))), .int .u64 (IntKind.u64.wrap (a1 + (IntKind.u64.wrap (a0_3))))]) (ok := fun _ => True) (okp := fun _ => True) ?hr ?hp (fun _ hk => hk) trivial (Below.refl _ _) (Nat.le_refl _) (by simp) ?_; (case hd => rfl); (case hg => rfl); (case hr => first | (go_simp; done) | (go_simp; rfl)); (case hp => exact (Reps.one (show Kd.M (Kd.int .u64) _ _ _ 0 [.int .u64 0] from rfl) (Reps.one (show Kd.M (Kd.int .u64) _ _ _ (IntKind.u64.wrap (a2_0 + (IntKind.u64.wrap (a0_3)))) [.int .u64 (IntKind.u64.wrap (a2_0 + (IntKind.u64.wrap (a0_3))))] from rfl) (Reps.one (show Kd.M (Kd.int .u64) _ _ _ (IntKind.u64.wrap ((IntKind.u64.wrap (a2_0 + (IntKind.u64.wrap (a0_3)))) - (IntKind.u64.wrap (a1 + a0_0)))) [.int .u64 (IntKind.u64.wrap ((IntKind.u64.wrap (a2_0 + (IntKind.u64.wrap (a0_3)))) - (IntKind.u64.wrap (a1 + a0_0))))] from rfl) (Reps.one (show Kd.M (Kd.int .u64) _ _ _ a2_0 [.int .u64 a2_0] from rfl) (Reps.one (show Kd.M (Kd.int .u64) _ _ _ a2_0 [.int .u64 a2_0] from rfl) (Reps.one (show Kd.M (Kd.int .u64) _ _ _ (IntKind.u64.wrap (a1 + (IntKind.u64.wrap (a0_3)))) [.int .u64 (IntKind.u64.wrap (a1 + (IntKind.u64.wrap (a0_3))))] from rfl) (Reps.one (show Kd.M (Kd.int .u64) _ _ _ (IntKind.u64.wrap (a2_0 + (IntKind.u64.wrap (a0_3)))) [.int .u64 (IntKind.u64.wrap (a2_0 + (IntKind.u64.wrap (a0_3))))] from rfl) (Reps.one (show Kd.M (Kd.int .u64) _ _ _ (IntKind.u64.wrap (a2_0 + (IntKind.u64.wrap (a0_3)))) [.int .u64 (IntKind.u64.wrap (a2_0 + (IntKind.u64.wrap (a0_3))))] from rfl) (Reps.one (show Kd.M (Kd.int .u64) _ _ _ (IntKind.u64.wrap (a2_2)) [.int .u64 (IntKind.u64.wrap (a2_2))] from rfl) (Reps.one (show Kd.M (Kd.int .u64) _ _ _ (IntKind.u64.wrap (a2_3 + (IntKind.u64.wrap (a0_3)))) [.int .u64 (IntKind.u64.wrap (a2_3 + (IntKind.u64.wrap (a0_3))))] from rfl) (Reps.one (show Kd.M (Kd.int .u64) _ _ _ (IntKind.u64.wrap ((IntKind.u64.wrap (a2_3 + (IntKind.u64.wrap (a0_3)))) - a2_5)) [.int .u64 (IntKind.u64.wrap ((IntKind.u64.wrap (a2_3 + (IntKind.u64.wrap (a0_3)))) - a2_5))] from rfl) (Reps.one (show Kd.M (Kd.int .u64) _ _ _ (IntKind.u64.wrap ((IntKind.u64.wrap (a2_0 + (IntKind.u64.wrap (a0_3)))) - (IntKind.u64.wrap (a1 + a0_0)))) [.int .u64 (IntKind.u64.wrap ((IntKind.u64.wrap (a2_0 + (IntKind.u64.wrap (a0_3)))) - (IntKind.u64.wrap (a1 + a0_0))))] from rfl) (Reps.one (show Kd.M (Kd.int .u64) _ _ _ (IntKind.u64.wrap (a2_1 + (IntKind.u64.wrap (a0_3)))) [.int .u64 (IntKind.u64.wrap (a2_1 + (IntKind.u64.wrap (a0_3))))] from rfl) (Reps.one (show Kd.M (Kd.int .u64) _ _ _ (IntKind.u64.wrap (a2_1 + (IntKind.u64.wrap (a0_3)))) [.int .u64 (IntKind.u64.wrap (a2_1 + (IntKind.u64.wrap (a0_3))))] from rfl) (Reps.one (show Kd.M (Kd.int .u64) _ _ _ (IntKind.u64.wrap (a1 + (IntKind.u64.wrap (a0_3)))) [.int .u64 (IntKind.u64.wrap (a1 + (IntKind.u64.wrap (a0_3))))] from rfl) (Reps.none _ _))))))))))))))))); intro v142 w13 ho14 hb hg_ hnew_; clear hg_ hnew_; (first | rw [← Ny141.out] at ho14 | (simp only [Int.reduceToNat] at ho14; rw [← Ny141.out] at ho14)); have n0_ := Aside0.mk (Kd.R_below (by (with_reducible repeat (first | apply Kd.R_alloc | apply Kd.R_drewN | apply Kd.R_drew)); exact HO137.out) hb); have n1_ := Aside0.mk (Kd.R_below (by (with_reducible repeat (first | apply Kd.R_alloc | apply Kd.R_drewN | apply Kd.R_drew)); exact HO140.out) hb); have n2_ := Aside0.mk (Kd.R_lower ho14 (below_size (by repeat (first | (with_reducible first | exact HB.out | apply below_alloc | apply pw_below_drewN | apply below_drew1 | refine below_set ?_ GE133.out | refine below_set ?_ GE134.out) | exact HB.out)))); have n3_ := Aside0.mk (blk_below (g := gb133) (o := .cells #[.int .u64 a0_0, .int .i64 a0_1, .int .i64 a0_2, .int .i64 a0_3] 24 (0, 0)) (by (with_reducible repeat (first | refine blk_drewN ?_ _ | refine blk_drew ?_ | refine blk_alloc ?_ _)); exact BK133.out) hb); have n4_ := Aside0.mk (blk_below (g := gb134) (o := .cells #[.int .u64 a2_0, .int .u64 a2_1, .int .i64 a2_2, .int .u64 a2_3, .bool a2_4, .int .u64 a2_5] 26 (0, 0)) (by (with_reducible repeat (first | refine blk_drewN ?_ _ | refine blk_drew ?_ | refine blk_alloc ?_ _)); exact BK134.out) hb); have n5_ := Aside0.mk (below_step (by repeat (first | (with_reducible first | exact HB.out | apply below_alloc | apply pw_below_drewN | apply below_drew1 | refine below_set ?_ GE133.out | refine below_set ?_ GE134.out) | exact HB.out)) hb); clear HO137; clear HO140; clear BK133; clear BK134; clear HB; have HO137 := n0_; have HO140 := n1_; have HO143 := n2_; have BK133 := n3_; have BK134 := n4_; have HB := n5_; clear n0_ n1_ n2_ n3_ n4_ n5_; clear hb ho14))
  repeat (go_quiet (first | ((with_reducible refine gate_dst (N := 3) rfl ?_); refine box_event ?hg (N := 3) ?hd (cs := #[.int .u64 a0_0, .int .i64 a0_1, .int .i64 a0_2, .int .i64 a0_3]) (t := 24) ?hr ?_; (case hd => rfl); (case hg => rfl); (case hr => first | (go_simp; done) | (go_simp; rfl)); intro gb133 hg w4 hbox hb; have n0_ := Aside0.mk (below_step (by repeat (first | (with_reducible first | exact HB.out | apply below_alloc | apply pw_below_drewN | apply below_drew1) | exact HB.out)) hb); have n1_ := Aside0.mk (hbox); have n2_ := Aside0.mk ((by rw [hg]; exact (below_size (by repeat (first | (with_reducible first | exact HB.out | apply below_alloc | apply pw_below_drewN | apply below_drew1) | exact HB.out))) : w.heap.size ≤ gb133)); have n3_ := Aside0.mk ((by rw [hg]; exact (below_size (by repeat (first | (with_reducible first | exact HB.out | apply below_alloc | apply pw_below_drewN | apply below_drew1) | exact HB.out))) : w.heap.size ≤ gb133)); clear HB; have HB := n0_; have BK133 := n1_; have GW133 := n2_; have GE133 := n3_; clear n0_ n1_ n2_ n3_; clear hb hbox hg) | ((with_reducible refine gate_dst (N := 5) rfl ?_); refine box_event ?hg (N := 5) ?hd (cs := #[.int .u64 a2_0, .int .u64 a2_1, .int .i64 a2_2, .int .u64 a2_3, .bool a2_4, .int .u64 a2_5]) (t := 26) ?hr ?_; (case hd => rfl); (case hg => rfl); (case hr => first | (go_simp; done) | (go_simp; rfl)); intro gb134 hg w5 hbox hb; have n0_ := Aside0.mk (blk_below (g := gb133) (o := .cells #[.int .u64 a0_0, .int .i64 a0_1, .int .i64 a0_2, .int .i64 a0_3] 24 (0, 0)) (by (with_reducible repeat (first | refine blk_drewN ?_ _ | refine blk_drew ?_ | refine blk_alloc ?_ _)); exact BK133.out) hb); have n1_ := Aside0.mk (below_step (by repeat (first | (with_reducible first | exact HB.out | apply below_alloc | apply pw_below_drewN | apply below_drew1 | refine below_set ?_ GE133.out) | exact HB.out)) hb); have n2_ := Aside0.mk (hbox); have n3_ := Aside0.mk ((by rw [hg]; exact (below_size (by repeat (first | (with_reducible first | exact HB.out | apply below_alloc | apply pw_below_drewN | apply below_drew1 | refine below_set ?_ GE133.out) | exact HB.out))) : w.heap.size ≤ gb134)); have n4_ := Aside0.mk ((by rw [hg]; exact (below_size (by repeat (first | (with_reducible first | exact HB.out | apply below_alloc | apply pw_below_drewN | apply below_drew1 | refine below_set ?_ GE133.out) | exact HB.out))) : w.heap.size ≤ gb134)); have n5_ := Aside0.mk ((by rw [hg]; exact Nat.ne_of_lt (blk_lt (g := gb133) (o := .cells #[.int .u64 a0_0, .int .i64 a0_1, .int .i64 a0_2, .int .i64 a0_3] 24 (0, 0)) (by (with_reducible repeat (first | refine blk_drewN ?_ _ | refine blk_drew ?_ | refine blk_alloc ?_ _)); exact BK133.out)) : gb133 ≠ gb134)); have n6_ := Aside0.mk ((by rw [hg]; exact Nat.ne_of_gt (blk_lt (g := gb133) (o := .cells #[.int .u64 a0_0, .int .i64 a0_1, .int .i64 a0_2, .int .i64 a0_3] 24 (0, 0)) (by (with_reducible repeat (first | refine blk_drewN ?_ _ | refine blk_drew ?_ | refine blk_alloc ?_ _)); exact BK133.out)) : gb134 ≠ gb133)); clear BK133; clear HB; have BK133 := n0_; have HB := n1_; have BK134 := n2_; have GW134 := n3_; have GE134 := n4_; have NB133_134 := n5_; have NB134_133 := n6_; clear n0_ n1_ n2_ n3_ n4_ n5_ n6_; clear hb hbox hg) | ((with_reducible refine gate_dst (N := 17) rfl ?_); refine Kd.R_lit (Kd.int .i64) _ 3 ?hg (N := 17) ?hd (xs := ([0, 1, 2, 6, 7, 8, 10, 11, 16, 17, 18, 24, 32, 33, 37] : List Int)) (inner := [.int .i64 0, .int .i64 1, .int .i64 2, .int .i64 6, .int .i64 7, .int .i64 8, .int .i64 10, .int .i64 11, .int .i64 16, .int .i64 17, .int .i64 18, .int .i64 24, .int .i64 32, .int .i64 33, .int .i64 37]) (ok := fun _ => True) (okp := fun _ => True) ?hr ?hp (fun _ hk => hk) trivial (Below.refl _ _) (Nat.le_refl _) (by simp) ?_; (case hd => rfl); (case hg => rfl); (case hr => first | (go_simp; done) | (go_simp; rfl)); (case hp => exact (Reps.one (show Kd.M (Kd.int .i64) _ _ _ 0 [.int .i64 0] from rfl) (Reps.one (show Kd.M (Kd.int .i64) _ _ _ 1 [.int .i64 1] from rfl) (Reps.one (show Kd.M (Kd.int .i64) _ _ _ 2 [.int .i64 2] from rfl) (Reps.one (show Kd.M (Kd.int .i64) _ _ _ 6 [.int .i64 6] from rfl) (Reps.one (show Kd.M (Kd.int .i64) _ _ _ 7 [.int .i64 7] from rfl) (Reps.one (show Kd.M (Kd.int .i64) _ _ _ 8 [.int .i64 8] from rfl) (Reps.one (show Kd.M (Kd.int .i64) _ _ _ 10 [.int .i64 10] from rfl) (Reps.one (show Kd.M (Kd.int .i64) _ _ _ 11 [.int .i64 11] from rfl) (Reps.one (show Kd.M (Kd.int .i64) _ _ _ 16 [.int .i64 16] from rfl) (Reps.one (show Kd.M (Kd.int .i64) _ _ _ 17 [.int .i64 17] from rfl) (Reps.one (show Kd.M (Kd.int .i64) _ _ _ 18 [.int .i64 18] from rfl) (Reps.one (show Kd.M (Kd.int .i64) _ _ _ 24 [.int .i64 24] from rfl) (Reps.one (show Kd.M (Kd.int .i64) _ _ _ 32 [.int .i64 32] from rfl) (Reps.one (show Kd.M (Kd.int .i64) _ _ _ 33 [.int .i64 33] from rfl) (Reps.one (show Kd.M (Kd.int .i64) _ _ _ 37 [.int .i64 37] from rfl) (Reps.none _ _))))))))))))))))); intro v136 w6 ho7 hb hg_ hnew_; clear hg_ hnew_; (first | rw [← Ny135.out] at ho7 | (simp only [Int.reduceToNat] at ho7; rw [← Ny135.out] at ho7)); have n0_ := Aside0.mk (Kd.R_lower ho7 (below_size (by repeat (first | (with_reducible first | exact HB.out | apply below_alloc | apply pw_below_drewN | apply below_drew1 | refine below_set ?_ GE133.out | refine below_set ?_ GE134.out) | exact HB.out)))); have n1_ := Aside0.mk (blk_below (g := gb133) (o := .cells #[.int .u64 a0_0, .int .i64 a0_1, .int .i64 a0_2, .int .i64 a0_3] 24 (0, 0)) (by (with_reducible repeat (first | refine blk_drewN ?_ _ | refine blk_drew ?_ | refine blk_alloc ?_ _)); exact BK133.out) hb); have n2_ := Aside0.mk (blk_below (g := gb134) (o := .cells #[.int .u64 a2_0, .int .u64 a2_1, .int .i64 a2_2, .int .u64 a2_3, .bool a2_4, .int .u64 a2_5] 26 (0, 0)) (by (with_reducible repeat (first | refine blk_drewN ?_ _ | refine blk_drew ?_ | refine blk_alloc ?_ _)); exact BK134.out) hb); have n3_ := Aside0.mk (below_step (by repeat (first | (with_reducible first | exact HB.out | apply below_alloc | apply pw_below_drewN | apply below_drew1 | refine below_set ?_ GE133.out | refine below_set ?_ GE134.out) | exact HB.out)) hb); clear BK133; clear BK134; clear HB; have HO137 := n0_; have BK133 := n1_; have BK134 := n2_; have HB := n3_; clear n0_ n1_ n2_ n3_; clear hb ho7) | ((with_reducible refine gate_dst (N := 18) rfl ?_); refine Kd.R_lit (Kd.int .i64) _ 3 ?hg (N := 18) ?hd (xs := ([0, 8, 4, 8, 8, 8, 4, 4, 8, 8, 8, 8, 4, 8, 8] : List Int)) (inner := [.int .i64 0, .int .i64 8, .int .i64 4, .int .i64 8, .int .i64 8, .int .i64 8, .int .i64 4, .int .i64 4, .int .i64 8, .int .i64 8, .int .i64 8, .int .i64 8, .int .i64 4, .int .i64 8, .int .i64 8]) (ok := fun _ => True) (okp := fun _ => True) ?hr ?hp (fun _ hk => hk) trivial (Below.refl _ _) (Nat.le_refl _) (by simp) ?_; (case hd => rfl); (case hg => rfl); (case hr => first | (go_simp; done) | (go_simp; rfl)); (case hp => exact (Reps.one (show Kd.M (Kd.int .i64) _ _ _ 0 [.int .i64 0] from rfl) (Reps.one (show Kd.M (Kd.int .i64) _ _ _ 8 [.int .i64 8] from rfl) (Reps.one (show Kd.M (Kd.int .i64) _ _ _ 4 [.int .i64 4] from rfl) (Reps.one (show Kd.M (Kd.int .i64) _ _ _ 8 [.int .i64 8] from rfl) (Reps.one (show Kd.M (Kd.int .i64) _ _ _ 8 [.int .i64 8] from rfl) (Reps.one (show Kd.M (Kd.int .i64) _ _ _ 8 [.int .i64 8] from rfl) (Reps.one (show Kd.M (Kd.int .i64) _ _ _ 4 [.int .i64 4] from rfl) (Reps.one (show Kd.M (Kd.int .i64) _ _ _ 4 [.int .i64 4] from rfl) (Reps.one (show Kd.M (Kd.int .i64) _ _ _ 8 [.int .i64 8] from rfl) (Reps.one (show Kd.M (Kd.int .i64) _ _ _ 8 [.int .i64 8] from rfl) (Reps.one (show Kd.M (Kd.int .i64) _ _ _ 8 [.int .i64 8] from rfl) (Reps.one (show Kd.M (Kd.int .i64) _ _ _ 8 [.int .i64 8] from rfl) (Reps.one (show Kd.M (Kd.int .i64) _ _ _ 4 [.int .i64 4] from rfl) (Reps.one (show Kd.M (Kd.int .i64) _ _ _ 8 [.int .i64 8] from rfl) (Reps.one (show Kd.M (Kd.int .i64) _ _ _ 8 [.int .i64 8] from rfl) (Reps.none _ _))))))))))))))))); intro v139 w8 ho9 hb hg_ hnew_; clear hg_ hnew_; (first | rw [← Ny138.out] at ho9 | (simp only [Int.reduceToNat] at ho9; rw [← Ny138.out] at ho9)); have n0_ := Aside0.mk (Kd.R_elder' (by (with_reducible repeat (first | apply Kd.R_alloc | apply Kd.R_drewN | apply Kd.R_drew)); exact HO137.out) (Kd.R_base ho9) hb); have n1_ := Aside0.mk (Kd.R_lower (Kd.R_new' ho9 (Kd.R_lt (by (with_reducible repeat (first | apply Kd.R_alloc | apply Kd.R_drewN | apply Kd.R_drew)); exact HO137.out))) (below_size (by repeat (first | (with_reducible first | exact HB.out | apply below_alloc | apply pw_below_drewN | apply below_drew1 | refine below_set ?_ GE133.out | refine below_set ?_ GE134.out) | exact HB.out)))); have n2_ := Aside0.mk (blk_below (g := gb133) (o := .cells #[.int .u64 a0_0, .int .i64 a0_1, .int .i64 a0_2, .int .i64 a0_3] 24 (0, 0)) (by (with_reducible repeat (first | refine blk_drewN ?_ _ | refine blk_drew ?_ | refine blk_alloc ?_ _)); exact BK133.out) hb); have n3_ := Aside0.mk (blk_below (g := gb134) (o := .cells #[.int .u64 a2_0, .int .u64 a2_1, .int .i64 a2_2, .int .u64 a2_3, .bool a2_4, .int .u64 a2_5] 26 (0, 0)) (by (with_reducible repeat (first | refine blk_drewN ?_ _ | refine blk_drew ?_ | refine blk_alloc ?_ _)); exact BK134.out) hb); have n4_ := Aside0.mk (below_step (by repeat (first | (with_reducible first | exact HB.out | apply below_alloc | apply pw_below_drewN | apply below_drew1 | refine below_set ?_ GE133.out | refine below_set ?_ GE134.out) | exact HB.out)) hb); clear HO137; clear BK133; clear BK134; clear HB; have HO137 := n0_; have HO140 := n1_; have BK133 := n2_; have BK134 := n3_; have HB := n4_; clear n0_ n1_ n2_ n3_ n4_; clear hb ho9; have hnb10 := NB133_134.out; have hnc10 := NB134_133.out; have hcz11_0 : w8.cell? ⟨gb133, 0, none⟩ = some (.int .u64 a0_0) := (blk_cell BK133.out 0).trans rfl; have hcz11_1 : w8.cell? ⟨gb133, 1, none⟩ = some (.int .i64 a0_1) := (blk_cell BK133.out 1).trans rfl; have hcz11_2 : w8.cell? ⟨gb133, 2, none⟩ = some (.int .i64 a0_2) := (blk_cell BK133.out 2).trans rfl; have hcz11_3 : w8.cell? ⟨gb133, 3, none⟩ = some (.int .i64 a0_3) := (blk_cell BK133.out 3).trans rfl; have hfz11_0 := blk_frozen BK133.out 0; have hfz11_1 := blk_frozen BK133.out 1; have hfz11_2 := blk_frozen BK133.out 2; have hfz11_3 := blk_frozen BK133.out 3; have hcz12_0 : w8.cell? ⟨gb134, 0, none⟩ = some (.int .u64 a2_0) := (blk_cell BK134.out 0).trans rfl; have hcz12_1 : w8.cell? ⟨gb134, 1, none⟩ = some (.int .u64 a2_1) := (blk_cell BK134.out 1).trans rfl; have hcz12_2 : w8.cell? ⟨gb134, 2, none⟩ = some (.int .i64 a2_2) := (blk_cell BK134.out 2).trans rfl; have hcz12_3 : w8.cell? ⟨gb134, 3, none⟩ = some (.int .u64 a2_3) := (blk_cell BK134.out 3).trans rfl; have hcz12_4 : w8.cell? ⟨gb134, 4, none⟩ = some (.bool a2_4) := (blk_cell BK134.out 4).trans rfl; have hcz12_5 : w8.cell? ⟨gb134, 5, none⟩ = some (.int .u64 a2_5) := (blk_cell BK134.out 5).trans rfl; have hfz12_0 := blk_frozen BK134.out 0; have hfz12_1 := blk_frozen BK134.out 1; have hfz12_2 := blk_frozen BK134.out 2; have hfz12_3 := blk_frozen BK134.out 3; have hfz12_4 := blk_frozen BK134.out 4; have hfz12_5 := blk_frozen BK134.out 5) | ((with_reducible refine gate_dst (N := 82) rfl ?_); refine Kd.R_lit (Kd.int .u64) _ 22 ?hg (N := 82) ?hd (xs := ([0, IntKind.u64.wrap (a2_0 + (IntKind.u64.wrap (a0_3))), IntKind.u64.wrap ((IntKind.u64.wrap (a2_0 + (IntKind.u64.wrap (a0_3)))) - (IntKind.u64.wrap (a1 + a0_0))), a2_0, a2_0, IntKind.u64.wrap (a1 + (IntKind.u64.wrap (a0_3))), IntKind.u64.wrap (a2_0 + (IntKind.u64.wrap (a0_3))), IntKind.u64.wrap (a2_0 + (IntKind.u64.wrap (a0_3))), IntKind.u64.wrap (a2_2), IntKind.u64.wrap (a2_3 + (IntKind.u64.wrap (a0_3))), IntKind.u64.wrap ((IntKind.u64.wrap (a2_3 + (IntKind.u64.wrap (a0_3)))) - a2_5), IntKind.u64.wrap ((IntKind.u64.wrap (a2_0 + (IntKind.u64.wrap (a0_3)))) - (IntKind.u64.wrap (a1 + a0_0))), IntKind.u64.wrap (a2_1 + (IntKind.u64.wrap (a0_3))), IntKind.u64.wrap (a2_1 + (IntKind.u64.wrap (a0_3))), IntKind.u64.wrap (a1 + (IntKind.u64.wrap (a0_3)))] : List Int)) (inner := [.int .u64 0, .int .u64 (IntKind.u64.wrap (a2_0 + (IntKind.u64.wrap (a0_3)))), .int .u64 (IntKind.u64.wrap ((IntKind.u64.wrap (a2_0 + (IntKind.u64.wrap (a0_3)))) - (IntKind.u64.wrap (a1 + a0_0)))), .int .u64 a2_0, .int .u64 a2_0, .int .u64 (IntKind.u64.wrap (a1 + (IntKind.u64.wrap (a0_3)))), .int .u64 (IntKind.u64.wrap (a2_0 + (IntKind.u64.wrap (a0_3)))), .int .u64 (IntKind.u64.wrap (a2_0 + (IntKind.u64.wrap (a0_3)))), .int .u64 (IntKind.u64.wrap (a2_2)), .int .u64 (IntKind.u64.wrap (a2_3 + (IntKind.u64.wrap (a0_3)))), .int .u64 (IntKind.u64.wrap ((IntKind.u64.wrap (a2_3 + (IntKind.u64.wrap (a0_3)))) - a2_5)), .int .u64 (IntKind.u64.wrap ((IntKind.u64.wrap (a2_0 + (IntKind.u64.wrap (a0_3)))) - (IntKind.u64.wrap (a1 + a0_0)))), .int .u64 (IntKind.u64.wrap (a2_1 + (IntKind.u64.wrap (a0_3)))), .int .u64 (IntKind.u64.wrap (a2_1 + (IntKind.u64.wrap (a0_3)))), .int .u64 (IntKind.u64.wrap (a1 + (IntKind.u64.wrap (a0_3))))]) (ok := fun _ => True) (okp := fun _ => True) ?hr ?hp (fun _ hk => hk) trivial (Below.refl _ _) (Nat.le_refl _) (by simp) ?_; (case hd => rfl); (case hg => rfl); (case hr => first | (go_simp; done) | (go_simp; rfl)); (case hp => exact (Reps.one (show Kd.M (Kd.int .u64) _ _ _ 0 [.int .u64 0] from rfl) (Reps.one (show Kd.M (Kd.int .u64) _ _ _ (IntKind.u64.wrap (a2_0 + (IntKind.u64.wrap (a0_3)))) [.int .u64 (IntKind.u64.wrap (a2_0 + (IntKind.u64.wrap (a0_3))))] from rfl) (Reps.one (show Kd.M (Kd.int .u64) _ _ _ (IntKind.u64.wrap ((IntKind.u64.wrap (a2_0 + (IntKind.u64.wrap (a0_3)))) - (IntKind.u64.wrap (a1 + a0_0)))) [.int .u64 (IntKind.u64.wrap ((IntKind.u64.wrap (a2_0 + (IntKind.u64.wrap (a0_3)))) - (IntKind.u64.wrap (a1 + a0_0))))] from rfl) (Reps.one (show Kd.M (Kd.int .u64) _ _ _ a2_0 [.int .u64 a2_0] from rfl) (Reps.one (show Kd.M (Kd.int .u64) _ _ _ a2_0 [.int .u64 a2_0] from rfl) (Reps.one (show Kd.M (Kd.int .u64) _ _ _ (IntKind.u64.wrap (a1 + (IntKind.u64.wrap (a0_3)))) [.int .u64 (IntKind.u64.wrap (a1 + (IntKind.u64.wrap (a0_3))))] from rfl) (Reps.one (show Kd.M (Kd.int .u64) _ _ _ (IntKind.u64.wrap (a2_0 + (IntKind.u64.wrap (a0_3)))) [.int .u64 (IntKind.u64.wrap (a2_0 + (IntKind.u64.wrap (a0_3))))] from rfl) (Reps.one (show Kd.M (Kd.int .u64) _ _ _ (IntKind.u64.wrap (a2_0 + (IntKind.u64.wrap (a0_3)))) [.int .u64 (IntKind.u64.wrap (a2_0 + (IntKind.u64.wrap (a0_3))))] from rfl) (Reps.one (show Kd.M (Kd.int .u64) _ _ _ (IntKind.u64.wrap (a2_2)) [.int .u64 (IntKind.u64.wrap (a2_2))] from rfl) (Reps.one (show Kd.M (Kd.int .u64) _ _ _ (IntKind.u64.wrap (a2_3 + (IntKind.u64.wrap (a0_3)))) [.int .u64 (IntKind.u64.wrap (a2_3 + (IntKind.u64.wrap (a0_3))))] from rfl) (Reps.one (show Kd.M (Kd.int .u64) _ _ _ (IntKind.u64.wrap ((IntKind.u64.wrap (a2_3 + (IntKind.u64.wrap (a0_3)))) - a2_5)) [.int .u64 (IntKind.u64.wrap ((IntKind.u64.wrap (a2_3 + (IntKind.u64.wrap (a0_3)))) - a2_5))] from rfl) (Reps.one (show Kd.M (Kd.int .u64) _ _ _ (IntKind.u64.wrap ((IntKind.u64.wrap (a2_0 + (IntKind.u64.wrap (a0_3)))) - (IntKind.u64.wrap (a1 + a0_0)))) [.int .u64 (IntKind.u64.wrap ((IntKind.u64.wrap (a2_0 + (IntKind.u64.wrap (a0_3)))) - (IntKind.u64.wrap (a1 + a0_0))))] from rfl) (Reps.one (show Kd.M (Kd.int .u64) _ _ _ (IntKind.u64.wrap (a2_1 + (IntKind.u64.wrap (a0_3)))) [.int .u64 (IntKind.u64.wrap (a2_1 + (IntKind.u64.wrap (a0_3))))] from rfl) (Reps.one (show Kd.M (Kd.int .u64) _ _ _ (IntKind.u64.wrap (a2_1 + (IntKind.u64.wrap (a0_3)))) [.int .u64 (IntKind.u64.wrap (a2_1 + (IntKind.u64.wrap (a0_3))))] from rfl) (Reps.one (show Kd.M (Kd.int .u64) _ _ _ (IntKind.u64.wrap (a1 + (IntKind.u64.wrap (a0_3)))) [.int .u64 (IntKind.u64.wrap (a1 + (IntKind.u64.wrap (a0_3))))] from rfl) (Reps.none _ _))))))))))))))))); intro v142 w13 ho14 hb hg_ hnew_; clear hg_ hnew_; (first | rw [← Ny141.out] at ho14 | (simp only [Int.reduceToNat] at ho14; rw [← Ny141.out] at ho14)); have n0_ := Aside0.mk (Kd.R_below (by (with_reducible repeat (first | apply Kd.R_alloc | apply Kd.R_drewN | apply Kd.R_drew)); exact HO137.out) hb); have n1_ := Aside0.mk (Kd.R_below (by (with_reducible repeat (first | apply Kd.R_alloc | apply Kd.R_drewN | apply Kd.R_drew)); exact HO140.out) hb); have n2_ := Aside0.mk (Kd.R_lower ho14 (below_size (by repeat (first | (with_reducible first | exact HB.out | apply below_alloc | apply pw_below_drewN | apply below_drew1 | refine below_set ?_ GE133.out | refine below_set ?_ GE134.out) | exact HB.out)))); have n3_ := Aside0.mk (blk_below (g := gb133) (o := .cells #[.int .u64 a0_0, .int .i64 a0_1, .int .i64 a0_2, .int .i64 a0_3] 24 (0, 0)) (by (with_reducible repeat (first | refine blk_drewN ?_ _ | refine blk_drew ?_ | refine blk_alloc ?_ _)); exact BK133.out) hb); have n4_ := Aside0.mk (blk_below (g := gb134) (o := .cells #[.int .u64 a2_0, .int .u64 a2_1, .int .i64 a2_2, .int .u64 a2_3, .bool a2_4, .int .u64 a2_5] 26 (0, 0)) (by (with_reducible repeat (first | refine blk_drewN ?_ _ | refine blk_drew ?_ | refine blk_alloc ?_ _)); exact BK134.out) hb); have n5_ := Aside0.mk (below_step (by repeat (first | (with_reducible first | exact HB.out | apply below_alloc | apply pw_below_drewN | apply below_drew1 | refine below_set ?_ GE133.out | refine below_set ?_ GE134.out) | exact HB.out)) hb); clear HO137; clear HO140; clear BK133; clear BK134; clear HB; have HO137 := n0_; have HO140 := n1_; have HO143 := n2_; have BK133 := n3_; have BK134 := n4_; have HB := n5_; clear n0_ n1_ n2_ n3_ n4_ n5_; clear hb ho14)); try go_wp2_with (first | ((with_reducible refine gate_dst (N := 3) rfl ?_); refine box_event ?hg (N := 3) ?hd (cs := #[.int .u64 a0_0, .int .i64 a0_1, .int .i64 a0_2, .int .i64 a0_3]) (t := 24) ?hr ?_; (case hd => rfl); (case hg => rfl); (case hr => first | (go_simp; done) | (go_simp; rfl)); intro gb133 hg w4 hbox hb; have n0_ := Aside0.mk (below_step (by repeat (first | (with_reducible first | exact HB.out | apply below_alloc | apply pw_below_drewN | apply below_drew1) | exact HB.out)) hb); have n1_ := Aside0.mk (hbox); have n2_ := Aside0.mk ((by rw [hg]; exact (below_size (by repeat (first | (with_reducible first | exact HB.out | apply below_alloc | apply pw_below_drewN | apply below_drew1) | exact HB.out))) : w.heap.size ≤ gb133)); have n3_ := Aside0.mk ((by rw [hg]; exact (below_size (by repeat (first | (with_reducible first | exact HB.out | apply below_alloc | apply pw_below_drewN | apply below_drew1) | exact HB.out))) : w.heap.size ≤ gb133)); clear HB; have HB := n0_; have BK133 := n1_; have GW133 := n2_; have GE133 := n3_; clear n0_ n1_ n2_ n3_; clear hb hbox hg) | ((with_reducible refine gate_dst (N := 5) rfl ?_); refine box_event ?hg (N := 5) ?hd (cs := #[.int .u64 a2_0, .int .u64 a2_1, .int .i64 a2_2, .int .u64 a2_3, .bool a2_4, .int .u64 a2_5]) (t := 26) ?hr ?_; (case hd => rfl); (case hg => rfl); (case hr => first | (go_simp; done) | (go_simp; rfl)); intro gb134 hg w5 hbox hb; have n0_ := Aside0.mk (blk_below (g := gb133) (o := .cells #[.int .u64 a0_0, .int .i64 a0_1, .int .i64 a0_2, .int .i64 a0_3] 24 (0, 0)) (by (with_reducible repeat (first | refine blk_drewN ?_ _ | refine blk_drew ?_ | refine blk_alloc ?_ _)); exact BK133.out) hb); have n1_ := Aside0.mk (below_step (by repeat (first | (with_reducible first | exact HB.out | apply below_alloc | apply pw_below_drewN | apply below_drew1 | refine below_set ?_ GE133.out) | exact HB.out)) hb); have n2_ := Aside0.mk (hbox); have n3_ := Aside0.mk ((by rw [hg]; exact (below_size (by repeat (first | (with_reducible first | exact HB.out | apply below_alloc | apply pw_below_drewN | apply below_drew1 | refine below_set ?_ GE133.out) | exact HB.out))) : w.heap.size ≤ gb134)); have n4_ := Aside0.mk ((by rw [hg]; exact (below_size (by repeat (first | (with_reducible first | exact HB.out | apply below_alloc | apply pw_below_drewN | apply below_drew1 | refine below_set ?_ GE133.out) | exact HB.out))) : w.heap.size ≤ gb134)); have n5_ := Aside0.mk ((by rw [hg]; exact Nat.ne_of_lt (blk_lt (g := gb133) (o := .cells #[.int .u64 a0_0, .int .i64 a0_1, .int .i64 a0_2, .int .i64 a0_3] 24 (0, 0)) (by (with_reducible repeat (first | refine blk_drewN ?_ _ | refine blk_drew ?_ | refine blk_alloc ?_ _)); exact BK133.out)) : gb133 ≠ gb134)); have n6_ := Aside0.mk ((by rw [hg]; exact Nat.ne_of_gt (blk_lt (g := gb133) (o := .cells #[.int .u64 a0_0, .int .i64 a0_1, .int .i64 a0_2, .int .i64 a0_3] 24 (0, 0)) (by (with_reducible repeat (first | refine blk_drewN ?_ _ | refine blk_drew ?_ | refine blk_alloc ?_ _)); exact BK133.out)) : gb134 ≠ gb133)); clear BK133; clear HB; have BK133 := n0_; have HB := n1_; have BK134 := n2_; have GW134 := n3_; have GE134 := n4_; have NB133_134 := n5_; have NB134_133 := n6_; clear n0_ n1_ n2_ n3_ n4_ n5_ n6_; clear hb hbox hg) | ((with_reducible refine gate_dst (N := 17) rfl ?_); refine Kd.R_lit (Kd.int .i64) _ 3 ?hg (N := 17) ?hd (xs := ([0, 1, 2, 6, 7, 8, 10, 11, 16, 17, 18, 24, 32, 33, 37] : List Int)) (inner := [.int .i64 0, .int .i64 1, .int .i64 2, .int .i64 6, .int .i64 7, .int .i64 8, .int .i64 10, .int .i64 11, .int .i64 16, .int .i64 17, .int .i64 18, .int .i64 24, .int .i64 32, .int .i64 33, .int .i64 37]) (ok := fun _ => True) (okp := fun _ => True) ?hr ?hp (fun _ hk => hk) trivial (Below.refl _ _) (Nat.le_refl _) (by simp) ?_; (case hd => rfl); (case hg => rfl); (case hr => first | (go_simp; done) | (go_simp; rfl)); (case hp => exact (Reps.one (show Kd.M (Kd.int .i64) _ _ _ 0 [.int .i64 0] from rfl) (Reps.one (show Kd.M (Kd.int .i64) _ _ _ 1 [.int .i64 1] from rfl) (Reps.one (show Kd.M (Kd.int .i64) _ _ _ 2 [.int .i64 2] from rfl) (Reps.one (show Kd.M (Kd.int .i64) _ _ _ 6 [.int .i64 6] from rfl) (Reps.one (show Kd.M (Kd.int .i64) _ _ _ 7 [.int .i64 7] from rfl) (Reps.one (show Kd.M (Kd.int .i64) _ _ _ 8 [.int .i64 8] from rfl) (Reps.one (show Kd.M (Kd.int .i64) _ _ _ 10 [.int .i64 10] from rfl) (Reps.one (show Kd.M (Kd.int .i64) _ _ _ 11 [.int .i64 11] from rfl) (Reps.one (show Kd.M (Kd.int .i64) _ _ _ 16 [.int .i64 16] from rfl) (Reps.one (show Kd.M (Kd.int .i64) _ _ _ 17 [.int .i64 17] from rfl) (Reps.one (show Kd.M (Kd.int .i64) _ _ _ 18 [.int .i64 18] from rfl) (Reps.one (show Kd.M (Kd.int .i64) _ _ _ 24 [.int .i64 24] from rfl) (Reps.one (show Kd.M (Kd.int .i64) _ _ _ 32 [.int .i64 32] from rfl) (Reps.one (show Kd.M (Kd.int .i64) _ _ _ 33 [.int .i64 33] from rfl) (Reps.one (show Kd.M (Kd.int .i64) _ _ _ 37 [.int .i64 37] from rfl) (Reps.none _ _))))))))))))))))); intro v136 w6 ho7 hb hg_ hnew_; clear hg_ hnew_; (first | rw [← Ny135.out] at ho7 | (simp only [Int.reduceToNat] at ho7; rw [← Ny135.out] at ho7)); have n0_ := Aside0.mk (Kd.R_lower ho7 (below_size (by repeat (first | (with_reducible first | exact HB.out | apply below_alloc | apply pw_below_drewN | apply below_drew1 | refine below_set ?_ GE133.out | refine below_set ?_ GE134.out) | exact HB.out)))); have n1_ := Aside0.mk (blk_below (g := gb133) (o := .cells #[.int .u64 a0_0, .int .i64 a0_1, .int .i64 a0_2, .int .i64 a0_3] 24 (0, 0)) (by (with_reducible repeat (first | refine blk_drewN ?_ _ | refine blk_drew ?_ | refine blk_alloc ?_ _)); exact BK133.out) hb); have n2_ := Aside0.mk (blk_below (g := gb134) (o := .cells #[.int .u64 a2_0, .int .u64 a2_1, .int .i64 a2_2, .int .u64 a2_3, .bool a2_4, .int .u64 a2_5] 26 (0, 0)) (by (with_reducible repeat (first | refine blk_drewN ?_ _ | refine blk_drew ?_ | refine blk_alloc ?_ _)); exact BK134.out) hb); have n3_ := Aside0.mk (below_step (by repeat (first | (with_reducible first | exact HB.out | apply below_alloc | apply pw_below_drewN | apply below_drew1 | refine below_set ?_ GE133.out | refine below_set ?_ GE134.out) | exact HB.out)) hb); clear BK133; clear BK134; clear HB; have HO137 := n0_; have BK133 := n1_; have BK134 := n2_; have HB := n3_; clear n0_ n1_ n2_ n3_; clear hb ho7) | ((with_reducible refine gate_dst (N := 18) rfl ?_); refine Kd.R_lit (Kd.int .i64) _ 3 ?hg (N := 18) ?hd (xs := ([0, 8, 4, 8, 8, 8, 4, 4, 8, 8, 8, 8, 4, 8, 8] : List Int)) (inner := [.int .i64 0, .int .i64 8, .int .i64 4, .int .i64 8, .int .i64 8, .int .i64 8, .int .i64 4, .int .i64 4, .int .i64 8, .int .i64 8, .int .i64 8, .int .i64 8, .int .i64 4, .int .i64 8, .int .i64 8]) (ok := fun _ => True) (okp := fun _ => True) ?hr ?hp (fun _ hk => hk) trivial (Below.refl _ _) (Nat.le_refl _) (by simp) ?_; (case hd => rfl); (case hg => rfl); (case hr => first | (go_simp; done) | (go_simp; rfl)); (case hp => exact (Reps.one (show Kd.M (Kd.int .i64) _ _ _ 0 [.int .i64 0] from rfl) (Reps.one (show Kd.M (Kd.int .i64) _ _ _ 8 [.int .i64 8] from rfl) (Reps.one (show Kd.M (Kd.int .i64) _ _ _ 4 [.int .i64 4] from rfl) (Reps.one (show Kd.M (Kd.int .i64) _ _ _ 8 [.int .i64 8] from rfl) (Reps.one (show Kd.M (Kd.int .i64) _ _ _ 8 [.int .i64 8] from rfl) (Reps.one (show Kd.M (Kd.int .i64) _ _ _ 8 [.int .i64 8] from rfl) (Reps.one (show Kd.M (Kd.int .i64) _ _ _ 4 [.int .i64 4] from rfl) (Reps.one (show Kd.M (Kd.int .i64) _ _ _ 4 [.int .i64 4] from rfl) (Reps.one (show Kd.M (Kd.int .i64) _ _ _ 8 [.int .i64 8] from rfl) (Reps.one (show Kd.M (Kd.int .i64) _ _ _ 8 [.int .i64 8] from rfl) (Reps.one (show Kd.M (Kd.int .i64) _ _ _ 8 [.int .i64 8] from rfl) (Reps.one (show Kd.M (Kd.int .i64) _ _ _ 8 [.int .i64 8] from rfl) (Reps.one (show Kd.M (Kd.int .i64) _ _ _ 4 [.int .i64 4] from rfl) (Reps.one (show Kd.M (Kd.int .i64) _ _ _ 8 [.int .i64 8] from rfl) (Reps.one (show Kd.M (Kd.int .i64) _ _ _ 8 [.int .i64 8] from rfl) (Reps.none _ _))))))))))))))))); intro v139 w8 ho9 hb hg_ hnew_; clear hg_ hnew_; (first | rw [← Ny138.out] at ho9 | (simp only [Int.reduceToNat] at ho9; rw [← Ny138.out] at ho9)); have n0_ := Aside0.mk (Kd.R_elder' (by (with_reducible repeat (first | apply Kd.R_alloc | apply Kd.R_drewN | apply Kd.R_drew)); exact HO137.out) (Kd.R_base ho9) hb); have n1_ := Aside0.mk (Kd.R_lower (Kd.R_new' ho9 (Kd.R_lt (by (with_reducible repeat (first | apply Kd.R_alloc | apply Kd.R_drewN | apply Kd.R_drew)); exact HO137.out))) (below_size (by repeat (first | (with_reducible first | exact HB.out | apply below_alloc | apply pw_below_drewN | apply below_drew1 | refine below_set ?_ GE133.out | refine below_set ?_ GE134.out) | exact HB.out)))); have n2_ := Aside0.mk (blk_below (g := gb133) (o := .cells #[.int .u64 a0_0, .int .i64 a0_1, .int .i64 a0_2, .int .i64 a0_3] 24 (0, 0)) (by (with_reducible repeat (first | refine blk_drewN ?_ _ | refine blk_drew ?_ | refine blk_alloc ?_ _)); exact BK133.out) hb); have n3_ := Aside0.mk (blk_below (g := gb134) (o := .cells #[.int .u64 a2_0, .int .u64 a2_1, .int .i64 a2_2, .int .u64 a2_3, .bool a2_4, .int .u64 a2_5] 26 (0, 0)) (by (with_reducible repeat (first | refine blk_drewN ?_ _ | refine blk_drew ?_ | refine blk_alloc ?_ _)); exact BK134.out) hb); have n4_ := Aside0.mk (below_step (by repeat (first | (with_reducible first | exact HB.out | apply below_alloc | apply pw_below_drewN | apply below_drew1 | refine below_set ?_ GE133.out | refine below_set ?_ GE134.out) | exact HB.out)) hb); clear HO137; clear BK133; clear BK134; clear HB; have HO137 := n0_; have HO140 := n1_; have BK133 := n2_; have BK134 := n3_; have HB := n4_; clear n0_ n1_ n2_ n3_ n4_; clear hb ho9; have hnb10 := NB133_134.out; have hnc10 := NB134_133.out; have hcz11_0 : w8.cell? ⟨gb133, 0, none⟩ = some (.int .u64 a0_0) := (blk_cell BK133.out 0).trans rfl; have hcz11_1 : w8.cell? ⟨gb133, 1, none⟩ = some (.int .i64 a0_1) := (blk_cell BK133.out 1).trans rfl; have hcz11_2 : w8.cell? ⟨gb133, 2, none⟩ = some (.int .i64 a0_2) := (blk_cell BK133.out 2).trans rfl; have hcz11_3 : w8.cell? ⟨gb133, 3, none⟩ = some (.int .i64 a0_3) := (blk_cell BK133.out 3).trans rfl; have hfz11_0 := blk_frozen BK133.out 0; have hfz11_1 := blk_frozen BK133.out 1; have hfz11_2 := blk_frozen BK133.out 2; have hfz11_3 := blk_frozen BK133.out 3; have hcz12_0 : w8.cell? ⟨gb134, 0, none⟩ = some (.int .u64 a2_0) := (blk_cell BK134.out 0).trans rfl; have hcz12_1 : w8.cell? ⟨gb134, 1, none⟩ = some (.int .u64 a2_1) := (blk_cell BK134.out 1).trans rfl; have hcz12_2 : w8.cell? ⟨gb134, 2, none⟩ = some (.int .i64 a2_2) := (blk_cell BK134.out 2).trans rfl; have hcz12_3 : w8.cell? ⟨gb134, 3, none⟩ = some (.int .u64 a2_3) := (blk_cell BK134.out 3).trans rfl; have hcz12_4 : w8.cell? ⟨gb134, 4, none⟩ = some (.bool a2_4) := (blk_cell BK134.out 4).trans rfl; have hcz12_5 : w8.cell? ⟨gb134, 5, none⟩ = some (.int .u64 a2_5) := (blk_cell BK134.out 5).trans rfl; have hfz12_0 := blk_frozen BK134.out 0; have hfz12_1 := blk_frozen BK134.out 1; have hfz12_2 := blk_frozen BK134.out 2; have hfz12_3 := blk_frozen BK134.out 3; have hfz12_4 := blk_frozen BK134.out 4; have hfz12_5 := blk_frozen BK134.out 5) | ((with_reducible refine gate_dst (N := 82) rfl ?_); refine Kd.R_lit (Kd.int .u64) _ 22 ?hg (N := 82) ?hd (xs := ([0, IntKind.u64.wrap (a2_0 + (IntKind.u64.wrap (a0_3))), IntKind.u64.wrap ((IntKind.u64.wrap (a2_0 + (IntKind.u64.wrap (a0_3)))) - (IntKind.u64.wrap (a1 + a0_0))), a2_0, a2_0, IntKind.u64.wrap (a1 + (IntKind.u64.wrap (a0_3))), IntKind.u64.wrap (a2_0 + (IntKind.u64.wrap (a0_3))), IntKind.u64.wrap (a2_0 + (IntKind.u64.wrap (a0_3))), IntKind.u64.wrap (a2_2), IntKind.u64.wrap (a2_3 + (IntKind.u64.wrap (a0_3))), IntKind.u64.wrap ((IntKind.u64.wrap (a2_3 + (IntKind.u64.wrap (a0_3)))) - a2_5), IntKind.u64.wrap ((IntKind.u64.wrap (a2_0 + (IntKind.u64.wrap (a0_3)))) - (IntKind.u64.wrap (a1 + a0_0))), IntKind.u64.wrap (a2_1 + (IntKind.u64.wrap (a0_3))), IntKind.u64.wrap (a2_1 + (IntKind.u64.wrap (a0_3))), IntKind.u64.wrap (a1 + (IntKind.u64.wrap (a0_3)))] : List Int)) (inner := [.int .u64 0, .int .u64 (IntKind.u64.wrap (a2_0 + (IntKind.u64.wrap (a0_3)))), .int .u64 (IntKind.u64.wrap ((IntKind.u64.wrap (a2_0 + (IntKind.u64.wrap (a0_3)))) - (IntKind.u64.wrap (a1 + a0_0)))), .int .u64 a2_0, .int .u64 a2_0, .int .u64 (IntKind.u64.wrap (a1 + (IntKind.u64.wrap (a0_3)))), .int .u64 (IntKind.u64.wrap (a2_0 + (IntKind.u64.wrap (a0_3)))), .int .u64 (IntKind.u64.wrap (a2_0 + (IntKind.u64.wrap (a0_3)))), .int .u64 (IntKind.u64.wrap (a2_2)), .int .u64 (IntKind.u64.wrap (a2_3 + (IntKind.u64.wrap (a0_3)))), .int .u64 (IntKind.u64.wrap ((IntKind.u64.wrap (a2_3 + (IntKind.u64.wrap (a0_3)))) - a2_5)), .int .u64 (IntKind.u64.wrap ((IntKind.u64.wrap (a2_0 + (IntKind.u64.wrap (a0_3)))) - (IntKind.u64.wrap (a1 + a0_0)))), .int .u64 (IntKind.u64.wrap (a2_1 + (IntKind.u64.wrap (a0_3)))), .int .u64 (IntKind.u64.wrap (a2_1 + (IntKind.u64.wrap (a0_3)))), .int .u64 (IntKind.u64.wrap (a1 + (IntKind.u64.wrap (a0_3))))]) (ok := fun _ => True) (okp := fun _ => True) ?hr ?hp (fun _ hk => hk) trivial (Below.refl _ _) (Nat.le_refl _) (by simp) ?_; (case hd => rfl); (case hg => rfl); (case hr => first | (go_simp; done) | (go_simp; rfl)); (case hp => exact (Reps.one (show Kd.M (Kd.int .u64) _ _ _ 0 [.int .u64 0] from rfl) (Reps.one (show Kd.M (Kd.int .u64) _ _ _ (IntKind.u64.wrap (a2_0 + (IntKind.u64.wrap (a0_3)))) [.int .u64 (IntKind.u64.wrap (a2_0 + (IntKind.u64.wrap (a0_3))))] from rfl) (Reps.one (show Kd.M (Kd.int .u64) _ _ _ (IntKind.u64.wrap ((IntKind.u64.wrap (a2_0 + (IntKind.u64.wrap (a0_3)))) - (IntKind.u64.wrap (a1 + a0_0)))) [.int .u64 (IntKind.u64.wrap ((IntKind.u64.wrap (a2_0 + (IntKind.u64.wrap (a0_3)))) - (IntKind.u64.wrap (a1 + a0_0))))] from rfl) (Reps.one (show Kd.M (Kd.int .u64) _ _ _ a2_0 [.int .u64 a2_0] from rfl) (Reps.one (show Kd.M (Kd.int .u64) _ _ _ a2_0 [.int .u64 a2_0] from rfl) (Reps.one (show Kd.M (Kd.int .u64) _ _ _ (IntKind.u64.wrap (a1 + (IntKind.u64.wrap (a0_3)))) [.int .u64 (IntKind.u64.wrap (a1 + (IntKind.u64.wrap (a0_3))))] from rfl) (Reps.one (show Kd.M (Kd.int .u64) _ _ _ (IntKind.u64.wrap (a2_0 + (IntKind.u64.wrap (a0_3)))) [.int .u64 (IntKind.u64.wrap (a2_0 + (IntKind.u64.wrap (a0_3))))] from rfl) (Reps.one (show Kd.M (Kd.int .u64) _ _ _ (IntKind.u64.wrap (a2_0 + (IntKind.u64.wrap (a0_3)))) [.int .u64 (IntKind.u64.wrap (a2_0 + (IntKind.u64.wrap (a0_3))))] from rfl) (Reps.one (show Kd.M (Kd.int .u64) _ _ _ (IntKind.u64.wrap (a2_2)) [.int .u64 (IntKind.u64.wrap (a2_2))] from rfl) (Reps.one (show Kd.M (Kd.int .u64) _ _ _ (IntKind.u64.wrap (a2_3 + (IntKind.u64.wrap (a0_3)))) [.int .u64 (IntKind.u64.wrap (a2_3 + (IntKind.u64.wrap (a0_3))))] from rfl) (Reps.one (show Kd.M (Kd.int .u64) _ _ _ (IntKind.u64.wrap ((IntKind.u64.wrap (a2_3 + (IntKind.u64.wrap (a0_3)))) - a2_5)) [.int .u64 (IntKind.u64.wrap ((IntKind.u64.wrap (a2_3 + (IntKind.u64.wrap (a0_3)))) - a2_5))] from rfl) (Reps.one (show Kd.M (Kd.int .u64) _ _ _ (IntKind.u64.wrap ((IntKind.u64.wrap (a2_0 + (IntKind.u64.wrap (a0_3)))) - (IntKind.u64.wrap (a1 + a0_0)))) [.int .u64 (IntKind.u64.wrap ((IntKind.u64.wrap (a2_0 + (IntKind.u64.wrap (a0_3)))) - (IntKind.u64.wrap (a1 + a0_0))))] from rfl) (Reps.one (show Kd.M (Kd.int .u64) _ _ _ (IntKind.u64.wrap (a2_1 + (IntKind.u64.wrap (a0_3)))) [.int .u64 (IntKind.u64.wrap (a2_1 + (IntKind.u64.wrap (a0_3))))] from rfl) (Reps.one (show Kd.M (Kd.int .u64) _ _ _ (IntKind.u64.wrap (a2_1 + (IntKind.u64.wrap (a0_3)))) [.int .u64 (IntKind.u64.wrap (a2_1 + (IntKind.u64.wrap (a0_3))))] from rfl) (Reps.one (show Kd.M (Kd.int .u64) _ _ _ (IntKind.u64.wrap (a1 + (IntKind.u64.wrap (a0_3)))) [.int .u64 (IntKind.u64.wrap (a1 + (IntKind.u64.wrap (a0_3))))] from rfl) (Reps.none _ _))))))))))))))))); intro v142 w13 ho14 hb hg_ hnew_; clear hg_ hnew_; (first | rw [← Ny141.out] at ho14 | (simp only [Int.reduceToNat] at ho14; rw [← Ny141.out] at ho14)); have n0_ := Aside0.mk (Kd.R_below (by (with_reducible repeat (first | apply Kd.R_alloc | apply Kd.R_drewN | apply Kd.R_drew)); exact HO137.out) hb); have n1_ := Aside0.mk (Kd.R_below (by (with_reducible repeat (first | apply Kd.R_alloc | apply Kd.R_drewN | apply Kd.R_drew)); exact HO140.out) hb); have n2_ := Aside0.mk (Kd.R_lower ho14 (below_size (by repeat (first | (with_reducible first | exact HB.out | apply below_alloc | apply pw_below_drewN | apply below_drew1 | refine below_set ?_ GE133.out | refine below_set ?_ GE134.out) | exact HB.out)))); have n3_ := Aside0.mk (blk_below (g := gb133) (o := .cells #[.int .u64 a0_0, .int .i64 a0_1, .int .i64 a0_2, .int .i64 a0_3] 24 (0, 0)) (by (with_reducible repeat (first | refine blk_drewN ?_ _ | refine blk_drew ?_ | refine blk_alloc ?_ _)); exact BK133.out) hb); have n4_ := Aside0.mk (blk_below (g := gb134) (o := .cells #[.int .u64 a2_0, .int .u64 a2_1, .int .i64 a2_2, .int .u64 a2_3, .bool a2_4, .int .u64 a2_5] 26 (0, 0)) (by (with_reducible repeat (first | refine blk_drewN ?_ _ | refine blk_drew ?_ | refine blk_alloc ?_ _)); exact BK134.out) hb); have n5_ := Aside0.mk (below_step (by repeat (first | (with_reducible first | exact HB.out | apply below_alloc | apply pw_below_drewN | apply below_drew1 | refine below_set ?_ GE133.out | refine below_set ?_ GE134.out) | exact HB.out)) hb); clear HO137; clear HO140; clear BK133; clear BK134; clear HB; have HO137 := n0_; have HO140 := n1_; have HO143 := n2_; have BK133 := n3_; have BK134 := n4_; have HB := n5_; clear n0_ n1_ n2_ n3_ n4_ n5_; clear hb ho14)))
  go_loopg [14] k (fun kq v14 w' => ∃ (x14_1 : Int), v14 = .int .i64 x14_1 ∧ Aside0 (shackleref19_Value.l0 kq y135 y138 y141 x14_1 a0_0 a0_1 a0_2 a0_3 a2_0 a2_1 a2_2 a2_3 a2_4 a2_5 = some (r1, r2, r3)) ∧ Aside0 (kq ≤ k) ∧ Aside0 (Kd.R (Kd.int .i64) 3 w' w.heap.size (fun k_ => some k_ ≠ (v139 : Value).ownBlock) v136 y135) ∧ Aside0 (Kd.R (Kd.int .i64) 3 w' w.heap.size (fun k_ => some k_ ≠ (v136 : Value).ownBlock) v139 y138) ∧ Aside0 (Kd.R (Kd.int .u64) 22 w' w.heap.size (fun _ => True) v142 y141) ∧ Aside0 (w'.heap[gb133]? = some (.cells #[.int .u64 a0_0, .int .i64 a0_1, .int .i64 a0_2, .int .i64 a0_3] 24 (0, 0))) ∧ Aside0 (w'.heap[gb134]? = some (.cells #[.int .u64 a2_0, .int .u64 a2_1, .int .i64 a2_2, .int .u64 a2_3, .bool a2_4, .int .u64 a2_5] 26 (0, 0))) ∧ Aside0 (Below w.heap.size w w'))
  case atStart => exact ⟨(0), (by first | rfl | (simp; done) | (simp [*]; done)), H', ⟨Nat.le_refl _⟩, ⟨by (with_reducible repeat (first | apply Kd.R_alloc | apply Kd.R_drewN | apply Kd.R_drew)); exact Kd.R_mono HO137.out (fun _ hk => hk.2)⟩, ⟨by (with_reducible repeat (first | apply Kd.R_alloc | apply Kd.R_drewN | apply Kd.R_drew)); exact Kd.R_mono HO140.out (fun _ hk => hk.2)⟩, ⟨by (with_reducible repeat (first | apply Kd.R_alloc | apply Kd.R_drewN | apply Kd.R_drew)); exact HO143.out⟩, ⟨by (with_reducible repeat (first | refine blk_drewN ?_ _ | refine blk_drew ?_ | refine blk_alloc ?_ _)); exact BK133.out⟩, ⟨by (with_reducible repeat (first | refine blk_drewN ?_ _ | refine blk_drew ?_ | refine blk_alloc ?_ _)); exact BK134.out⟩, ⟨by repeat (first | (with_reducible first | exact HB.out | apply below_alloc | apply pw_below_drewN | apply below_drew1 | refine below_set ?_ GE133.out | refine below_set ?_ GE134.out) | exact HB.out)⟩⟩
  case round =>
    clear H'
    try clear c1
    try clear p2
    try clear c10
    try clear hcz11_0
    try clear hcz11_1
    try clear hcz11_2
    try clear hcz11_3
    try clear hcz12_0
    try clear hcz12_1
    try clear hcz12_2
    try clear hcz12_3
    try clear hcz12_4
    try clear hcz12_5
    try clear hfz11_0
    try clear hfz11_1
    try clear hfz11_2
    try clear hfz11_3
    try clear hfz12_0
    try clear hfz12_1
    try clear hfz12_2
    try clear hfz12_3
    try clear hfz12_4
    try clear hfz12_5
    obtain ⟨x14_1, rfl, HA, HK1, HO_9, HO_10, HO_13, BK133, BK134, HB⟩ := hrel
    cases gk with
    | zero => exact absurd HA.out (by simp [shackleref19_Value.l0])
    | succ k1 =>
      have H := HA.out
      clear HA
      simp only [shackleref19_Value.l0] at H
      by_cases c15 : x14_1 < (y135.length : Int)
      · rw [if_pos c15] at H
        have c15b0 : decide (x14_1 < (y135.length : Int)) = true := decide_eq_true c15
        clear c15
        by_cases c16 : 0 ≤ x14_1
        · rw [if_pos c16] at H
          have c16b0 : decide (0 ≤ x14_1) = true := decide_eq_true c16
          clear c16
          by_cases c17 : (rd y135 x14_1) = a0_1
          · rw [if_pos c17] at H
            have c17b0 : ((rd y135 x14_1) == a0_1) = true := beq_iff_eq.mpr c17
            have c17b1 : ((rd y135 x14_1) != a0_1) = false := bne_eq_false_iff_eq.mpr c17
            clear c17
            by_cases c18 : x14_1 < (y141.length : Int)
            · rw [if_pos c18] at H
              have c18b0 : decide (x14_1 < (y141.length : Int)) = true := decide_eq_true c18
              clear c18
              have HC19 := Aside0.mk H
              clear H
              obtain ⟨Ao20, co20, eo20⟩ := Kd.R_slice HO_9.out
              subst eo20
              have p144 : 0 ≤ (x14_1 : Int) := of_decide_eq_true (by first | (with_reducible assumption) | assumption)
              have q144 : x14_1 < (y135.length : Int) := of_decide_eq_true (by first | (with_reducible assumption) | assumption)
              obtain ⟨ad144, e144, hx144_0⟩ := Kd.at_int (Kd.R_reads' HO_9.out).2.2 x14_1 p144 q144
              cases e144
              replace p144 := eq_true p144
              replace q144 := eq_true q144
              have hnb21 := NB133_134.out
              have hnc21 := NB134_133.out
              have hcz22_0 : wr.cell? ⟨gb133, 0, none⟩ = some (.int .u64 a0_0) := (blk_cell BK133.out 0).trans rfl
              have hcz22_1 : wr.cell? ⟨gb133, 1, none⟩ = some (.int .i64 a0_1) := (blk_cell BK133.out 1).trans rfl
              have hcz22_2 : wr.cell? ⟨gb133, 2, none⟩ = some (.int .i64 a0_2) := (blk_cell BK133.out 2).trans rfl
              have hcz22_3 : wr.cell? ⟨gb133, 3, none⟩ = some (.int .i64 a0_3) := (blk_cell BK133.out 3).trans rfl
              have hfz22_0 := blk_frozen BK133.out 0
              have hfz22_1 := blk_frozen BK133.out 1
              have hfz22_2 := blk_frozen BK133.out 2
              have hfz22_3 := blk_frozen BK133.out 3
              obtain ⟨Ao23, co23, eo23⟩ := Kd.R_slice HO_13.out
              subst eo23
              have p145 : 0 ≤ (x14_1 : Int) := of_decide_eq_true (by first | (with_reducible assumption) | assumption)
              have q145 : x14_1 < (y141.length : Int) := of_decide_eq_true (by first | (with_reducible assumption) | assumption)
              obtain ⟨ad145, e145, hx145_0⟩ := Kd.at_int (Kd.R_reads' HO_13.out).2.2 x14_1 p145 q145
              cases e145
              replace p145 := eq_true p145
              replace q145 := eq_true q145
              go_upto_region 11 with (fail)
              repeat (go_quiet (fail); go_upto_region 11 with (fail))
              go_cut [16] (fun v16 wc => ∃ (kq : Nat) (x16_18 : Bool), v16 = .bool x16_18 ∧ Aside0 (shackleref19_Value.j1 kq y138 x14_1 (rd y141 x14_1) x16_18 a0_0 a0_1 a0_2 a0_3 a2_0 a2_1 a2_2 a2_3 a2_4 a2_5 = some (r1, r2, r3)) ∧ Aside0 (kq ≤ k1) ∧ Aside0 (Kd.R (Kd.int .i64) 3 wc w.heap.size (fun _ => True) v139 y138) ∧ Aside0 (wc.heap[gb133]? = some (.cells #[.int .u64 a0_0, .int .i64 a0_1, .int .i64 a0_2, .int .i64 a0_3] 24 (0, 0))) ∧ Aside0 (wc.heap[gb134]? = some (.cells #[.int .u64 a2_0, .int .u64 a2_1, .int .i64 a2_2, .int .u64 a2_3, .bool a2_4, .int .u64 a2_5] 26 (0, 0))) ∧ Aside0 (Below w.heap.size w wc))
              case first =>
                have H := HC19.out
                clear HC19
                by_cases c24 : (rd y141 x14_1) < 2147483648
                · rw [if_pos c24] at H
                  have c24b0 : decide ((rd y141 x14_1) < 2147483648) = true := decide_eq_true c24
                  clear c24
                  (first | rw [c24b0] | (simp only [i64_w, i32_w]; rw [c24b0]) | skip)
                  have H' := Aside0.mk H
                  clear H
                  go_wp2
                  repeat (go_quiet (fail); try go_wp2)
                  go_meet
                  case rel => exact ⟨_, (true), (by first | rfl | (simp; done) | (simp [*]; done)), H', ⟨by have := HK1.out; first | omega | exact Nat.le_refl _⟩, ⟨by (with_reducible repeat (first | apply Kd.R_alloc | apply Kd.R_drewN | apply Kd.R_drew)); exact Kd.R_mono HO_10.out (fun _ hk => trivial)⟩, ⟨by (with_reducible repeat (first | refine blk_drewN ?_ _ | refine blk_drew ?_ | refine blk_alloc ?_ _)); exact BK133.out⟩, ⟨by (with_reducible repeat (first | refine blk_drewN ?_ _ | refine blk_drew ?_ | refine blk_alloc ?_ _)); exact BK134.out⟩, ⟨by repeat (first | (with_reducible first | exact HB.out | apply below_alloc | apply pw_below_drewN | apply below_drew1 | refine below_set ?_ GE133.out | refine below_set ?_ GE134.out) | exact HB.out)⟩⟩
                · rw [if_neg c24] at H
                  have c24b0 : decide ((rd y141 x14_1) < 2147483648) = false := decide_eq_false c24
                  clear c24
                  (first | rw [c24b0] | (simp only [i64_w, i32_w]; rw [c24b0]) | skip)
                  have H' := Aside0.mk H
                  clear H
                  go_wp2
                  repeat (go_quiet (fail); try go_wp2)
                  go_meet
                  case rel => exact ⟨_, (decide ((rd y141 x14_1) ≥ 18446744071562067968)), (by first | rfl | (simp; done) | (simp [*]; done)), H', ⟨by have := HK1.out; first | omega | exact Nat.le_refl _⟩, ⟨by (with_reducible repeat (first | apply Kd.R_alloc | apply Kd.R_drewN | apply Kd.R_drew)); exact Kd.R_mono HO_10.out (fun _ hk => trivial)⟩, ⟨by (with_reducible repeat (first | refine blk_drewN ?_ _ | refine blk_drew ?_ | refine blk_alloc ?_ _)); exact BK133.out⟩, ⟨by (with_reducible repeat (first | refine blk_drewN ?_ _ | refine blk_drew ?_ | refine blk_alloc ?_ _)); exact BK134.out⟩, ⟨by repeat (first | (with_reducible first | exact HB.out | apply below_alloc | apply pw_below_drewN | apply below_drew1 | refine below_set ?_ GE133.out | refine below_set ?_ GE134.out) | exact HB.out)⟩⟩
              case rest =>
                clear HC19
                try clear c1
                try clear p1
                try clear q1
                try clear hx1
                try clear c2
                try clear p2
                try clear c10
                try clear p14
                try clear q14
                try clear hx14
                try clear c15
                try clear c15b0
                try clear c16
                try clear c16b0
                try clear c17
                try clear c17b0
                try clear c17b1
                try clear c18
                try clear c18b0
                try clear c21
                try clear c24
                try clear c24b0
                try clear hcz11_0
                try clear hcz11_1
                try clear hcz11_2
                try clear hcz11_3
                try clear hcz12_0
                try clear hcz12_1
                try clear hcz12_2
                try clear hcz12_3
                try clear hcz12_4
                try clear hcz12_5
                try clear hcz22_0
                try clear hcz22_1
                try clear hcz22_2
                try clear hcz22_3
                try clear hfz11_0
                try clear hfz11_1
                try clear hfz11_2
                try clear hfz11_3
                try clear hfz12_0
                try clear hfz12_1
                try clear hfz12_2
                try clear hfz12_3
                try clear hfz12_4
                try clear hfz12_5
                try clear hfz22_0
                try clear hfz22_1
                try clear hfz22_2
                try clear hfz22_3
                try clear hx144_0
                try clear hx145_0
                try clear p144
                try clear p145
                try clear p2
                try clear q144
                try clear q145
                obtain ⟨kq, x16_18, rfl, HA, HJ18, HO_10, BK133, BK134, HB⟩ := hcut
                cases kq with
                | zero => exact absurd HA.out (by simp [shackleref19_Value.j1])
                | succ kj18 =>
                  have H := HA.out
                  clear HA
                  simp only [shackleref19_Value.j1] at H
                  have HC25 := Aside0.mk H
                  clear H
                  go_upto_region 12 with (fail)
                  repeat (go_quiet (fail); go_upto_region 12 with (fail))
                  go_cut [106] (fun v106 wc => ∃ (kq : Nat) (x106_24 : Bool), v106 = .bool x106_24 ∧ Aside0 (shackleref19_Value.j2 kq y138 x14_1 (rd y141 x14_1) x16_18 x106_24 a0_0 a0_1 a0_2 a0_3 = some (r1, r2, r3)) ∧ Aside0 (kq ≤ kj18) ∧ Aside0 (Kd.R (Kd.int .i64) 3 wc w.heap.size (fun _ => True) v139 y138) ∧ Aside0 (wc.heap[gb133]? = some (.cells #[.int .u64 a0_0, .int .i64 a0_1, .int .i64 a0_2, .int .i64 a0_3] 24 (0, 0))) ∧ Aside0 (wc.heap[gb134]? = some (.cells #[.int .u64 a2_0, .int .u64 a2_1, .int .i64 a2_2, .int .u64 a2_3, .bool a2_4, .int .u64 a2_5] 26 (0, 0))) ∧ Aside0 (Below w.heap.size w wc))
                  case first =>
                    have H := HC25.out
                    clear HC25
                    by_cases c26 : a0_1 = 18
                    · rw [if_pos c26] at H
                      have c26b0 : (a0_1 == 18) = true := beq_iff_eq.mpr c26
                      have c26b1 : (a0_1 != 18) = false := bne_eq_false_iff_eq.mpr c26
                      clear c26
                      (first | rw [c26b0] | (simp only [i64_w, i32_w]; rw [c26b0]) | skip)
                      by_cases c27 : a2_2 = 0
                      · rw [if_pos c27] at H
                        have c27b0 : (a2_2 == 0) = true := beq_iff_eq.mpr c27
                        have c27b1 : (a2_2 != 0) = false := bne_eq_false_iff_eq.mpr c27
                        clear c27
                        have H' := Aside0.mk H
                        clear H
                        have hnb28 := NB133_134.out
                        have hnc28 := NB134_133.out
                        have hcz29_0 : wc.cell? ⟨gb133, 0, none⟩ = some (.int .u64 a0_0) := (blk_cell BK133.out 0).trans rfl
                        have hcz29_1 : wc.cell? ⟨gb133, 1, none⟩ = some (.int .i64 a0_1) := (blk_cell BK133.out 1).trans rfl
                        have hcz29_2 : wc.cell? ⟨gb133, 2, none⟩ = some (.int .i64 a0_2) := (blk_cell BK133.out 2).trans rfl
                        have hcz29_3 : wc.cell? ⟨gb133, 3, none⟩ = some (.int .i64 a0_3) := (blk_cell BK133.out 3).trans rfl
                        have hfz29_0 := blk_frozen BK133.out 0
                        have hfz29_1 := blk_frozen BK133.out 1
                        have hfz29_2 := blk_frozen BK133.out 2
                        have hfz29_3 := blk_frozen BK133.out 3
                        have hcz30_0 : wc.cell? ⟨gb134, 0, none⟩ = some (.int .u64 a2_0) := (blk_cell BK134.out 0).trans rfl
                        have hcz30_1 : wc.cell? ⟨gb134, 1, none⟩ = some (.int .u64 a2_1) := (blk_cell BK134.out 1).trans rfl
                        have hcz30_2 : wc.cell? ⟨gb134, 2, none⟩ = some (.int .i64 a2_2) := (blk_cell BK134.out 2).trans rfl
                        have hcz30_3 : wc.cell? ⟨gb134, 3, none⟩ = some (.int .u64 a2_3) := (blk_cell BK134.out 3).trans rfl
                        have hcz30_4 : wc.cell? ⟨gb134, 4, none⟩ = some (.bool a2_4) := (blk_cell BK134.out 4).trans rfl
                        have hcz30_5 : wc.cell? ⟨gb134, 5, none⟩ = some (.int .u64 a2_5) := (blk_cell BK134.out 5).trans rfl
                        have hfz30_0 := blk_frozen BK134.out 0
                        have hfz30_1 := blk_frozen BK134.out 1
                        have hfz30_2 := blk_frozen BK134.out 2
                        have hfz30_3 := blk_frozen BK134.out 3
                        have hfz30_4 := blk_frozen BK134.out 4
                        have hfz30_5 := blk_frozen BK134.out 5
                        go_wp2
                        repeat (go_quiet (fail); try go_wp2)
                        go_meet
                        case rel => exact ⟨_, (false), (by first | rfl | (simp; done) | (simp [*]; done)), H', ⟨by have := HK1.out; have := HJ18.out; first | omega | exact Nat.le_refl _⟩, ⟨by (with_reducible repeat (first | apply Kd.R_alloc | apply Kd.R_drewN | apply Kd.R_drew)); exact HO_10.out⟩, ⟨by (with_reducible repeat (first | refine blk_drewN ?_ _ | refine blk_drew ?_ | refine blk_alloc ?_ _)); exact BK133.out⟩, ⟨by (with_reducible repeat (first | refine blk_drewN ?_ _ | refine blk_drew ?_ | refine blk_alloc ?_ _)); exact BK134.out⟩, ⟨by repeat (first | (with_reducible first | exact HB.out | apply below_alloc | apply pw_below_drewN | apply below_drew1 | refine below_set ?_ GE133.out | refine below_set ?_ GE134.out) | exact HB.out)⟩⟩
                      · rw [if_neg c27] at H
                        have c27b0 : (a2_2 == 0) = false := beq_eq_false_iff_ne.mpr c27
                        have c27b1 : (a2_2 != 0) = true := bne_iff_ne.mpr c27
                        have H' := Aside0.mk H
                        clear H
                        have hnb31 := NB133_134.out
                        have hnc31 := NB134_133.out
                        have hcz32_0 : wc.cell? ⟨gb133, 0, none⟩ = some (.int .u64 a0_0) := (blk_cell BK133.out 0).trans rfl
                        have hcz32_1 : wc.cell? ⟨gb133, 1, none⟩ = some (.int .i64 a0_1) := (blk_cell BK133.out 1).trans rfl
                        have hcz32_2 : wc.cell? ⟨gb133, 2, none⟩ = some (.int .i64 a0_2) := (blk_cell BK133.out 2).trans rfl
                        have hcz32_3 : wc.cell? ⟨gb133, 3, none⟩ = some (.int .i64 a0_3) := (blk_cell BK133.out 3).trans rfl
                        have hfz32_0 := blk_frozen BK133.out 0
                        have hfz32_1 := blk_frozen BK133.out 1
                        have hfz32_2 := blk_frozen BK133.out 2
                        have hfz32_3 := blk_frozen BK133.out 3
                        have hcz33_0 : wc.cell? ⟨gb134, 0, none⟩ = some (.int .u64 a2_0) := (blk_cell BK134.out 0).trans rfl
                        have hcz33_1 : wc.cell? ⟨gb134, 1, none⟩ = some (.int .u64 a2_1) := (blk_cell BK134.out 1).trans rfl
                        have hcz33_2 : wc.cell? ⟨gb134, 2, none⟩ = some (.int .i64 a2_2) := (blk_cell BK134.out 2).trans rfl
                        have hcz33_3 : wc.cell? ⟨gb134, 3, none⟩ = some (.int .u64 a2_3) := (blk_cell BK134.out 3).trans rfl
                        have hcz33_4 : wc.cell? ⟨gb134, 4, none⟩ = some (.bool a2_4) := (blk_cell BK134.out 4).trans rfl
                        have hcz33_5 : wc.cell? ⟨gb134, 5, none⟩ = some (.int .u64 a2_5) := (blk_cell BK134.out 5).trans rfl
                        have hfz33_0 := blk_frozen BK134.out 0
                        have hfz33_1 := blk_frozen BK134.out 1
                        have hfz33_2 := blk_frozen BK134.out 2
                        have hfz33_3 := blk_frozen BK134.out 3
                        have hfz33_4 := blk_frozen BK134.out 4
                        have hfz33_5 := blk_frozen BK134.out 5
                        go_wp2
                        repeat (go_quiet (fail); try go_wp2)
                        go_meet
                        case rel => exact ⟨_, (!a2_4), (by first | rfl | (simp; done) | (simp [*]; done)), H', ⟨by have := HK1.out; have := HJ18.out; first | omega | exact Nat.le_refl _⟩, ⟨by (with_reducible repeat (first | apply Kd.R_alloc | apply Kd.R_drewN | apply Kd.R_drew)); exact HO_10.out⟩, ⟨by (with_reducible repeat (first | refine blk_drewN ?_ _ | refine blk_drew ?_ | refine blk_alloc ?_ _)); exact BK133.out⟩, ⟨by (with_reducible repeat (first | refine blk_drewN ?_ _ | refine blk_drew ?_ | refine blk_alloc ?_ _)); exact BK134.out⟩, ⟨by repeat (first | (with_reducible first | exact HB.out | apply below_alloc | apply pw_below_drewN | apply below_drew1 | refine below_set ?_ GE133.out | refine below_set ?_ GE134.out) | exact HB.out)⟩⟩
                    · rw [if_neg c26] at H
                      have c26b0 : (a0_1 == 18) = false := beq_eq_false_iff_ne.mpr c26
                      have c26b1 : (a0_1 != 18) = true := bne_iff_ne.mpr c26
                      (first | rw [c26b0] | (simp only [i64_w, i32_w]; rw [c26b0]) | skip)
                      have H' := Aside0.mk H
                      clear H
                      have hnb34 := NB133_134.out
                      have hnc34 := NB134_133.out
                      have hcz35_0 : wc.cell? ⟨gb133, 0, none⟩ = some (.int .u64 a0_0) := (blk_cell BK133.out 0).trans rfl
                      have hcz35_1 : wc.cell? ⟨gb133, 1, none⟩ = some (.int .i64 a0_1) := (blk_cell BK133.out 1).trans rfl
                      have hcz35_2 : wc.cell? ⟨gb133, 2, none⟩ = some (.int .i64 a0_2) := (blk_cell BK133.out 2).trans rfl
                      have hcz35_3 : wc.cell? ⟨gb133, 3, none⟩ = some (.int .i64 a0_3) := (blk_cell BK133.out 3).trans rfl
                      have hfz35_0 := blk_frozen BK133.out 0
                      have hfz35_1 := blk_frozen BK133.out 1
                      have hfz35_2 := blk_frozen BK133.out 2
                      have hfz35_3 := blk_frozen BK133.out 3
                      go_wp2
                      repeat (go_quiet (fail); try go_wp2)
                      go_meet
                      case rel => exact ⟨_, (false), (by first | rfl | (simp; done) | (simp [*]; done)), H', ⟨by have := HK1.out; have := HJ18.out; first | omega | exact Nat.le_refl _⟩, ⟨by (with_reducible repeat (first | apply Kd.R_alloc | apply Kd.R_drewN | apply Kd.R_drew)); exact HO_10.out⟩, ⟨by (with_reducible repeat (first | refine blk_drewN ?_ _ | refine blk_drew ?_ | refine blk_alloc ?_ _)); exact BK133.out⟩, ⟨by (with_reducible repeat (first | refine blk_drewN ?_ _ | refine blk_drew ?_ | refine blk_alloc ?_ _)); exact BK134.out⟩, ⟨by repeat (first | (with_reducible first | exact HB.out | apply below_alloc | apply pw_below_drewN | apply below_drew1 | refine below_set ?_ GE133.out | refine below_set ?_ GE134.out) | exact HB.out)⟩⟩
                  case rest =>
                    clear HC25
                    try clear c1
                    try clear p1
                    try clear q1
                    try clear hx1
                    try clear c2
                    try clear p2
                    try clear c3
                    try clear c10
                    try clear p14
                    try clear q14
                    try clear hx14
                    try clear c15
                    try clear c15b0
                    try clear c16
                    try clear c16b0
                    try clear c17
                    try clear c17b0
                    try clear c17b1
                    try clear c18
                    try clear c18b0
                    try clear c21
                    try clear c24
                    try clear c24b0
                    try clear c26
                    try clear c26b0
                    try clear c26b1
                    try clear c27
                    try clear c27b0
                    try clear c27b1
                    try clear c28
                    try clear c31
                    try clear c34
                    try clear hcz11_0
                    try clear hcz11_1
                    try clear hcz11_2
                    try clear hcz11_3
                    try clear hcz12_0
                    try clear hcz12_1
                    try clear hcz12_2
                    try clear hcz12_3
                    try clear hcz12_4
                    try clear hcz12_5
                    try clear hcz22_0
                    try clear hcz22_1
                    try clear hcz22_2
                    try clear hcz22_3
                    try clear hcz29_0
                    try clear hcz29_1
                    try clear hcz29_2
                    try clear hcz29_3
                    try clear hcz30_0
                    try clear hcz30_1
                    try clear hcz30_2
                    try clear hcz30_3
                    try clear hcz30_4
                    try clear hcz30_5
                    try clear hcz32_0
                    try clear hcz32_1
                    try clear hcz32_2
                    try clear hcz32_3
                    try clear hcz33_0
                    try clear hcz33_1
                    try clear hcz33_2
                    try clear hcz33_3
                    try clear hcz33_4
                    try clear hcz33_5
                    try clear hcz35_0
                    try clear hcz35_1
                    try clear hcz35_2
                    try clear hcz35_3
                    try clear hfz11_0
                    try clear hfz11_1
                    try clear hfz11_2
                    try clear hfz11_3
                    try clear hfz12_0
                    try clear hfz12_1
                    try clear hfz12_2
                    try clear hfz12_3
                    try clear hfz12_4
                    try clear hfz12_5
                    try clear hfz22_0
                    try clear hfz22_1
                    try clear hfz22_2
                    try clear hfz22_3
                    try clear hfz29_0
                    try clear hfz29_1
                    try clear hfz29_2
                    try clear hfz29_3
                    try clear hfz30_0
                    try clear hfz30_1
                    try clear hfz30_2
                    try clear hfz30_3
                    try clear hfz30_4
                    try clear hfz30_5
                    try clear hfz32_0
                    try clear hfz32_1
                    try clear hfz32_2
                    try clear hfz32_3
                    try clear hfz33_0
                    try clear hfz33_1
                    try clear hfz33_2
                    try clear hfz33_3
                    try clear hfz33_4
                    try clear hfz33_5
                    try clear hfz35_0
                    try clear hfz35_1
                    try clear hfz35_2
                    try clear hfz35_3
                    try clear hx144_0
                    try clear hx145_0
                    try clear p1
                    try clear p14
                    try clear p144
                    try clear p145
                    try clear p2
                    try clear q1
                    try clear q14
                    try clear q144
                    try clear q145
                    obtain ⟨kq, x106_24, rfl, HA, HJ24, HO_10, BK133, BK134, HB⟩ := hcut
                    cases kq with
                    | zero => exact absurd HA.out (by simp [shackleref19_Value.j2])
                    | succ kj24 =>
                      have H := HA.out
                      clear HA
                      simp only [shackleref19_Value.j2] at H
                      by_cases c36 : x106_24 = true
                      · subst c36
                        have H1 : (some (0, 0, 21)) = some (r1, r2, r3) := by rw [if_pos rfl] at H; exact H
                        clear H
                        have H := H1
                        clear H1
                        simp only [Option.some.injEq, Prod.mk.injEq] at H
                        obtain ⟨rfl, rfl, rfl⟩ := H
                        go_wp2
                        repeat (go_quiet (fail); try go_wp2)
                        go_ret3
                        exact ⟨by first | rfl | (simp [errW_none, errW_some] <;> rfl) | (simp [*, errW_none, errW_some] <;> rfl), by repeat (first | (with_reducible first | exact HB.out | apply below_alloc | apply pw_below_drewN | apply below_drew1 | refine below_set ?_ GE133.out | refine below_set ?_ GE134.out) | exact HB.out)⟩
                      · replace c36 := Bool.eq_false_iff.mpr c36
                        subst c36
                        have H1 : (if a0_1 = 2 then (shackleref19_Value.j3 kj24 y138 x14_1 (rd y141 x14_1) (!x16_18) a0_0 a0_1 a0_2 a0_3) else (if a0_1 = 11 then (shackleref19_Value.j3 kj24 y138 x14_1 (rd y141 x14_1) (!x16_18) a0_0 a0_1 a0_2 a0_3) else (shackleref19_Value.j3 kj24 y138 x14_1 (rd y141 x14_1) false a0_0 a0_1 a0_2 a0_3))) = some (r1, r2, r3) := by rw [if_neg (show ¬ (false = true) by decide)] at H; exact H
                        clear H
                        have H := H1
                        clear H1
                        have HC37 := Aside0.mk H
                        clear H
                        go_upto_region 14 with (fail)
                        repeat (go_quiet (fail); go_upto_region 14 with (fail))
                        go_cut [120] (fun v120 wc => ∃ (kq : Nat) (x120_36 : Bool), v120 = .bool x120_36 ∧ Aside0 (shackleref19_Value.j3 kq y138 x14_1 (rd y141 x14_1) x120_36 a0_0 a0_1 a0_2 a0_3 = some (r1, r2, r3)) ∧ Aside0 (kq ≤ kj24) ∧ Aside0 (Kd.R (Kd.int .i64) 3 wc w.heap.size (fun _ => True) v139 y138) ∧ Aside0 (wc.heap[gb133]? = some (.cells #[.int .u64 a0_0, .int .i64 a0_1, .int .i64 a0_2, .int .i64 a0_3] 24 (0, 0))) ∧ Aside0 (wc.heap[gb134]? = some (.cells #[.int .u64 a2_0, .int .u64 a2_1, .int .i64 a2_2, .int .u64 a2_3, .bool a2_4, .int .u64 a2_5] 26 (0, 0))) ∧ Aside0 (Below w.heap.size w wc))
                        case first =>
                          have H := HC37.out
                          clear HC37
                          by_cases c38 : a0_1 = 2
                          · rw [if_pos c38] at H
                            have c38b0 : (a0_1 == 2) = true := beq_iff_eq.mpr c38
                            have c38b1 : (a0_1 != 2) = false := bne_eq_false_iff_eq.mpr c38
                            clear c38
                            (first | rw [c38b0] | (simp only [i64_w, i32_w]; rw [c38b0]) | skip)
                            have H' := Aside0.mk H
                            clear H
                            have hnb39 := NB133_134.out
                            have hnc39 := NB134_133.out
                            have hcz40_0 : wc.cell? ⟨gb133, 0, none⟩ = some (.int .u64 a0_0) := (blk_cell BK133.out 0).trans rfl
                            have hcz40_1 : wc.cell? ⟨gb133, 1, none⟩ = some (.int .i64 a0_1) := (blk_cell BK133.out 1).trans rfl
                            have hcz40_2 : wc.cell? ⟨gb133, 2, none⟩ = some (.int .i64 a0_2) := (blk_cell BK133.out 2).trans rfl
                            have hcz40_3 : wc.cell? ⟨gb133, 3, none⟩ = some (.int .i64 a0_3) := (blk_cell BK133.out 3).trans rfl
                            have hfz40_0 := blk_frozen BK133.out 0
                            have hfz40_1 := blk_frozen BK133.out 1
                            have hfz40_2 := blk_frozen BK133.out 2
                            have hfz40_3 := blk_frozen BK133.out 3
                            go_wp2
                            repeat (go_quiet (fail); try go_wp2)
                            go_meet
                            case rel => exact ⟨_, (!x16_18), (by first | rfl | (simp; done) | (simp [*]; done)), H', ⟨by have := HK1.out; have := HJ18.out; have := HJ24.out; first | omega | exact Nat.le_refl _⟩, ⟨by (with_reducible repeat (first | apply Kd.R_alloc | apply Kd.R_drewN | apply Kd.R_drew)); exact HO_10.out⟩, ⟨by (with_reducible repeat (first | refine blk_drewN ?_ _ | refine blk_drew ?_ | refine blk_alloc ?_ _)); exact BK133.out⟩, ⟨by (with_reducible repeat (first | refine blk_drewN ?_ _ | refine blk_drew ?_ | refine blk_alloc ?_ _)); exact BK134.out⟩, ⟨by repeat (first | (with_reducible first | exact HB.out | apply below_alloc | apply pw_below_drewN | apply below_drew1 | refine below_set ?_ GE133.out | refine below_set ?_ GE134.out) | exact HB.out)⟩⟩
                          · rw [if_neg c38] at H
                            have c38b0 : (a0_1 == 2) = false := beq_eq_false_iff_ne.mpr c38
                            have c38b1 : (a0_1 != 2) = true := bne_iff_ne.mpr c38
                            (first | rw [c38b0] | (simp only [i64_w, i32_w]; rw [c38b0]) | skip)
                            by_cases c41 : a0_1 = 11
                            · rw [if_pos c41] at H
                              have c41b0 : (a0_1 == 11) = true := beq_iff_eq.mpr c41
                              have c41b1 : (a0_1 != 11) = false := bne_eq_false_iff_eq.mpr c41
                              clear c41
                              have H' := Aside0.mk H
                              clear H
                              have hnb42 := NB133_134.out
                              have hnc42 := NB134_133.out
                              have hcz43_0 : wc.cell? ⟨gb133, 0, none⟩ = some (.int .u64 a0_0) := (blk_cell BK133.out 0).trans rfl
                              have hcz43_1 : wc.cell? ⟨gb133, 1, none⟩ = some (.int .i64 a0_1) := (blk_cell BK133.out 1).trans rfl
                              have hcz43_2 : wc.cell? ⟨gb133, 2, none⟩ = some (.int .i64 a0_2) := (blk_cell BK133.out 2).trans rfl
                              have hcz43_3 : wc.cell? ⟨gb133, 3, none⟩ = some (.int .i64 a0_3) := (blk_cell BK133.out 3).trans rfl
                              have hfz43_0 := blk_frozen BK133.out 0
                              have hfz43_1 := blk_frozen BK133.out 1
                              have hfz43_2 := blk_frozen BK133.out 2
                              have hfz43_3 := blk_frozen BK133.out 3
                              go_wp2
                              repeat (go_quiet (fail); try go_wp2)
                              go_meet
                              case rel => exact ⟨_, (!x16_18), (by first | rfl | (simp; done) | (simp [*]; done)), H', ⟨by have := HK1.out; have := HJ18.out; have := HJ24.out; first | omega | exact Nat.le_refl _⟩, ⟨by (with_reducible repeat (first | apply Kd.R_alloc | apply Kd.R_drewN | apply Kd.R_drew)); exact HO_10.out⟩, ⟨by (with_reducible repeat (first | refine blk_drewN ?_ _ | refine blk_drew ?_ | refine blk_alloc ?_ _)); exact BK133.out⟩, ⟨by (with_reducible repeat (first | refine blk_drewN ?_ _ | refine blk_drew ?_ | refine blk_alloc ?_ _)); exact BK134.out⟩, ⟨by repeat (first | (with_reducible first | exact HB.out | apply below_alloc | apply pw_below_drewN | apply below_drew1 | refine below_set ?_ GE133.out | refine below_set ?_ GE134.out) | exact HB.out)⟩⟩
                            · rw [if_neg c41] at H
                              have c41b0 : (a0_1 == 11) = false := beq_eq_false_iff_ne.mpr c41
                              have c41b1 : (a0_1 != 11) = true := bne_iff_ne.mpr c41
                              have H' := Aside0.mk H
                              clear H
                              have hnb44 := NB133_134.out
                              have hnc44 := NB134_133.out
                              have hcz45_0 : wc.cell? ⟨gb133, 0, none⟩ = some (.int .u64 a0_0) := (blk_cell BK133.out 0).trans rfl
                              have hcz45_1 : wc.cell? ⟨gb133, 1, none⟩ = some (.int .i64 a0_1) := (blk_cell BK133.out 1).trans rfl
                              have hcz45_2 : wc.cell? ⟨gb133, 2, none⟩ = some (.int .i64 a0_2) := (blk_cell BK133.out 2).trans rfl
                              have hcz45_3 : wc.cell? ⟨gb133, 3, none⟩ = some (.int .i64 a0_3) := (blk_cell BK133.out 3).trans rfl
                              have hfz45_0 := blk_frozen BK133.out 0
                              have hfz45_1 := blk_frozen BK133.out 1
                              have hfz45_2 := blk_frozen BK133.out 2
                              have hfz45_3 := blk_frozen BK133.out 3
                              go_wp2
                              repeat (go_quiet (fail); try go_wp2)
                              go_meet
                              case rel => exact ⟨_, (false), (by first | rfl | (simp; done) | (simp [*]; done)), H', ⟨by have := HK1.out; have := HJ18.out; have := HJ24.out; first | omega | exact Nat.le_refl _⟩, ⟨by (with_reducible repeat (first | apply Kd.R_alloc | apply Kd.R_drewN | apply Kd.R_drew)); exact HO_10.out⟩, ⟨by (with_reducible repeat (first | refine blk_drewN ?_ _ | refine blk_drew ?_ | refine blk_alloc ?_ _)); exact BK133.out⟩, ⟨by (with_reducible repeat (first | refine blk_drewN ?_ _ | refine blk_drew ?_ | refine blk_alloc ?_ _)); exact BK134.out⟩, ⟨by repeat (first | (with_reducible first | exact HB.out | apply below_alloc | apply pw_below_drewN | apply below_drew1 | refine below_set ?_ GE133.out | refine below_set ?_ GE134.out) | exact HB.out)⟩⟩
                        case rest =>
                          clear HC37
                          try clear c1
                          try clear p1
                          try clear q1
                          try clear hx1
                          try clear c2
                          try clear p2
                          try clear c3
                          try clear c4
                          try clear c10
                          try clear p14
                          try clear q14
                          try clear hx14
                          try clear c15
                          try clear c15b0
                          try clear c16
                          try clear c16b0
                          try clear c17
                          try clear c17b0
                          try clear c17b1
                          try clear c18
                          try clear c18b0
                          try clear c21
                          try clear c24
                          try clear c24b0
                          try clear c26
                          try clear c26b0
                          try clear c26b1
                          try clear c27
                          try clear c27b0
                          try clear c27b1
                          try clear c28
                          try clear c31
                          try clear c34
                          try clear c36
                          try clear c38
                          try clear c38b0
                          try clear c38b1
                          try clear c39
                          try clear c41
                          try clear c41b0
                          try clear c41b1
                          try clear c42
                          try clear c44
                          try clear hcz11_0
                          try clear hcz11_1
                          try clear hcz11_2
                          try clear hcz11_3
                          try clear hcz12_0
                          try clear hcz12_1
                          try clear hcz12_2
                          try clear hcz12_3
                          try clear hcz12_4
                          try clear hcz12_5
                          try clear hcz22_0
                          try clear hcz22_1
                          try clear hcz22_2
                          try clear hcz22_3
                          try clear hcz29_0
                          try clear hcz29_1
                          try clear hcz29_2
                          try clear hcz29_3
                          try clear hcz30_0
                          try clear hcz30_1
                          try clear hcz30_2
                          try clear hcz30_3
                          try clear hcz30_4
                          try clear hcz30_5
                          try clear hcz32_0
                          try clear hcz32_1
                          try clear hcz32_2
                          try clear hcz32_3
                          try clear hcz33_0
                          try clear hcz33_1
                          try clear hcz33_2
                          try clear hcz33_3
                          try clear hcz33_4
                          try clear hcz33_5
                          try clear hcz35_0
                          try clear hcz35_1
                          try clear hcz35_2
                          try clear hcz35_3
                          try clear hcz40_0
                          try clear hcz40_1
                          try clear hcz40_2
                          try clear hcz40_3
                          try clear hcz43_0
                          try clear hcz43_1
                          try clear hcz43_2
                          try clear hcz43_3
                          try clear hcz45_0
                          try clear hcz45_1
                          try clear hcz45_2
                          try clear hcz45_3
                          try clear hfz11_0
                          try clear hfz11_1
                          try clear hfz11_2
                          try clear hfz11_3
                          try clear hfz12_0
                          try clear hfz12_1
                          try clear hfz12_2
                          try clear hfz12_3
                          try clear hfz12_4
                          try clear hfz12_5
                          try clear hfz22_0
                          try clear hfz22_1
                          try clear hfz22_2
                          try clear hfz22_3
                          try clear hfz29_0
                          try clear hfz29_1
                          try clear hfz29_2
                          try clear hfz29_3
                          try clear hfz30_0
                          try clear hfz30_1
                          try clear hfz30_2
                          try clear hfz30_3
                          try clear hfz30_4
                          try clear hfz30_5
                          try clear hfz32_0
                          try clear hfz32_1
                          try clear hfz32_2
                          try clear hfz32_3
                          try clear hfz33_0
                          try clear hfz33_1
                          try clear hfz33_2
                          try clear hfz33_3
                          try clear hfz33_4
                          try clear hfz33_5
                          try clear hfz35_0
                          try clear hfz35_1
                          try clear hfz35_2
                          try clear hfz35_3
                          try clear hfz40_0
                          try clear hfz40_1
                          try clear hfz40_2
                          try clear hfz40_3
                          try clear hfz43_0
                          try clear hfz43_1
                          try clear hfz43_2
                          try clear hfz43_3
                          try clear hfz45_0
                          try clear hfz45_1
                          try clear hfz45_2
                          try clear hfz45_3
                          try clear hx144_0
                          try clear hx145_0
                          try clear p1
                          try clear p14
                          try clear p144
                          try clear p145
                          try clear p2
                          try clear q1
                          try clear q14
                          try clear q144
                          try clear q145
                          obtain ⟨kq, x120_36, rfl, HA, HJ36, HO_10, BK133, BK134, HB⟩ := hcut
                          cases kq with
                          | zero => exact absurd HA.out (by simp [shackleref19_Value.j3])
                          | succ kj36 =>
                            have H := HA.out
                            clear HA
                            simp only [shackleref19_Value.j3] at H
                            by_cases c46 : x120_36 = true
                            · subst c46
                              have H1 : (some (0, 0, 20)) = some (r1, r2, r3) := by rw [if_pos rfl] at H; exact H
                              clear H
                              have H := H1
                              clear H1
                              simp only [Option.some.injEq, Prod.mk.injEq] at H
                              obtain ⟨rfl, rfl, rfl⟩ := H
                              go_wp2
                              repeat (go_quiet (fail); try go_wp2)
                              go_ret3
                              exact ⟨by first | rfl | (simp [errW_none, errW_some] <;> rfl) | (simp [*, errW_none, errW_some] <;> rfl), by repeat (first | (with_reducible first | exact HB.out | apply below_alloc | apply pw_below_drewN | apply below_drew1 | refine below_set ?_ GE133.out | refine below_set ?_ GE134.out) | exact HB.out)⟩
                            · replace c46 := Bool.eq_false_iff.mpr c46
                              subst c46
                              have H1 : (if a0_1 = 10 then (shackleref19_Value.j4 kj36 y138 x14_1 (rd y141 x14_1) (decide ((rd y141 x14_1) ≥ 4294967296))) else (if a0_1 = 32 then (shackleref19_Value.j4 kj36 y138 x14_1 (rd y141 x14_1) (decide ((rd y141 x14_1) ≥ 4294967296))) else (shackleref19_Value.j4 kj36 y138 x14_1 (rd y141 x14_1) false))) = some (r1, r2, r3) := by rw [if_neg (show ¬ (false = true) by decide)] at H; exact H
                              clear H
                              have H := H1
                              clear H1
                              have HC47 := Aside0.mk H
                              clear H
                              go_upto_region 16 with (fail)
                              repeat (go_quiet (fail); go_upto_region 16 with (fail))
                              go_cut [133] (fun v133 wc => ∃ (kq : Nat) (x133_46 : Bool), v133 = .bool x133_46 ∧ Aside0 (shackleref19_Value.j4 kq y138 x14_1 (rd y141 x14_1) x133_46 = some (r1, r2, r3)) ∧ Aside0 (kq ≤ kj36) ∧ Aside0 (Kd.R (Kd.int .i64) 3 wc w.heap.size (fun _ => True) v139 y138) ∧ Aside0 (wc.heap[gb133]? = some (.cells #[.int .u64 a0_0, .int .i64 a0_1, .int .i64 a0_2, .int .i64 a0_3] 24 (0, 0))) ∧ Aside0 (wc.heap[gb134]? = some (.cells #[.int .u64 a2_0, .int .u64 a2_1, .int .i64 a2_2, .int .u64 a2_3, .bool a2_4, .int .u64 a2_5] 26 (0, 0))) ∧ Aside0 (Below w.heap.size w wc))
                              case first =>
                                have H := HC47.out
                                clear HC47
                                by_cases c48 : a0_1 = 10
                                · rw [if_pos c48] at H
                                  have c48b0 : (a0_1 == 10) = true := beq_iff_eq.mpr c48
                                  have c48b1 : (a0_1 != 10) = false := bne_eq_false_iff_eq.mpr c48
                                  clear c48
                                  (first | rw [c48b0] | (simp only [i64_w, i32_w]; rw [c48b0]) | skip)
                                  have H' := Aside0.mk H
                                  clear H
                                  have hnb49 := NB133_134.out
                                  have hnc49 := NB134_133.out
                                  have hcz50_0 : wc.cell? ⟨gb133, 0, none⟩ = some (.int .u64 a0_0) := (blk_cell BK133.out 0).trans rfl
                                  have hcz50_1 : wc.cell? ⟨gb133, 1, none⟩ = some (.int .i64 a0_1) := (blk_cell BK133.out 1).trans rfl
                                  have hcz50_2 : wc.cell? ⟨gb133, 2, none⟩ = some (.int .i64 a0_2) := (blk_cell BK133.out 2).trans rfl
                                  have hcz50_3 : wc.cell? ⟨gb133, 3, none⟩ = some (.int .i64 a0_3) := (blk_cell BK133.out 3).trans rfl
                                  have hfz50_0 := blk_frozen BK133.out 0
                                  have hfz50_1 := blk_frozen BK133.out 1
                                  have hfz50_2 := blk_frozen BK133.out 2
                                  have hfz50_3 := blk_frozen BK133.out 3
                                  go_wp2
                                  repeat (go_quiet (fail); try go_wp2)
                                  go_meet
                                  case rel => exact ⟨_, (decide ((rd y141 x14_1) ≥ 4294967296)), (by first | rfl | (simp; done) | (simp [*]; done)), H', ⟨by have := HK1.out; have := HJ18.out; have := HJ24.out; have := HJ36.out; first | omega | exact Nat.le_refl _⟩, ⟨by (with_reducible repeat (first | apply Kd.R_alloc | apply Kd.R_drewN | apply Kd.R_drew)); exact HO_10.out⟩, ⟨by (with_reducible repeat (first | refine blk_drewN ?_ _ | refine blk_drew ?_ | refine blk_alloc ?_ _)); exact BK133.out⟩, ⟨by (with_reducible repeat (first | refine blk_drewN ?_ _ | refine blk_drew ?_ | refine blk_alloc ?_ _)); exact BK134.out⟩, ⟨by repeat (first | (with_reducible first | exact HB.out | apply below_alloc | apply pw_below_drewN | apply below_drew1 | refine below_set ?_ GE133.out | refine below_set ?_ GE134.out) | exact HB.out)⟩⟩
                                · rw [if_neg c48] at H
                                  have c48b0 : (a0_1 == 10) = false := beq_eq_false_iff_ne.mpr c48
                                  have c48b1 : (a0_1 != 10) = true := bne_iff_ne.mpr c48
                                  (first | rw [c48b0] | (simp only [i64_w, i32_w]; rw [c48b0]) | skip)
                                  by_cases c51 : a0_1 = 32
                                  · rw [if_pos c51] at H
                                    have c51b0 : (a0_1 == 32) = true := beq_iff_eq.mpr c51
                                    have c51b1 : (a0_1 != 32) = false := bne_eq_false_iff_eq.mpr c51
                                    clear c51
                                    have H' := Aside0.mk H
                                    clear H
                                    have hnb52 := NB133_134.out
                                    have hnc52 := NB134_133.out
                                    have hcz53_0 : wc.cell? ⟨gb133, 0, none⟩ = some (.int .u64 a0_0) := (blk_cell BK133.out 0).trans rfl
                                    have hcz53_1 : wc.cell? ⟨gb133, 1, none⟩ = some (.int .i64 a0_1) := (blk_cell BK133.out 1).trans rfl
                                    have hcz53_2 : wc.cell? ⟨gb133, 2, none⟩ = some (.int .i64 a0_2) := (blk_cell BK133.out 2).trans rfl
                                    have hcz53_3 : wc.cell? ⟨gb133, 3, none⟩ = some (.int .i64 a0_3) := (blk_cell BK133.out 3).trans rfl
                                    have hfz53_0 := blk_frozen BK133.out 0
                                    have hfz53_1 := blk_frozen BK133.out 1
                                    have hfz53_2 := blk_frozen BK133.out 2
                                    have hfz53_3 := blk_frozen BK133.out 3
                                    go_wp2
                                    repeat (go_quiet (fail); try go_wp2)
                                    go_meet
                                    case rel => exact ⟨_, (decide ((rd y141 x14_1) ≥ 4294967296)), (by first | rfl | (simp; done) | (simp [*]; done)), H', ⟨by have := HK1.out; have := HJ18.out; have := HJ24.out; have := HJ36.out; first | omega | exact Nat.le_refl _⟩, ⟨by (with_reducible repeat (first | apply Kd.R_alloc | apply Kd.R_drewN | apply Kd.R_drew)); exact HO_10.out⟩, ⟨by (with_reducible repeat (first | refine blk_drewN ?_ _ | refine blk_drew ?_ | refine blk_alloc ?_ _)); exact BK133.out⟩, ⟨by (with_reducible repeat (first | refine blk_drewN ?_ _ | refine blk_drew ?_ | refine blk_alloc ?_ _)); exact BK134.out⟩, ⟨by repeat (first | (with_reducible first | exact HB.out | apply below_alloc | apply pw_below_drewN | apply below_drew1 | refine below_set ?_ GE133.out | refine below_set ?_ GE134.out) | exact HB.out)⟩⟩
                                  · rw [if_neg c51] at H
                                    have c51b0 : (a0_1 == 32) = false := beq_eq_false_iff_ne.mpr c51
                                    have c51b1 : (a0_1 != 32) = true := bne_iff_ne.mpr c51
                                    have H' := Aside0.mk H
                                    clear H
                                    have hnb54 := NB133_134.out
                                    have hnc54 := NB134_133.out
                                    have hcz55_0 : wc.cell? ⟨gb133, 0, none⟩ = some (.int .u64 a0_0) := (blk_cell BK133.out 0).trans rfl
                                    have hcz55_1 : wc.cell? ⟨gb133, 1, none⟩ = some (.int .i64 a0_1) := (blk_cell BK133.out 1).trans rfl
                                    have hcz55_2 : wc.cell? ⟨gb133, 2, none⟩ = some (.int .i64 a0_2) := (blk_cell BK133.out 2).trans rfl
                                    have hcz55_3 : wc.cell? ⟨gb133, 3, none⟩ = some (.int .i64 a0_3) := (blk_cell BK133.out 3).trans rfl
                                    have hfz55_0 := blk_frozen BK133.out 0
                                    have hfz55_1 := blk_frozen BK133.out 1
                                    have hfz55_2 := blk_frozen BK133.out 2
                                    have hfz55_3 := blk_frozen BK133.out 3
                                    go_wp2
                                    repeat (go_quiet (fail); try go_wp2)
                                    go_meet
                                    case rel => exact ⟨_, (false), (by first | rfl | (simp; done) | (simp [*]; done)), H', ⟨by have := HK1.out; have := HJ18.out; have := HJ24.out; have := HJ36.out; first | omega | exact Nat.le_refl _⟩, ⟨by (with_reducible repeat (first | apply Kd.R_alloc | apply Kd.R_drewN | apply Kd.R_drew)); exact HO_10.out⟩, ⟨by (with_reducible repeat (first | refine blk_drewN ?_ _ | refine blk_drew ?_ | refine blk_alloc ?_ _)); exact BK133.out⟩, ⟨by (with_reducible repeat (first | refine blk_drewN ?_ _ | refine blk_drew ?_ | refine blk_alloc ?_ _)); exact BK134.out⟩, ⟨by repeat (first | (with_reducible first | exact HB.out | apply below_alloc | apply pw_below_drewN | apply below_drew1 | refine below_set ?_ GE133.out | refine below_set ?_ GE134.out) | exact HB.out)⟩⟩
                              case rest =>
                                clear HC47
                                try clear c1
                                try clear p1
                                try clear q1
                                try clear hx1
                                try clear c2
                                try clear p2
                                try clear c3
                                try clear c4
                                try clear c5
                                try clear c10
                                try clear p14
                                try clear q14
                                try clear hx14
                                try clear c15
                                try clear c15b0
                                try clear c16
                                try clear c16b0
                                try clear c17
                                try clear c17b0
                                try clear c17b1
                                try clear c18
                                try clear c18b0
                                try clear c21
                                try clear c24
                                try clear c24b0
                                try clear c26
                                try clear c26b0
                                try clear c26b1
                                try clear c27
                                try clear c27b0
                                try clear c27b1
                                try clear c28
                                try clear c31
                                try clear c34
                                try clear c36
                                try clear c38
                                try clear c38b0
                                try clear c38b1
                                try clear c39
                                try clear c41
                                try clear c41b0
                                try clear c41b1
                                try clear c42
                                try clear c44
                                try clear c46
                                try clear c48
                                try clear c48b0
                                try clear c48b1
                                try clear c49
                                try clear c51
                                try clear c51b0
                                try clear c51b1
                                try clear c52
                                try clear c54
                                try clear hcz11_0
                                try clear hcz11_1
                                try clear hcz11_2
                                try clear hcz11_3
                                try clear hcz12_0
                                try clear hcz12_1
                                try clear hcz12_2
                                try clear hcz12_3
                                try clear hcz12_4
                                try clear hcz12_5
                                try clear hcz22_0
                                try clear hcz22_1
                                try clear hcz22_2
                                try clear hcz22_3
                                try clear hcz29_0
                                try clear hcz29_1
                                try clear hcz29_2
                                try clear hcz29_3
                                try clear hcz30_0
                                try clear hcz30_1
                                try clear hcz30_2
                                try clear hcz30_3
                                try clear hcz30_4
                                try clear hcz30_5
                                try clear hcz32_0
                                try clear hcz32_1
                                try clear hcz32_2
                                try clear hcz32_3
                                try clear hcz33_0
                                try clear hcz33_1
                                try clear hcz33_2
                                try clear hcz33_3
                                try clear hcz33_4
                                try clear hcz33_5
                                try clear hcz35_0
                                try clear hcz35_1
                                try clear hcz35_2
                                try clear hcz35_3
                                try clear hcz40_0
                                try clear hcz40_1
                                try clear hcz40_2
                                try clear hcz40_3
                                try clear hcz43_0
                                try clear hcz43_1
                                try clear hcz43_2
                                try clear hcz43_3
                                try clear hcz45_0
                                try clear hcz45_1
                                try clear hcz45_2
                                try clear hcz45_3
                                try clear hcz50_0
                                try clear hcz50_1
                                try clear hcz50_2
                                try clear hcz50_3
                                try clear hcz53_0
                                try clear hcz53_1
                                try clear hcz53_2
                                try clear hcz53_3
                                try clear hcz55_0
                                try clear hcz55_1
                                try clear hcz55_2
                                try clear hcz55_3
                                try clear hfz11_0
                                try clear hfz11_1
                                try clear hfz11_2
                                try clear hfz11_3
                                try clear hfz12_0
                                try clear hfz12_1
                                try clear hfz12_2
                                try clear hfz12_3
                                try clear hfz12_4
                                try clear hfz12_5
                                try clear hfz22_0
                                try clear hfz22_1
                                try clear hfz22_2
                                try clear hfz22_3
                                try clear hfz29_0
                                try clear hfz29_1
                                try clear hfz29_2
                                try clear hfz29_3
                                try clear hfz30_0
                                try clear hfz30_1
                                try clear hfz30_2
                                try clear hfz30_3
                                try clear hfz30_4
                                try clear hfz30_5
                                try clear hfz32_0
                                try clear hfz32_1
                                try clear hfz32_2
                                try clear hfz32_3
                                try clear hfz33_0
                                try clear hfz33_1
                                try clear hfz33_2
                                try clear hfz33_3
                                try clear hfz33_4
                                try clear hfz33_5
                                try clear hfz35_0
                                try clear hfz35_1
                                try clear hfz35_2
                                try clear hfz35_3
                                try clear hfz40_0
                                try clear hfz40_1
                                try clear hfz40_2
                                try clear hfz40_3
                                try clear hfz43_0
                                try clear hfz43_1
                                try clear hfz43_2
                                try clear hfz43_3
                                try clear hfz45_0
                                try clear hfz45_1
                                try clear hfz45_2
                                try clear hfz45_3
                                try clear hfz50_0
                                try clear hfz50_1
                                try clear hfz50_2
                                try clear hfz50_3
                                try clear hfz53_0
                                try clear hfz53_1
                                try clear hfz53_2
                                try clear hfz53_3
                                try clear hfz55_0
                                try clear hfz55_1
                                try clear hfz55_2
                                try clear hfz55_3
                                try clear hx144_0
                                try clear hx145_0
                                try clear p1
                                try clear p14
                                try clear p144
                                try clear p145
                                try clear p2
                                try clear q1
                                try clear q14
                                try clear q144
                                try clear q145
                                obtain ⟨kq, x133_46, rfl, HA, HJ46, HO_10, BK133, BK134, HB⟩ := hcut
                                cases kq with
                                | zero => exact absurd HA.out (by simp [shackleref19_Value.j4])
                                | succ kj46 =>
                                  have H := HA.out
                                  clear HA
                                  simp only [shackleref19_Value.j4] at H
                                  by_cases c56 : x133_46 = true
                                  · subst c56
                                    have H1 : (some (0, 0, 20)) = some (r1, r2, r3) := by rw [if_pos rfl] at H; exact H
                                    clear H
                                    have H := H1
                                    clear H1
                                    simp only [Option.some.injEq, Prod.mk.injEq] at H
                                    obtain ⟨rfl, rfl, rfl⟩ := H
                                    go_wp2
                                    repeat (go_quiet (fail); try go_wp2)
                                    go_ret3
                                    exact ⟨by first | rfl | (simp [errW_none, errW_some] <;> rfl) | (simp [*, errW_none, errW_some] <;> rfl), by repeat (first | (with_reducible first | exact HB.out | apply below_alloc | apply pw_below_drewN | apply below_drew1 | refine below_set ?_ GE133.out | refine below_set ?_ GE134.out) | exact HB.out)⟩
                                  · replace c56 := Bool.eq_false_iff.mpr c56
                                    subst c56
                                    have H1 : (if 0 ≤ x14_1 then (if x14_1 < (y138.length : Int) then (if (rd y138 x14_1) = 4 then (some (Int.tmod (rd y141 x14_1) 4294967296, rd y138 x14_1, 0)) else (some ((rd y141 x14_1), rd y138 x14_1, 0))) else (none)) else (none)) = some (r1, r2, r3) := by rw [if_neg (show ¬ (false = true) by decide)] at H; exact H
                                    clear H
                                    have H := H1
                                    clear H1
                                    by_cases c57 : 0 ≤ x14_1
                                    · rw [if_pos c57] at H
                                      have c57b0 : decide (0 ≤ x14_1) = true := decide_eq_true c57
                                      clear c57
                                      by_cases c58 : x14_1 < (y138.length : Int)
                                      · rw [if_pos c58] at H
                                        have c58b0 : decide (x14_1 < (y138.length : Int)) = true := decide_eq_true c58
                                        clear c58
                                        by_cases c59 : (rd y138 x14_1) = 4
                                        · rw [if_pos c59] at H
                                          have c59b0 : ((rd y138 x14_1) == 4) = true := beq_iff_eq.mpr c59
                                          have c59b1 : ((rd y138 x14_1) != 4) = false := bne_eq_false_iff_eq.mpr c59
                                          clear c59
                                          simp only [Option.some.injEq, Prod.mk.injEq] at H
                                          obtain ⟨rfl, rfl, rfl⟩ := H
                                          obtain ⟨Ao60, co60, eo60⟩ := Kd.R_slice HO_10.out
                                          subst eo60
                                          have p146 : 0 ≤ (x14_1 : Int) := of_decide_eq_true (by first | (with_reducible assumption) | assumption)
                                          have q146 : x14_1 < (y138.length : Int) := of_decide_eq_true (by first | (with_reducible assumption) | assumption)
                                          obtain ⟨ad146, e146, hx146_0⟩ := Kd.at_int (Kd.R_reads' HO_10.out).2.2 x14_1 p146 q146
                                          cases e146
                                          replace p146 := eq_true p146
                                          replace q146 := eq_true q146
                                          have p147 : 0 ≤ (x14_1 : Int) := of_decide_eq_true (by first | (with_reducible assumption) | assumption)
                                          have q147 : x14_1 < (y138.length : Int) := of_decide_eq_true (by first | (with_reducible assumption) | assumption)
                                          obtain ⟨ad147, e147, hx147_0⟩ := Kd.at_int (Kd.R_reads' HO_10.out).2.2 x14_1 p147 q147
                                          obtain rfl : ad146 = ad147 := (by injection e147)
                                          replace p147 := eq_true p147
                                          replace q147 := eq_true q147
                                          go_wp2
                                          repeat (go_quiet (fail); try go_wp2)
                                          go_ret3
                                          exact ⟨by first | rfl | (simp [errW_none, errW_some] <;> rfl) | (simp [*, errW_none, errW_some] <;> rfl), by repeat (first | (with_reducible first | exact HB.out | apply below_alloc | apply pw_below_drewN | apply below_drew1 | refine below_set ?_ GE133.out | refine below_set ?_ GE134.out) | exact HB.out)⟩
                                        · rw [if_neg c59] at H
                                          have c59b0 : ((rd y138 x14_1) == 4) = false := beq_eq_false_iff_ne.mpr c59
                                          have c59b1 : ((rd y138 x14_1) != 4) = true := bne_iff_ne.mpr c59
                                          simp only [Option.some.injEq, Prod.mk.injEq] at H
                                          obtain ⟨rfl, rfl, rfl⟩ := H
                                          obtain ⟨Ao61, co61, eo61⟩ := Kd.R_slice HO_10.out
                                          subst eo61
                                          have p146 : 0 ≤ (x14_1 : Int) := of_decide_eq_true (by first | (with_reducible assumption) | assumption)
                                          have q146 : x14_1 < (y138.length : Int) := of_decide_eq_true (by first | (with_reducible assumption) | assumption)
                                          obtain ⟨ad146, e146, hx146_0⟩ := Kd.at_int (Kd.R_reads' HO_10.out).2.2 x14_1 p146 q146
                                          cases e146
                                          replace p146 := eq_true p146
                                          replace q146 := eq_true q146
                                          have p148 : 0 ≤ (x14_1 : Int) := of_decide_eq_true (by first | (with_reducible assumption) | assumption)
                                          have q148 : x14_1 < (y138.length : Int) := of_decide_eq_true (by first | (with_reducible assumption) | assumption)
                                          obtain ⟨ad148, e148, hx148_0⟩ := Kd.at_int (Kd.R_reads' HO_10.out).2.2 x14_1 p148 q148
                                          obtain rfl : ad146 = ad148 := (by injection e148)
                                          replace p148 := eq_true p148
                                          replace q148 := eq_true q148
                                          go_wp2
                                          repeat (go_quiet (fail); try go_wp2)
                                          go_ret3
                                          exact ⟨by first | rfl | (simp [errW_none, errW_some] <;> rfl) | (simp [*, errW_none, errW_some] <;> rfl), by repeat (first | (with_reducible first | exact HB.out | apply below_alloc | apply pw_below_drewN | apply below_drew1 | refine below_set ?_ GE133.out | refine below_set ?_ GE134.out) | exact HB.out)⟩
                                      · rw [if_neg c58] at H
                                        exact absurd H (by simp)
                                    · rw [if_neg c57] at H
                                      exact absurd H (by simp)
            · rw [if_neg c18] at H
              exact absurd H (by simp)
          · rw [if_neg c17] at H
            have c17b0 : ((rd y135 x14_1) == a0_1) = false := beq_eq_false_iff_ne.mpr c17
            have c17b1 : ((rd y135 x14_1) != a0_1) = true := bne_iff_ne.mpr c17
            have H' := Aside0.mk H
            clear H
            obtain ⟨Ao62, co62, eo62⟩ := Kd.R_slice HO_9.out
            subst eo62
            have p144 : 0 ≤ (x14_1 : Int) := of_decide_eq_true (by first | (with_reducible assumption) | assumption)
            have q144 : x14_1 < (y135.length : Int) := of_decide_eq_true (by first | (with_reducible assumption) | assumption)
            obtain ⟨ad144, e144, hx144_0⟩ := Kd.at_int (Kd.R_reads' HO_9.out).2.2 x14_1 p144 q144
            cases e144
            replace p144 := eq_true p144
            replace q144 := eq_true q144
            have hnb63 := NB133_134.out
            have hnc63 := NB134_133.out
            have hcz64_0 : wr.cell? ⟨gb133, 0, none⟩ = some (.int .u64 a0_0) := (blk_cell BK133.out 0).trans rfl
            have hcz64_1 : wr.cell? ⟨gb133, 1, none⟩ = some (.int .i64 a0_1) := (blk_cell BK133.out 1).trans rfl
            have hcz64_2 : wr.cell? ⟨gb133, 2, none⟩ = some (.int .i64 a0_2) := (blk_cell BK133.out 2).trans rfl
            have hcz64_3 : wr.cell? ⟨gb133, 3, none⟩ = some (.int .i64 a0_3) := (blk_cell BK133.out 3).trans rfl
            have hfz64_0 := blk_frozen BK133.out 0
            have hfz64_1 := blk_frozen BK133.out 1
            have hfz64_2 := blk_frozen BK133.out 2
            have hfz64_3 := blk_frozen BK133.out 3
            go_wp2
            repeat (go_quiet (fail); try go_wp2)
            go_roundg k1
            case measure => have := HK1.out; omega
            case rel => exact ⟨(wrap64 (x14_1 + 1)), (by first | rfl | (simp; done) | (simp [*]; done)), H', ⟨by have := HK1.out; omega⟩, ⟨by (with_reducible repeat (first | apply Kd.R_alloc | apply Kd.R_drewN | apply Kd.R_drew)); exact HO_9.out⟩, ⟨by (with_reducible repeat (first | apply Kd.R_alloc | apply Kd.R_drewN | apply Kd.R_drew)); exact HO_10.out⟩, ⟨by (with_reducible repeat (first | apply Kd.R_alloc | apply Kd.R_drewN | apply Kd.R_drew)); exact HO_13.out⟩, ⟨by (with_reducible repeat (first | refine blk_drewN ?_ _ | refine blk_drew ?_ | refine blk_alloc ?_ _)); exact BK133.out⟩, ⟨by (with_reducible repeat (first | refine blk_drewN ?_ _ | refine blk_drew ?_ | refine blk_alloc ?_ _)); exact BK134.out⟩, ⟨by repeat (first | (with_reducible first | exact HB.out | apply below_alloc | apply pw_below_drewN | apply below_drew1 | refine below_set ?_ GE133.out | refine below_set ?_ GE134.out) | exact HB.out)⟩⟩
        · rw [if_neg c16] at H
          exact absurd H (by simp)
      · rw [if_neg c15] at H
        have c15b0 : decide (x14_1 < (y135.length : Int)) = false := decide_eq_false c15
        clear c15
        simp only [Option.some.injEq, Prod.mk.injEq] at H
        obtain ⟨rfl, rfl, rfl⟩ := H
        obtain ⟨Ao65, co65, eo65⟩ := Kd.R_slice HO_9.out
        subst eo65
        go_wp2
        repeat (go_quiet (fail); try go_wp2)
        go_ret3
        exact ⟨by first | rfl | (simp [errW_none, errW_some] <;> rfl) | (simp [*, errW_none, errW_some] <;> rfl), by repeat (first | (with_reducible first | exact HB.out | apply below_alloc | apply pw_below_drewN | apply below_drew1 | refine below_set ?_ GE133.out | refine below_set ?_ GE134.out) | exact HB.out)⟩

end Go.Proofs.Ythhlnhbmjkjmlaa.PRelocValues
