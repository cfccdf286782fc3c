/- Printed by this session's own program (wip/tools: a turn of the kit's print) out of the translation: each Go function that the law reaches as a Lean function, and that the machine's call comes to what that function tells; no condition but what each theorem names. -/
import Derived.Test.YtjohdgejjnbddaaDoorPHeadReadsx0
import Derived.Test.YtjohdgejjnbddaaDoorPHeadReadsx7
import Derived.Test.YtjohdgejjnbddaaDoorPHeadReadsx8
import Derived.Test.YtjohdgejjnbddaaDoorPHeadReadsx10
namespace Go.Proofs.YtjohdgejjnbddaaDoor.PHeadReads
open Go.RowKit Go.Proofs.YtjohdgejjnbddaaDoorW.PrintWords Go.Proofs.YtjohdgejjnbddaaDoorW.PrintLast Go.Proofs.YtjohdgejjnbddaaDoorW.PrintMore Go.Proofs.YtjohdgejjnbddaaDoorX
attribute [local go_sem] max2_int min2_int max_two min_two max_three min_three max_four min_four   -- for this text's walks alone
set_option linter.unusedVariables false
set_option linter.unusedSimpArgs false

/-! ### shackleref04_prog: function 32 -/
mutual
def shackleref04_prog.l0 : Nat → List Int → Int → List (S50) → Bool → Int → Int → Int → Int → Int → Int → Int → Int → Int → Option (Int × Bool × Int)
 | 0, _, _, _, _, _, _, _, _, _, _, _, _, _ => none
 | k + 1, x0, x2, x3, x9, x10, x11, x190000, x190001, x190002, x190003, x190004, x190005, x190006 => if x11 < (x3.length : Int) then (if x9 = true then (if 0 ≤ x11 then (shackleref04_prog.j1 k x0 x2 x3 x9 x10 x11 (((rd_T50 x3 x11).f0) == x190000) x190000 x190001 x190002 x190003 x190004 x190005 x190006) else (none)) else (shackleref04_prog.j1 k x0 x2 x3 x9 x10 x11 false x190000 x190001 x190002 x190003 x190004 x190005 x190006)) else ((shackleref04_among.f k x190000 (([1, 2, 3, 4, 7] : List Int))).bind fun t205 => ((shackleref01_In.f (IntKind.u64.wrap ((x0.length : Int))) x190002 x190004).bind fun t206 => (if t205 = true then (shackleref04_prog.j2 k x2 x10 (!t206) x190000 x190001 x190002 x190003 x190004 x190005 x190006) else (shackleref04_prog.j2 k x2 x10 false x190000 x190001 x190002 x190003 x190004 x190005 x190006))))
def shackleref04_prog.j1 : Nat → List Int → Int → List (S50) → Bool → Int → Int → Bool → Int → Int → Int → Int → Int → Int → Int → Option (Int × Bool × Int)
 | 0, _, _, _, _, _, _, _, _, _, _, _, _, _, _ => none
 | k + 1, x0, x2, x3, x9, x10, x11, x37, x190000, x190001, x190002, x190003, x190004, x190005, x190006 => if x37 = true then ((shackleref04_at.f 5 x2).bind fun bt196 => (some (bt196.1, bt196.2.1, bt196.2.2))) else (if 0 ≤ x11 then (if x11 < (x3.length : Int) then (if ((rd_T50 x3 x11).f0) = 1 then (shackleref04_prog.l0 k x0 x2 x3 x9 (IntKind.u64.wrap ((IntKind.u64.wrap (Int.tdiv (IntKind.u64.wrap ((IntKind.u64.wrap (((rd_T50 x3 x11).f3) + ((rd_T50 x3 x11).f5))) + 4095)) 4096)) * 4096)) (wrap64 (x11 + 1)) x190000 x190001 x190002 x190003 x190004 x190005 x190006) else (shackleref04_prog.l0 k x0 x2 x3 x9 x10 (wrap64 (x11 + 1)) x190000 x190001 x190002 x190003 x190004 x190005 x190006)) else (none)) else (none))
def shackleref04_prog.j2 : Nat → Int → Int → Bool → Int → Int → Int → Int → Int → Int → Int → Option (Int × Bool × Int)
 | 0, _, _, _, _, _, _, _, _, _, _ => none
 | k + 1, x2, x10, x76, x190000, x190001, x190002, x190003, x190004, x190005, x190006 => if x76 = true then ((shackleref04_at.f 4 (IntKind.u64.wrap (x2 + 8))).bind fun bt207 => (some (bt207.1, bt207.2.1, bt207.2.2))) else ((shackleref04_among.f k x190000 (([1, 2, 7, 1685382482] : List Int))).bind fun t213 => ((shackleref01_In.f 140737488355328 x190003 x190005).bind fun t214 => (if t213 = true then (shackleref04_prog.j3 k x2 x10 (!t214) x190000 x190001 x190002 x190003 x190004 x190005 x190006) else (shackleref04_prog.j3 k x2 x10 false x190000 x190001 x190002 x190003 x190004 x190005 x190006))))
def shackleref04_prog.j3 : Nat → Int → Int → Bool → Int → Int → Int → Int → Int → Int → Int → Option (Int × Bool × Int)
 | 0, _, _, _, _, _, _, _, _, _, _ => none
 | k + 1, x2, x10, x93, x190000, x190001, x190002, x190003, x190004, x190005, x190006 => if x93 = true then ((shackleref04_at.f 4 (IntKind.u64.wrap (x2 + 16))).bind fun bt215 => (some (bt215.1, bt215.2.1, bt215.2.2))) else (if x190000 = 1 then (shackleref04_prog.j4 k x2 x10 false x190000 x190001 x190002 x190003 x190004 x190005 x190006) else (shackleref04_prog.j4 k x2 x10 (x190000 != 7) x190000 x190001 x190002 x190003 x190004 x190005 x190006))
def shackleref04_prog.j4 : Nat → Int → Int → Bool → Int → Int → Int → Int → Int → Int → Int → Option (Int × Bool × Int)
 | 0, _, _, _, _, _, _, _, _, _, _ => none
 | k + 1, x2, x10, x104, x190000, x190001, x190002, x190003, x190004, x190005, x190006 => if x104 = true then (some (0, false, 0)) else ((shackleref04_power.f k x190006).bind fun t218 => (if x190004 > x190005 then ((shackleref04_at.f 3 (IntKind.u64.wrap (x2 + 32))).bind fun bt219 => (some (bt219.1, bt219.2.1, bt219.2.2))) else (if t218 = true then (shackleref04_prog.j5 k x2 x10 false x190000 x190001 x190002 x190003 x190004 x190005 x190006) else (if x190000 = 7 then (shackleref04_prog.j5 k x2 x10 (x190006 != 0) x190000 x190001 x190002 x190003 x190004 x190005 x190006) else (shackleref04_prog.j5 k x2 x10 true x190000 x190001 x190002 x190003 x190004 x190005 x190006)))))
def shackleref04_prog.j5 : Nat → Int → Int → Bool → Int → Int → Int → Int → Int → Int → Int → Option (Int × Bool × Int)
 | 0, _, _, _, _, _, _, _, _, _, _ => none
 | k + 1, x2, x10, x118, x190000, x190001, x190002, x190003, x190004, x190005, x190006 => if x118 = true then ((shackleref04_at.f 3 (IntKind.u64.wrap (x2 + 48))).bind fun bt222 => (some (bt222.1, bt222.2.1, bt222.2.2))) else (if x190000 = 7 then (some (0, false, 0)) else (if x190005 = 0 then ((shackleref04_at.f 3 (IntKind.u64.wrap (x2 + 40))).bind fun bt225 => (some (bt225.1, bt225.2.1, bt225.2.2))) else (if x190006 < 4096 then ((shackleref04_at.f 3 (IntKind.u64.wrap (x2 + 48))).bind fun bt228 => (some (bt228.1, bt228.2.1, bt228.2.2))) else (if x190006 = 0 then (none) else (if (Int.tmod x190002 x190006) = (Int.tmod x190003 x190006) then (if (IntKind.u64.wrap ((IntKind.u64.wrap (Int.tdiv x190003 4096)) * 4096)) < x10 then ((shackleref04_at.f 3 (IntKind.u64.wrap (x2 + 16))).bind fun bt231 => (some (bt231.1, bt231.2.1, bt231.2.2))) else (some (0, false, 0))) else ((shackleref04_at.f 3 (IntKind.u64.wrap (x2 + 16))).bind fun bt234 => (some (bt234.1, bt234.2.1, bt234.2.2))))))))
end
def shackleref04_prog.f (k : Nat) (l0 : List Int) (a1_0 : Int) (a1_1 : Int) (a1_2 : Int) (a1_3 : Int) (a1_4 : Int) (a1_5 : Int) (a1_6 : Int) (a2 : Int) (l3 : List (S50)) : Option (Int × Bool × Int) := (shackleref04_among.f k a1_0 (([2, 3, 7, 1685382482, 1685382481] : List Int))).bind fun t194 => (shackleref04_prog.l0 k l0 a2 l3 t194 0 0 a1_0 a1_1 a1_2 a1_3 a1_4 a1_5 a1_6)
theorem shackleref04_prog.mono_l : ∀ k, (∀ y0 y1 y2 y3 y4 y5 y6 y7 y8 y9 y10 y11 y12, LeO (shackleref04_prog.l0 k y0 y1 y2 y3 y4 y5 y6 y7 y8 y9 y10 y11 y12) (shackleref04_prog.l0 (k + 1) y0 y1 y2 y3 y4 y5 y6 y7 y8 y9 y10 y11 y12)) ∧ (∀ y0 y1 y2 y3 y4 y5 y6 y7 y8 y9 y10 y11 y12 y13, LeO (shackleref04_prog.j1 k y0 y1 y2 y3 y4 y5 y6 y7 y8 y9 y10 y11 y12 y13) (shackleref04_prog.j1 (k + 1) y0 y1 y2 y3 y4 y5 y6 y7 y8 y9 y10 y11 y12 y13)) ∧ (∀ y0 y1 y2 y3 y4 y5 y6 y7 y8 y9, LeO (shackleref04_prog.j2 k y0 y1 y2 y3 y4 y5 y6 y7 y8 y9) (shackleref04_prog.j2 (k + 1) y0 y1 y2 y3 y4 y5 y6 y7 y8 y9)) ∧ (∀ y0 y1 y2 y3 y4 y5 y6 y7 y8 y9, LeO (shackleref04_prog.j3 k y0 y1 y2 y3 y4 y5 y6 y7 y8 y9) (shackleref04_prog.j3 (k + 1) y0 y1 y2 y3 y4 y5 y6 y7 y8 y9)) ∧ (∀ y0 y1 y2 y3 y4 y5 y6 y7 y8 y9, LeO (shackleref04_prog.j4 k y0 y1 y2 y3 y4 y5 y6 y7 y8 y9) (shackleref04_prog.j4 (k + 1) y0 y1 y2 y3 y4 y5 y6 y7 y8 y9)) ∧ (∀ y0 y1 y2 y3 y4 y5 y6 y7 y8 y9, LeO (shackleref04_prog.j5 k y0 y1 y2 y3 y4 y5 y6 y7 y8 y9) (shackleref04_prog.j5 (k + 1) y0 y1 y2 y3 y4 y5 y6 y7 y8 y9))
 | 0 => ⟨fun _ _ _ _ _ _ _ _ _ _ _ _ _ r h => by simp [shackleref04_prog.l0] at h, fun _ _ _ _ _ _ _ _ _ _ _ _ _ _ r h => by simp [shackleref04_prog.j1] at h, fun _ _ _ _ _ _ _ _ _ _ r h => by simp [shackleref04_prog.j2] at h, fun _ _ _ _ _ _ _ _ _ _ r h => by simp [shackleref04_prog.j3] at h, fun _ _ _ _ _ _ _ _ _ _ r h => by simp [shackleref04_prog.j4] at h, fun _ _ _ _ _ _ _ _ _ _ r h => by simp [shackleref04_prog.j5] at h⟩
 | k + 1 => by
  obtain ⟨ih0, ih1, ih2, ih3, ih4, ih5⟩ := shackleref04_prog.mono_l k; refine ⟨?_, ?_, ?_, ?_, ?_, ?_⟩
  ·intro y0 y1 y2 y3 y4 y5 y6 y7 y8 y9 y10 y11 y12
   unfold shackleref04_prog.l0
   repeat' first
   | (with_reducible exact ih0 _ _ _ _ _ _ _ _ _ _ _ _ _)
   | (with_reducible exact ih1 _ _ _ _ _ _ _ _ _ _ _ _ _ _)
   | (with_reducible exact ih2 _ _ _ _ _ _ _ _ _ _)
   | (with_reducible exact ih3 _ _ _ _ _ _ _ _ _ _)
   | (with_reducible exact ih4 _ _ _ _ _ _ _ _ _ _)
   | (with_reducible exact ih5 _ _ _ _ _ _ _ _ _ _)
   | (with_reducible exact shackleref04_among.mono _ _ _)
   | (with_reducible exact shackleref04_power.mono _ _)
   | (with_reducible exact LeO.refl _)
   | (with_reducible exact LeO.none _)
   | (with_reducible refine LeO.ite ?_ ?_)
   | (with_reducible refine LeO.bind ?_ (fun _ => ?_))
   | exact ih0 _ _ _ _ _ _ _ _ _ _ _ _ _
   | exact ih1 _ _ _ _ _ _ _ _ _ _ _ _ _ _
   | exact ih2 _ _ _ _ _ _ _ _ _ _
   | exact ih3 _ _ _ _ _ _ _ _ _ _
   | exact ih4 _ _ _ _ _ _ _ _ _ _
   | exact ih5 _ _ _ _ _ _ _ _ _ _
   | exact shackleref04_among.mono _ _ _
   | exact shackleref04_power.mono _ _
   | exact LeO.none _
   | refine LeO.ite ?_ ?_
   | refine LeO.bind ?_ (fun _ => ?_)
  ·intro y0 y1 y2 y3 y4 y5 y6 y7 y8 y9 y10 y11 y12 y13
   unfold shackleref04_prog.j1
   repeat' first
   | (with_reducible exact ih0 _ _ _ _ _ _ _ _ _ _ _ _ _)
   | (with_reducible exact ih1 _ _ _ _ _ _ _ _ _ _ _ _ _ _)
   | (with_reducible exact ih2 _ _ _ _ _ _ _ _ _ _)
   | (with_reducible exact ih3 _ _ _ _ _ _ _ _ _ _)
   | (with_reducible exact ih4 _ _ _ _ _ _ _ _ _ _)
   | (with_reducible exact ih5 _ _ _ _ _ _ _ _ _ _)
   | (with_reducible exact shackleref04_among.mono _ _ _)
   | (with_reducible exact shackleref04_power.mono _ _)
   | (with_reducible exact LeO.refl _)
   | (with_reducible exact LeO.none _)
   | (with_reducible refine LeO.ite ?_ ?_)
   | (with_reducible refine LeO.bind ?_ (fun _ => ?_))
   | exact ih0 _ _ _ _ _ _ _ _ _ _ _ _ _
   | exact ih1 _ _ _ _ _ _ _ _ _ _ _ _ _ _
   | exact ih2 _ _ _ _ _ _ _ _ _ _
   | exact ih3 _ _ _ _ _ _ _ _ _ _
   | exact ih4 _ _ _ _ _ _ _ _ _ _
   | exact ih5 _ _ _ _ _ _ _ _ _ _
   | exact shackleref04_among.mono _ _ _
   | exact shackleref04_power.mono _ _
   | exact LeO.none _
   | refine LeO.ite ?_ ?_
   | refine LeO.bind ?_ (fun _ => ?_)
  ·intro y0 y1 y2 y3 y4 y5 y6 y7 y8 y9
   unfold shackleref04_prog.j2
   repeat' first
   | (with_reducible exact ih0 _ _ _ _ _ _ _ _ _ _ _ _ _)
   | (with_reducible exact ih1 _ _ _ _ _ _ _ _ _ _ _ _ _ _)
   | (with_reducible exact ih2 _ _ _ _ _ _ _ _ _ _)
   | (with_reducible exact ih3 _ _ _ _ _ _ _ _ _ _)
   | (with_reducible exact ih4 _ _ _ _ _ _ _ _ _ _)
   | (with_reducible exact ih5 _ _ _ _ _ _ _ _ _ _)
   | (with_reducible exact shackleref04_among.mono _ _ _)
   | (with_reducible exact shackleref04_power.mono _ _)
   | (with_reducible exact LeO.refl _)
   | (with_reducible exact LeO.none _)
   | (with_reducible refine LeO.ite ?_ ?_)
   | (with_reducible refine LeO.bind ?_ (fun _ => ?_))
   | exact ih0 _ _ _ _ _ _ _ _ _ _ _ _ _
   | exact ih1 _ _ _ _ _ _ _ _ _ _ _ _ _ _
   | exact ih2 _ _ _ _ _ _ _ _ _ _
   | exact ih3 _ _ _ _ _ _ _ _ _ _
   | exact ih4 _ _ _ _ _ _ _ _ _ _
   | exact ih5 _ _ _ _ _ _ _ _ _ _
   | exact shackleref04_among.mono _ _ _
   | exact shackleref04_power.mono _ _
   | exact LeO.none _
   | refine LeO.ite ?_ ?_
   | refine LeO.bind ?_ (fun _ => ?_)
  ·intro y0 y1 y2 y3 y4 y5 y6 y7 y8 y9
   unfold shackleref04_prog.j3
   repeat' first
   | (with_reducible exact ih0 _ _ _ _ _ _ _ _ _ _ _ _ _)
   | (with_reducible exact ih1 _ _ _ _ _ _ _ _ _ _ _ _ _ _)
   | (with_reducible exact ih2 _ _ _ _ _ _ _ _ _ _)
   | (with_reducible exact ih3 _ _ _ _ _ _ _ _ _ _)
   | (with_reducible exact ih4 _ _ _ _ _ _ _ _ _ _)
   | (with_reducible exact ih5 _ _ _ _ _ _ _ _ _ _)
   | (with_reducible exact shackleref04_among.mono _ _ _)
   | (with_reducible exact shackleref04_power.mono _ _)
   | (with_reducible exact LeO.refl _)
   | (with_reducible exact LeO.none _)
   | (with_reducible refine LeO.ite ?_ ?_)
   | (with_reducible refine LeO.bind ?_ (fun _ => ?_))
   | exact ih0 _ _ _ _ _ _ _ _ _ _ _ _ _
   | exact ih1 _ _ _ _ _ _ _ _ _ _ _ _ _ _
   | exact ih2 _ _ _ _ _ _ _ _ _ _
   | exact ih3 _ _ _ _ _ _ _ _ _ _
   | exact ih4 _ _ _ _ _ _ _ _ _ _
   | exact ih5 _ _ _ _ _ _ _ _ _ _
   | exact shackleref04_among.mono _ _ _
   | exact shackleref04_power.mono _ _
   | exact LeO.none _
   | refine LeO.ite ?_ ?_
   | refine LeO.bind ?_ (fun _ => ?_)
  ·intro y0 y1 y2 y3 y4 y5 y6 y7 y8 y9
   unfold shackleref04_prog.j4
   repeat' first
   | (with_reducible exact ih0 _ _ _ _ _ _ _ _ _ _ _ _ _)
   | (with_reducible exact ih1 _ _ _ _ _ _ _ _ _ _ _ _ _ _)
   | (with_reducible exact ih2 _ _ _ _ _ _ _ _ _ _)
   | (with_reducible exact ih3 _ _ _ _ _ _ _ _ _ _)
   | (with_reducible exact ih4 _ _ _ _ _ _ _ _ _ _)
   | (with_reducible exact ih5 _ _ _ _ _ _ _ _ _ _)
   | (with_reducible exact shackleref04_among.mono _ _ _)
   | (with_reducible exact shackleref04_power.mono _ _)
   | (with_reducible exact LeO.refl _)
   | (with_reducible exact LeO.none _)
   | (with_reducible refine LeO.ite ?_ ?_)
   | (with_reducible refine LeO.bind ?_ (fun _ => ?_))
   | exact ih0 _ _ _ _ _ _ _ _ _ _ _ _ _
   | exact ih1 _ _ _ _ _ _ _ _ _ _ _ _ _ _
   | exact ih2 _ _ _ _ _ _ _ _ _ _
   | exact ih3 _ _ _ _ _ _ _ _ _ _
   | exact ih4 _ _ _ _ _ _ _ _ _ _
   | exact ih5 _ _ _ _ _ _ _ _ _ _
   | exact shackleref04_among.mono _ _ _
   | exact shackleref04_power.mono _ _
   | exact LeO.none _
   | refine LeO.ite ?_ ?_
   | refine LeO.bind ?_ (fun _ => ?_)
  ·intro y0 y1 y2 y3 y4 y5 y6 y7 y8 y9
   unfold shackleref04_prog.j5
   repeat' first
   | (with_reducible exact ih0 _ _ _ _ _ _ _ _ _ _ _ _ _)
   | (with_reducible exact ih1 _ _ _ _ _ _ _ _ _ _ _ _ _ _)
   | (with_reducible exact ih2 _ _ _ _ _ _ _ _ _ _)
   | (with_reducible exact ih3 _ _ _ _ _ _ _ _ _ _)
   | (with_reducible exact ih4 _ _ _ _ _ _ _ _ _ _)
   | (with_reducible exact ih5 _ _ _ _ _ _ _ _ _ _)
   | (with_reducible exact shackleref04_among.mono _ _ _)
   | (with_reducible exact shackleref04_power.mono _ _)
   | (with_reducible exact LeO.refl _)
   | (with_reducible exact LeO.none _)
   | (with_reducible refine LeO.ite ?_ ?_)
   | (with_reducible refine LeO.bind ?_ (fun _ => ?_))
   | exact ih0 _ _ _ _ _ _ _ _ _ _ _ _ _
   | exact ih1 _ _ _ _ _ _ _ _ _ _ _ _ _ _
   | exact ih2 _ _ _ _ _ _ _ _ _ _
   | exact ih3 _ _ _ _ _ _ _ _ _ _
   | exact ih4 _ _ _ _ _ _ _ _ _ _
   | exact ih5 _ _ _ _ _ _ _ _ _ _
   | exact shackleref04_among.mono _ _ _
   | exact shackleref04_power.mono _ _
   | exact LeO.none _
   | refine LeO.ite ?_ ?_
   | refine LeO.bind ?_ (fun _ => ?_)
theorem shackleref04_prog.mono : ∀ a0 a1 a2 a3 a4 a5 a6 a7 a8 a9 k, LeO (shackleref04_prog.f k a0 a1 a2 a3 a4 a5 a6 a7 a8 a9) (shackleref04_prog.f (k + 1) a0 a1 a2 a3 a4 a5 a6 a7 a8 a9) := by
 intro a0 a1 a2 a3 a4 a5 a6 a7 a8 a9 k; obtain ⟨ih0, ih1, ih2, ih3, ih4, ih5⟩ := shackleref04_prog.mono_l k
 unfold shackleref04_prog.f
 repeat' first
   | (with_reducible exact ih0 _ _ _ _ _ _ _ _ _ _ _ _ _)
   | (with_reducible exact ih1 _ _ _ _ _ _ _ _ _ _ _ _ _ _)
   | (with_reducible exact ih2 _ _ _ _ _ _ _ _ _ _)
   | (with_reducible exact ih3 _ _ _ _ _ _ _ _ _ _)
   | (with_reducible exact ih4 _ _ _ _ _ _ _ _ _ _)
   | (with_reducible exact ih5 _ _ _ _ _ _ _ _ _ _)
   | (with_reducible exact shackleref04_among.mono _ _ _)
   | (with_reducible exact shackleref04_power.mono _ _)
   | (with_reducible exact LeO.refl _)
   | (with_reducible exact LeO.none _)
   | (with_reducible refine LeO.ite ?_ ?_)
   | (with_reducible refine LeO.bind ?_ (fun _ => ?_))
   | exact ih0 _ _ _ _ _ _ _ _ _ _ _ _ _
   | exact ih1 _ _ _ _ _ _ _ _ _ _ _ _ _ _
   | exact ih2 _ _ _ _ _ _ _ _ _ _
   | exact ih3 _ _ _ _ _ _ _ _ _ _
   | exact ih4 _ _ _ _ _ _ _ _ _ _
   | exact ih5 _ _ _ _ _ _ _ _ _ _
   | exact shackleref04_among.mono _ _ _
   | exact shackleref04_power.mono _ _
   | exact LeO.none _
   | refine LeO.ite ?_ ?_
   | refine LeO.bind ?_ (fun _ => ?_)
set_option maxHeartbeats 8000000 in
set_option maxRecDepth 100000 in
theorem shackleref04_prog.calls (k : Nat) (A0 : Option Addr) (c0 : Nat) (l0 : List Int) (a1_0 : Int) (a1_1 : Int) (a1_2 : Int) (a1_3 : Int) (a1_4 : Int) (a1_5 : Int) (a1_6 : Int) (a2 : Int) (A3 : Option Addr) (c3 : Nat) (l3 : List (S50)) (r1 : Int) (r2 : Bool) (r3 : Int) (w : World) (hr0 : Kd.C (Kd.int .u8) w A0 l0.length l0) (hc0 : l0.length ≤ c0) (hr3 : Kd.C k50 w A3 l3.length l3) (hc3 : l3.length ≤ c3) (h : shackleref04_prog.f k l0 a1_0 a1_1 a1_2 a1_3 a1_4 a1_5 a1_6 a2 l3 = some (r1, r2, r3)) :
  Calls Tryd.prog 32 #[.slice A0 l0.length c0, .agg #[.int .u32 a1_0, .int .u32 a1_1, .int .u64 a1_2, .int .u64 a1_3, .int .u64 a1_4, .int .u64 a1_5, .int .u64 a1_6], .int .u64 a2, .slice A3 l3.length c3] w fun e w' => e = .returned (.agg #[.int .i64 r1, .bool r2, .int .u64 r3]) ∧ Below w.heap.size w w' := by
 have hu50 := Tryd.underlying50; have hu34 := Tryd.underlying34; have HR0 := aM hr0; have HC0 := aM hc0; clear hr0 hc0; have HR3 := aM hr3; have HC3 := aM hc3; clear hr3 hc3; have HB := aM (Below.refl w.heap.size w); have H : ((shackleref04_among.f k a1_0 (([2, 3, 7, 1685382482, 1685382481] : List Int))).bind fun t194 => (shackleref04_prog.l0 k l0 a2 l3 t194 0 0 a1_0 a1_1 a1_2 a1_3 a1_4 a1_5 a1_6)) = some (r1, r2, r3) := h; clear h; obtain ⟨y191, hy191⟩ : ∃ y_ : List Int, y_ = (([2, 3, 7, 1685382482, 1685382481] : List Int)) := ⟨_, rfl⟩
 replace H : ((shackleref04_among.f k a1_0 y191).bind fun t194 => (shackleref04_prog.l0 k l0 a2 l3 t194 0 0 a1_0 a1_1 a1_2 a1_3 a1_4 a1_5 a1_6)) = some (r1, r2, r3) := by first | (rw [hy191]; with_reducible exact H) | (have H2_ := (Option.bind_some _ _).symm.trans H; rw [hy191]; with_reducible exact H2_) | (have H2_ := (Option.bind_some _ _).symm.trans H; with_reducible exact H2_) | with_reducible exact H | (rw [hy191]; exact H) | exact H
 have Ny191 := aM hy191; clear hy191; replace H := Option.bind_eq_some_iff.mp H; obtain ⟨t194, A50, H⟩ := H; replace H : (shackleref04_prog.l0 k l0 a2 l3 t194 0 0 a1_0 a1_1 a1_2 a1_3 a1_4 a1_5 a1_6) = some (r1, r2, r3) := H; have A5 := aM A50; clear A50; have H' := aM H; clear H
 go_enter Tryd.func32, Tryd.ntmps32
 go_wp2_with (first | ((with_reducible refine gate_dst (N := 5) rfl ?_); refine box_event ?hg (N := 5) ?hd (cs := #[.int .u32 a1_0, .int .u32 a1_1, .int .u64 a1_2, .int .u64 a1_3, .int .u64 a1_4, .int .u64 a1_5, .int .u64 a1_6]) (t := 50) ?hr ?_; (case hd => rfl); (case hg => rfl); (case hr => first | (go_simp; done) | (go_simp; rfl)); intro gb189 hg w6 hbox hb; have BK189 := aM (hbox); have GW189 := aM ((by rw [hg]; exact (below_size (by repeat (first | (with_reducible first | exact HB.out | apply bA | apply bN | apply bD) | exact HB.out))) : w.heap.size ≤ gb189)); have GE189 := aM ((by rw [hg]; exact (below_size (by repeat (first | (with_reducible first | exact HB.out | apply bA | apply bN | apply bD) | exact HB.out))) : w.heap.size ≤ gb189)); replace HB := aM (below_step (by repeat (first | (with_reducible first | exact HB.out | apply bA | apply bN | apply bD) | exact HB.out)) hb); clear hb hbox hg) | ((with_reducible refine gate_dst (N := 8) rfl ?_); refine box_event ?hg (N := 8) ?hd (cs := #[.int .i64 0, .bool false, .int .u64 0]) (t := 34) ?hr ?_; (case hd => rfl); (case hg => rfl); (case hr => first | (go_simp; done) | (go_simp; rfl)); intro gb190 hg w7 hbox hb; have BK190 := aM (hbox); have GW190 := aM ((by rw [hg]; exact (below_size (by repeat (first | (with_reducible first | exact HB.out | apply bA | apply bN | apply bD | refine below_set ?_ GE189.out) | exact HB.out))) : w.heap.size ≤ gb190)); have GE190 := aM ((by rw [hg]; exact (below_size (by repeat (first | (with_reducible first | exact HB.out | apply bA | apply bN | apply bD | refine below_set ?_ GE189.out) | exact HB.out))) : w.heap.size ≤ gb190)); replace HB := aM (below_step (by repeat (first | (with_reducible first | exact HB.out | apply bA | apply bN | apply bD | refine below_set ?_ GE189.out) | exact HB.out)) hb); have NB189_190 := aM ((by rw [hg]; exact Nat.ne_of_lt (blk_lt (by (with_reducible repeat (first | refine kN ?_ _ | refine kD ?_ | refine kA ?_ _)); exact BK189.out)) : gb189 ≠ gb190)); have NB190_189 := aM ((by rw [hg]; exact Nat.ne_of_gt (blk_lt (by (with_reducible repeat (first | refine kN ?_ _ | refine kD ?_ | refine kA ?_ _)); exact BK189.out)) : gb190 ≠ gb189)); replace BK189 := aM (blk_below (g := gb189) (o := .cells #[.int .u32 a1_0, .int .u32 a1_1, .int .u64 a1_2, .int .u64 a1_3, .int .u64 a1_4, .int .u64 a1_5, .int .u64 a1_6] 50 (0, 0)) (by (with_reducible repeat (first | refine kN ?_ _ | refine kD ?_ | refine kA ?_ _)); exact BK189.out) hb); clear hb hbox hg; have hnb8 := NB189_190.out; have hnc8 := NB190_189.out; obtain ⟨hcz9_0, hcz9_1, hcz9_2, hcz9_3, hcz9_4, hcz9_5, hcz9_6, hfz9_0, hfz9_1, hfz9_2, hfz9_3, hfz9_4, hfz9_5, hfz9_6⟩ := bx7 BK189.out) | ((with_reducible refine gate_dst (N := 19) rfl ?_); refine Kd.R_lit (Kd.int .u32) _ 48 ?hg (N := 19) ?hd (xs := ([2, 3, 7, 1685382482, 1685382481] : List Int)) (inner := [.int .u32 2, .int .u32 3, .int .u32 7, .int .u32 1685382482, .int .u32 1685382481]) (ok := fun _ => True) (okp := fun _ => True) ?hr ?hp (fun _ hk => hk) trivial (Below.refl _ _) (Nat.le_refl _) (by simp) ?_; (case hd => rfl); (case hg => rfl); (case hr => first | (go_simp; done) | (go_simp; rfl)); (case hp => exact (Reps.one (show Kd.M (Kd.int .u32) _ _ _ 2 [.int .u32 2] from rfl) (Reps.one (show Kd.M (Kd.int .u32) _ _ _ 3 [.int .u32 3] from rfl) (Reps.one (show Kd.M (Kd.int .u32) _ _ _ 7 [.int .u32 7] from rfl) (Reps.one (show Kd.M (Kd.int .u32) _ _ _ 1685382482 [.int .u32 1685382482] from rfl) (Reps.one (show Kd.M (Kd.int .u32) _ _ _ 1685382481 [.int .u32 1685382481] from rfl) (Reps.none _ _))))))); intro v192 w10 ho11 hb hg_ hnew_; clear hg_ hnew_; (first | rw [← Ny191.out] at ho11 | (simp only [Int.reduceToNat] at ho11; rw [← Ny191.out] at ho11)); have HO193 := aM (Kd.R_lower ho11 (below_size (by repeat (first | (with_reducible first | exact HB.out | apply bA | apply bN | apply bD | refine below_set ?_ GE189.out | refine below_set ?_ GE190.out) | exact HB.out)))); replace BK189 := aM (blk_below (g := gb189) (o := .cells #[.int .u32 a1_0, .int .u32 a1_1, .int .u64 a1_2, .int .u64 a1_3, .int .u64 a1_4, .int .u64 a1_5, .int .u64 a1_6] 50 (0, 0)) (by (with_reducible repeat (first | refine kN ?_ _ | refine kD ?_ | refine kA ?_ _)); exact BK189.out) hb); replace BK190 := aM (blk_below (g := gb190) (o := .cells #[.int .i64 0, .bool false, .int .u64 0] 34 (0, 0)) (by (with_reducible repeat (first | refine kN ?_ _ | refine kD ?_ | refine kA ?_ _)); exact BK190.out) hb); replace HB := aM (below_step (by repeat (first | (with_reducible first | exact HB.out | apply bA | apply bN | apply bD | refine below_set ?_ GE189.out | refine below_set ?_ GE190.out) | exact HB.out)) hb); clear hb ho11; obtain ⟨Ao12, co12, eo12⟩ := Kd.R_slice HO193.out; subst eo12) | (go_at_call 59; (with_reducible refine (shackleref04_among.calls k a1_0 _ _ y191 t194 _ ?side1 ?side2 A5.out).mono ?_); (case side1 => repeat (first | exact (Kd.R_reads' HO193.out).2.2 | (with_reducible refine cA ?_ _) | (with_reducible refine cN ?_ _) | (with_reducible refine cD ?_))); (case side2 => exact (Kd.R_reads' HO193.out).2.1); rintro e w' ⟨rfl, ⟨nd, rfl⟩⟩; (try first | exact ⟨rfl, _, World.drewN_drewN _ _ _⟩ | exact ⟨rfl, _, Eq.trans (World.drewN_drewN _ _ _) (congrArg (World.drewN _) (Nat.add_assoc _ _ _))⟩)))
 repeat (go_quiet (fail); try go_wp2_with (first | ((with_reducible refine gate_dst (N := 5) rfl ?_); refine box_event ?hg (N := 5) ?hd (cs := #[.int .u32 a1_0, .int .u32 a1_1, .int .u64 a1_2, .int .u64 a1_3, .int .u64 a1_4, .int .u64 a1_5, .int .u64 a1_6]) (t := 50) ?hr ?_; (case hd => rfl); (case hg => rfl); (case hr => first | (go_simp; done) | (go_simp; rfl)); intro gb189 hg w6 hbox hb; have BK189 := aM (hbox); have GW189 := aM ((by rw [hg]; exact (below_size (by repeat (first | (with_reducible first | exact HB.out | apply bA | apply bN | apply bD) | exact HB.out))) : w.heap.size ≤ gb189)); have GE189 := aM ((by rw [hg]; exact (below_size (by repeat (first | (with_reducible first | exact HB.out | apply bA | apply bN | apply bD) | exact HB.out))) : w.heap.size ≤ gb189)); replace HB := aM (below_step (by repeat (first | (with_reducible first | exact HB.out | apply bA | apply bN | apply bD) | exact HB.out)) hb); clear hb hbox hg) | ((with_reducible refine gate_dst (N := 8) rfl ?_); refine box_event ?hg (N := 8) ?hd (cs := #[.int .i64 0, .bool false, .int .u64 0]) (t := 34) ?hr ?_; (case hd => rfl); (case hg => rfl); (case hr => first | (go_simp; done) | (go_simp; rfl)); intro gb190 hg w7 hbox hb; have BK190 := aM (hbox); have GW190 := aM ((by rw [hg]; exact (below_size (by repeat (first | (with_reducible first | exact HB.out | apply bA | apply bN | apply bD | refine below_set ?_ GE189.out) | exact HB.out))) : w.heap.size ≤ gb190)); have GE190 := aM ((by rw [hg]; exact (below_size (by repeat (first | (with_reducible first | exact HB.out | apply bA | apply bN | apply bD | refine below_set ?_ GE189.out) | exact HB.out))) : w.heap.size ≤ gb190)); replace HB := aM (below_step (by repeat (first | (with_reducible first | exact HB.out | apply bA | apply bN | apply bD | refine below_set ?_ GE189.out) | exact HB.out)) hb); have NB189_190 := aM ((by rw [hg]; exact Nat.ne_of_lt (blk_lt (by (with_reducible repeat (first | refine kN ?_ _ | refine kD ?_ | refine kA ?_ _)); exact BK189.out)) : gb189 ≠ gb190)); have NB190_189 := aM ((by rw [hg]; exact Nat.ne_of_gt (blk_lt (by (with_reducible repeat (first | refine kN ?_ _ | refine kD ?_ | refine kA ?_ _)); exact BK189.out)) : gb190 ≠ gb189)); replace BK189 := aM (blk_below (g := gb189) (o := .cells #[.int .u32 a1_0, .int .u32 a1_1, .int .u64 a1_2, .int .u64 a1_3, .int .u64 a1_4, .int .u64 a1_5, .int .u64 a1_6] 50 (0, 0)) (by (with_reducible repeat (first | refine kN ?_ _ | refine kD ?_ | refine kA ?_ _)); exact BK189.out) hb); clear hb hbox hg; have hnb8 := NB189_190.out; have hnc8 := NB190_189.out; obtain ⟨hcz9_0, hcz9_1, hcz9_2, hcz9_3, hcz9_4, hcz9_5, hcz9_6, hfz9_0, hfz9_1, hfz9_2, hfz9_3, hfz9_4, hfz9_5, hfz9_6⟩ := bx7 BK189.out) | ((with_reducible refine gate_dst (N := 19) rfl ?_); refine Kd.R_lit (Kd.int .u32) _ 48 ?hg (N := 19) ?hd (xs := ([2, 3, 7, 1685382482, 1685382481] : List Int)) (inner := [.int .u32 2, .int .u32 3, .int .u32 7, .int .u32 1685382482, .int .u32 1685382481]) (ok := fun _ => True) (okp := fun _ => True) ?hr ?hp (fun _ hk => hk) trivial (Below.refl _ _) (Nat.le_refl _) (by simp) ?_; (case hd => rfl); (case hg => rfl); (case hr => first | (go_simp; done) | (go_simp; rfl)); (case hp => exact (Reps.one (show Kd.M (Kd.int .u32) _ _ _ 2 [.int .u32 2] from rfl) (Reps.one (show Kd.M (Kd.int .u32) _ _ _ 3 [.int .u32 3] from rfl) (Reps.one (show Kd.M (Kd.int .u32) _ _ _ 7 [.int .u32 7] from rfl) (Reps.one (show Kd.M (Kd.int .u32) _ _ _ 1685382482 [.int .u32 1685382482] from rfl) (Reps.one (show Kd.M (Kd.int .u32) _ _ _ 1685382481 [.int .u32 1685382481] from rfl) (Reps.none _ _))))))); intro v192 w10 ho11 hb hg_ hnew_; clear hg_ hnew_; (first | rw [← Ny191.out] at ho11 | (simp only [Int.reduceToNat] at ho11; rw [← Ny191.out] at ho11)); have HO193 := aM (Kd.R_lower ho11 (below_size (by repeat (first | (with_reducible first | exact HB.out | apply bA | apply bN | apply bD | refine below_set ?_ GE189.out | refine below_set ?_ GE190.out) | exact HB.out)))); replace BK189 := aM (blk_below (g := gb189) (o := .cells #[.int .u32 a1_0, .int .u32 a1_1, .int .u64 a1_2, .int .u64 a1_3, .int .u64 a1_4, .int .u64 a1_5, .int .u64 a1_6] 50 (0, 0)) (by (with_reducible repeat (first | refine kN ?_ _ | refine kD ?_ | refine kA ?_ _)); exact BK189.out) hb); replace BK190 := aM (blk_below (g := gb190) (o := .cells #[.int .i64 0, .bool false, .int .u64 0] 34 (0, 0)) (by (with_reducible repeat (first | refine kN ?_ _ | refine kD ?_ | refine kA ?_ _)); exact BK190.out) hb); replace HB := aM (below_step (by repeat (first | (with_reducible first | exact HB.out | apply bA | apply bN | apply bD | refine below_set ?_ GE189.out | refine below_set ?_ GE190.out) | exact HB.out)) hb); clear hb ho11; obtain ⟨Ao12, co12, eo12⟩ := Kd.R_slice HO193.out; subst eo12) | (go_at_call 59; (with_reducible refine (shackleref04_among.calls k a1_0 _ _ y191 t194 _ ?side1 ?side2 A5.out).mono ?_); (case side1 => repeat (first | exact (Kd.R_reads' HO193.out).2.2 | (with_reducible refine cA ?_ _) | (with_reducible refine cN ?_ _) | (with_reducible refine cD ?_))); (case side2 => exact (Kd.R_reads' HO193.out).2.1); rintro e w' ⟨rfl, ⟨nd, rfl⟩⟩; (try first | exact ⟨rfl, _, World.drewN_drewN _ _ _⟩ | exact ⟨rfl, _, Eq.trans (World.drewN_drewN _ _ _) (congrArg (World.drewN _) (Nat.add_assoc _ _ _))⟩))))
 go_loopg [10, 11] k (fun kq v10 v11 w' => ∃ (x10_1 : Int) (x11_1 : Int) (x191000_1 : Int) (x191001_1 : Bool) (x191002_1 : Int), v10 = .int .u64 x10_1 ∧ v11 = .int .i64 x11_1 ∧ Aside0 (shackleref04_prog.l0 kq l0 a2 l3 t194 x10_1 x11_1 a1_0 a1_1 a1_2 a1_3 a1_4 a1_5 a1_6 = some (r1, r2, r3)) ∧ Aside0 (kq ≤ k) ∧ Aside0 (w'.heap[gb189]? = some (.cells #[.int .u32 a1_0, .int .u32 a1_1, .int .u64 a1_2, .int .u64 a1_3, .int .u64 a1_4, .int .u64 a1_5, .int .u64 a1_6] 50 (0, 0))) ∧ Aside0 (w'.heap[gb190]? = some (.cells #[.int .i64 x191000_1, .bool x191001_1, .int .u64 x191002_1] 34 (0, 0))) ∧ Aside0 (Below w.heap.size w w'))
 case atStart => exact ⟨(0), (0), (0), (false), (0), (by first | rfl | (simp; done) | (simp [*]; done)), (by first | rfl | (simp; done) | (simp [*]; done)), H', ⟨Nat.le_refl _⟩, ⟨by (with_reducible repeat (first | refine kN ?_ _ | refine kD ?_ | refine kA ?_ _)); exact BK189.out⟩, ⟨by (with_reducible repeat (first | refine kN ?_ _ | refine kD ?_ | refine kA ?_ _)); exact BK190.out⟩, ⟨by repeat (first | (with_reducible first | exact HB.out | apply bA | apply bN | apply bD | refine below_set ?_ GE189.out | refine below_set ?_ GE190.out) | exact HB.out)⟩⟩
 case round =>
  clear H'
  try clear p2
  try clear c3
  try clear c8
  try clear hcz9_0
  try clear hcz9_1
  try clear hcz9_2
  try clear hcz9_3
  try clear hcz9_4
  try clear hcz9_5
  try clear hcz9_6
  try clear hfz9_0
  try clear hfz9_1
  try clear hfz9_2
  try clear hfz9_3
  try clear hfz9_4
  try clear hfz9_5
  try clear hfz9_6
  obtain ⟨x10_1, x11_1, x191000_1, x191001_1, x191002_1, rfl, rfl, HA, HK1, BK189, BK190, HB⟩ := hrel
  cases gk with
  | zero => exact absurd HA.out (by simp [shackleref04_prog.l0])
  | succ k1 =>
   have H := HA.out; clear HA; simp only [shackleref04_prog.l0] at H
   by_cases c13 : x11_1 < (l3.length : Int)
   ·rw [if_pos c13] at H; have c13b0 : decide (x11_1 < (l3.length : Int)) = true := decide_eq_true c13; clear c13; have HC14 := aM H; clear H
    go_upto_region 6 with (fail)
    repeat (go_quiet (fail); go_upto_region 6 with (fail))
    go_cut [37] (fun v37 wc => ∃ (kq : Nat) (x37_13 : Bool), v37 = .bool x37_13 ∧ Aside0 (shackleref04_prog.j1 kq l0 a2 l3 t194 x10_1 x11_1 x37_13 a1_0 a1_1 a1_2 a1_3 a1_4 a1_5 a1_6 = some (r1, r2, r3)) ∧ Aside0 (kq ≤ k1) ∧ Aside0 (wc.heap[gb189]? = some (.cells #[.int .u32 a1_0, .int .u32 a1_1, .int .u64 a1_2, .int .u64 a1_3, .int .u64 a1_4, .int .u64 a1_5, .int .u64 a1_6] 50 (0, 0))) ∧ Aside0 (wc.heap[gb190]? = some (.cells #[.int .i64 x191000_1, .bool x191001_1, .int .u64 x191002_1] 34 (0, 0))) ∧ Aside0 (Below w.heap.size w wc))
    case first =>
     have H := HC14.out; clear HC14
     by_cases c15 : t194 = true
     ·subst c15
      have H1 : (if 0 ≤ x11_1 then (shackleref04_prog.j1 k1 l0 a2 l3 true x10_1 x11_1 (((rd_T50 l3 x11_1).f0) == a1_0) a1_0 a1_1 a1_2 a1_3 a1_4 a1_5 a1_6) else (none)) = some (r1, r2, r3) := by rw [if_pos rfl] at H; exact H
      clear H; have H := H1; clear H1
      by_cases c16 : 0 ≤ x11_1
      ·rw [if_pos c16] at H; have c16b0 : decide (0 ≤ x11_1) = true := decide_eq_true c16; clear c16
       (first | rw [c16b0] | (simp only [i64_w, i32_w]; rw [c16b0]) | skip)
       have H' := aM H; clear H; have p195 : 0 ≤ (x11_1 : Int) := of_decide_eq_true (by first | (with_reducible assumption) | assumption); have q195 : x11_1 < (l3.length : Int) := of_decide_eq_true (by first | (with_reducible assumption) | assumption); obtain ⟨ad195, e195, hx195_0, hx195_1, hx195_2, hx195_3, hx195_4, hx195_5, hx195_6⟩ := at_T50 HR3.out x11_1 p195 q195
       cases e195
       replace hx195_0 := (HB.out.cell (World.block_lt_of_cell? w _ hx195_0)).trans hx195_0; replace hx195_1 := (HB.out.cell (World.block_lt_of_cell? w _ hx195_1)).trans hx195_1; replace hx195_2 := (HB.out.cell (World.block_lt_of_cell? w _ hx195_2)).trans hx195_2; replace hx195_3 := (HB.out.cell (World.block_lt_of_cell? w _ hx195_3)).trans hx195_3; replace hx195_4 := (HB.out.cell (World.block_lt_of_cell? w _ hx195_4)).trans hx195_4; replace hx195_5 := (HB.out.cell (World.block_lt_of_cell? w _ hx195_5)).trans hx195_5; replace hx195_6 := (HB.out.cell (World.block_lt_of_cell? w _ hx195_6)).trans hx195_6; replace p195 := eq_true p195; replace q195 := eq_true q195; have hnb17 := NB189_190.out; have hnc17 := NB190_189.out; obtain ⟨hcz18_0, hcz18_1, hcz18_2, hcz18_3, hcz18_4, hcz18_5, hcz18_6, hfz18_0, hfz18_1, hfz18_2, hfz18_3, hfz18_4, hfz18_5, hfz18_6⟩ := bx7 BK189.out
       go_wp2
       repeat (go_quiet (fail); try go_wp2)
       go_meet
       case rel => exact ⟨_, ((((rd_T50 l3 x11_1).f0) == a1_0)), (by first | rfl | (simp; done) | (simp [*]; done)), H', ⟨by have := HK1.out; first | omega | exact Nat.le_refl _⟩, ⟨by (with_reducible repeat (first | refine kN ?_ _ | refine kD ?_ | refine kA ?_ _)); exact BK189.out⟩, ⟨by (with_reducible repeat (first | refine kN ?_ _ | refine kD ?_ | refine kA ?_ _)); exact BK190.out⟩, ⟨by repeat (first | (with_reducible first | exact HB.out | apply bA | apply bN | apply bD | refine below_set ?_ GE189.out | refine below_set ?_ GE190.out) | exact HB.out)⟩⟩
      ·rw [if_neg c16] at H; exact absurd H (by simp)
     ·replace c15 := Bool.eq_false_iff.mpr c15; subst c15
      have H1 : (shackleref04_prog.j1 k1 l0 a2 l3 false x10_1 x11_1 false a1_0 a1_1 a1_2 a1_3 a1_4 a1_5 a1_6) = some (r1, r2, r3) := by rw [if_neg (show ¬ (false = true) by decide)] at H; exact H
      clear H; have H := H1; clear H1; have H' := aM H; clear H
      go_wp2
      repeat (go_quiet (fail); try go_wp2)
      go_meet
      case rel => exact ⟨_, (false), (by first | rfl | (simp; done) | (simp [*]; done)), H', ⟨by have := HK1.out; first | omega | exact Nat.le_refl _⟩, ⟨by (with_reducible repeat (first | refine kN ?_ _ | refine kD ?_ | refine kA ?_ _)); exact BK189.out⟩, ⟨by (with_reducible repeat (first | refine kN ?_ _ | refine kD ?_ | refine kA ?_ _)); exact BK190.out⟩, ⟨by repeat (first | (with_reducible first | exact HB.out | apply bA | apply bN | apply bD | refine below_set ?_ GE189.out | refine below_set ?_ GE190.out) | exact HB.out)⟩⟩
    case rest =>
     clear HC14
     try clear c1
     try clear p1
     try clear q1
     try clear hx1
     try clear p2
     try clear c3
     try clear c8
     try clear c13
     try clear c13b0
     try clear c15
     try clear c16
     try clear c16b0
     try clear c17
     try clear hcz18_0
     try clear hcz18_1
     try clear hcz18_2
     try clear hcz18_3
     try clear hcz18_4
     try clear hcz18_5
     try clear hcz18_6
     try clear hcz9_0
     try clear hcz9_1
     try clear hcz9_2
     try clear hcz9_3
     try clear hcz9_4
     try clear hcz9_5
     try clear hcz9_6
     try clear hfz18_0
     try clear hfz18_1
     try clear hfz18_2
     try clear hfz18_3
     try clear hfz18_4
     try clear hfz18_5
     try clear hfz18_6
     try clear hfz9_0
     try clear hfz9_1
     try clear hfz9_2
     try clear hfz9_3
     try clear hfz9_4
     try clear hfz9_5
     try clear hfz9_6
     try clear hx195_0
     try clear hx195_1
     try clear hx195_2
     try clear hx195_3
     try clear hx195_4
     try clear hx195_5
     try clear hx195_6
     try clear p195
     try clear p2
     try clear q195
     obtain ⟨kq, x37_13, rfl, HA, HJ13, BK189, BK190, HB⟩ := hcut
     cases kq with
     | zero => exact absurd HA.out (by simp [shackleref04_prog.j1])
     | succ kj13 =>
      have H := HA.out; clear HA; simp only [shackleref04_prog.j1] at H
      by_cases c19 : x37_13 = true
      ·subst c19
       have H1 : ((shackleref04_at.f 5 a2).bind fun bt196 => (some (bt196.1, bt196.2.1, bt196.2.2))) = some (r1, r2, r3) := by rw [if_pos rfl] at H; exact H
       clear H; have H := H1; clear H1; replace H := Option.bind_eq_some_iff.mp H; obtain ⟨⟨t196, t197, t198⟩, A200, H⟩ := H; replace H : (some (t196, t197, t198)) = some (r1, r2, r3) := H; have A20 := aM A200; clear A200; simp only [Option.some.injEq, Prod.mk.injEq] at H; obtain ⟨rfl, rfl, rfl⟩ := H
       go_wp2_with (first | (go_at_call 30; (with_reducible refine (shackleref04_at.calls 5 a2 t196 t197 t198 _ A20.out).mono ?_); rintro e w21 ⟨rfl, hb⟩; replace BK189 := aM (blk_below (g := gb189) (o := .cells #[.int .u32 a1_0, .int .u32 a1_1, .int .u64 a1_2, .int .u64 a1_3, .int .u64 a1_4, .int .u64 a1_5, .int .u64 a1_6] 50 (0, 0)) (by (with_reducible repeat (first | refine kN ?_ _ | refine kD ?_ | refine kA ?_ _)); exact BK189.out) hb); replace BK190 := aM (blk_below (g := gb190) (o := .cells #[.int .i64 x191000_1, .bool x191001_1, .int .u64 x191002_1] 34 (0, 0)) (by (with_reducible repeat (first | refine kN ?_ _ | refine kD ?_ | refine kA ?_ _)); exact BK190.out) hb); replace HB := aM (below_step (by repeat (first | (with_reducible first | exact HB.out | apply bA | apply bN | apply bD | refine below_set ?_ GE189.out | refine below_set ?_ GE190.out) | exact HB.out)) hb); (try clear hb); (try clear hb2); (try clear hk); (try clear hi); have hnb22 := NB190_189.out; have hnc22 := NB189_190.out; obtain ⟨hcz23_0, hcz23_1, hcz23_2, hfz23_0, hfz23_1, hfz23_2⟩ := bx3 BK190.out))
       repeat (go_quiet (fail); try go_wp2_with (first | (go_at_call 30; (with_reducible refine (shackleref04_at.calls 5 a2 t196 t197 t198 _ A20.out).mono ?_); rintro e w21 ⟨rfl, hb⟩; replace BK189 := aM (blk_below (g := gb189) (o := .cells #[.int .u32 a1_0, .int .u32 a1_1, .int .u64 a1_2, .int .u64 a1_3, .int .u64 a1_4, .int .u64 a1_5, .int .u64 a1_6] 50 (0, 0)) (by (with_reducible repeat (first | refine kN ?_ _ | refine kD ?_ | refine kA ?_ _)); exact BK189.out) hb); replace BK190 := aM (blk_below (g := gb190) (o := .cells #[.int .i64 x191000_1, .bool x191001_1, .int .u64 x191002_1] 34 (0, 0)) (by (with_reducible repeat (first | refine kN ?_ _ | refine kD ?_ | refine kA ?_ _)); exact BK190.out) hb); replace HB := aM (below_step (by repeat (first | (with_reducible first | exact HB.out | apply bA | apply bN | apply bD | refine below_set ?_ GE189.out | refine below_set ?_ GE190.out) | exact HB.out)) hb); (try clear hb); (try clear hb2); (try clear hk); (try clear hi); have hnb22 := NB190_189.out; have hnc22 := NB189_190.out; obtain ⟨hcz23_0, hcz23_1, hcz23_2, hfz23_0, hfz23_1, hfz23_2⟩ := bx3 BK190.out)))
       refine bodyPost_ret (results_cell_row rfl _ _ gb190 34 #[.int .i64 t196, .bool t197, .int .u64 t198] (0, 0) _ rfl (by (with_reducible repeat (first | refine kN ?_ _ | refine kD ?_ | refine kA ?_ _)); refine blk_put (cs := #[.int .i64 t196, .bool t197, .int .u64 x191002_1]) ?_ 2 _ rfl; (with_reducible repeat (first | refine kN ?_ _ | refine kD ?_ | refine kA ?_ _)); refine blk_put (cs := #[.int .i64 t196, .bool x191001_1, .int .u64 x191002_1]) ?_ 1 _ rfl; (with_reducible repeat (first | refine kN ?_ _ | refine kD ?_ | refine kA ?_ _)); refine blk_put (cs := #[.int .i64 x191000_1, .bool x191001_1, .int .u64 x191002_1]) ?_ 0 _ rfl; (with_reducible repeat (first | refine kN ?_ _ | refine kD ?_ | refine kA ?_ _)); exact BK190.out) Tryd.underlying34 rfl (by kernel_rfl)) rfl ?_; exact ⟨by first | rfl | (simp [errW_none, errW_some] <;> rfl) | (simp [*, errW_none, errW_some] <;> rfl), by repeat (first | (with_reducible first | exact HB.out | apply bA | apply bN | apply bD | refine below_set ?_ GE189.out | refine below_set ?_ GE190.out) | exact HB.out)⟩
      ·replace c19 := Bool.eq_false_iff.mpr c19; subst c19
       have H1 : (if 0 ≤ x11_1 then (if x11_1 < (l3.length : Int) then (if ((rd_T50 l3 x11_1).f0) = 1 then (shackleref04_prog.l0 kj13 l0 a2 l3 t194 (IntKind.u64.wrap ((IntKind.u64.wrap (Int.tdiv (IntKind.u64.wrap ((IntKind.u64.wrap (((rd_T50 l3 x11_1).f3) + ((rd_T50 l3 x11_1).f5))) + 4095)) 4096)) * 4096)) (wrap64 (x11_1 + 1)) a1_0 a1_1 a1_2 a1_3 a1_4 a1_5 a1_6) else (shackleref04_prog.l0 kj13 l0 a2 l3 t194 x10_1 (wrap64 (x11_1 + 1)) a1_0 a1_1 a1_2 a1_3 a1_4 a1_5 a1_6)) else (none)) else (none)) = some (r1, r2, r3) := by rw [if_neg (show ¬ (false = true) by decide)] at H; exact H
       clear H; have H := H1; clear H1
       by_cases c24 : 0 ≤ x11_1
       ·rw [if_pos c24] at H; have c24b0 : decide (0 ≤ x11_1) = true := decide_eq_true c24; clear c24
        by_cases c25 : x11_1 < (l3.length : Int)
        ·rw [if_pos c25] at H; have c25b0 : decide (x11_1 < (l3.length : Int)) = true := decide_eq_true c25; clear c25
         by_cases c26 : ((rd_T50 l3 x11_1).f0) = 1
         ·rw [if_pos c26] at H; have c26b0 : (((rd_T50 l3 x11_1).f0) == 1) = true := beq_iff_eq.mpr c26; have c26b1 : (((rd_T50 l3 x11_1).f0) != 1) = false := bne_eq_false_iff_eq.mpr c26; clear c26; have H' := aM H; clear H; have p199 : 0 ≤ (x11_1 : Int) := of_decide_eq_true (by first | (with_reducible assumption) | assumption); have q199 : x11_1 < (l3.length : Int) := of_decide_eq_true (by first | (with_reducible assumption) | assumption); obtain ⟨ad199, e199, hx199_0, hx199_1, hx199_2, hx199_3, hx199_4, hx199_5, hx199_6⟩ := at_T50 HR3.out x11_1 p199 q199
          cases e199
          replace hx199_0 := (HB.out.cell (World.block_lt_of_cell? w _ hx199_0)).trans hx199_0; replace hx199_1 := (HB.out.cell (World.block_lt_of_cell? w _ hx199_1)).trans hx199_1; replace hx199_2 := (HB.out.cell (World.block_lt_of_cell? w _ hx199_2)).trans hx199_2; replace hx199_3 := (HB.out.cell (World.block_lt_of_cell? w _ hx199_3)).trans hx199_3; replace hx199_4 := (HB.out.cell (World.block_lt_of_cell? w _ hx199_4)).trans hx199_4; replace hx199_5 := (HB.out.cell (World.block_lt_of_cell? w _ hx199_5)).trans hx199_5; replace hx199_6 := (HB.out.cell (World.block_lt_of_cell? w _ hx199_6)).trans hx199_6; replace p199 := eq_true p199; replace q199 := eq_true q199; have p200 : 0 ≤ (x11_1 : Int) := of_decide_eq_true (by first | (with_reducible assumption) | assumption); have q200 : x11_1 < (l3.length : Int) := of_decide_eq_true (by first | (with_reducible assumption) | assumption); obtain ⟨ad200, e200, hx200_0, hx200_1, hx200_2, hx200_3, hx200_4, hx200_5, hx200_6⟩ := at_T50 HR3.out x11_1 p200 q200; obtain rfl : ad199 = ad200 := (by injection e200); replace hx200_0 := (HB.out.cell (World.block_lt_of_cell? w _ hx200_0)).trans hx200_0; replace hx200_1 := (HB.out.cell (World.block_lt_of_cell? w _ hx200_1)).trans hx200_1; replace hx200_2 := (HB.out.cell (World.block_lt_of_cell? w _ hx200_2)).trans hx200_2; replace hx200_3 := (HB.out.cell (World.block_lt_of_cell? w _ hx200_3)).trans hx200_3; replace hx200_4 := (HB.out.cell (World.block_lt_of_cell? w _ hx200_4)).trans hx200_4; replace hx200_5 := (HB.out.cell (World.block_lt_of_cell? w _ hx200_5)).trans hx200_5; replace hx200_6 := (HB.out.cell (World.block_lt_of_cell? w _ hx200_6)).trans hx200_6; replace p200 := eq_true p200; replace q200 := eq_true q200; have p201 : 0 ≤ (x11_1 : Int) := of_decide_eq_true (by first | (with_reducible assumption) | assumption); have q201 : x11_1 < (l3.length : Int) := of_decide_eq_true (by first | (with_reducible assumption) | assumption); obtain ⟨ad201, e201, hx201_0, hx201_1, hx201_2, hx201_3, hx201_4, hx201_5, hx201_6⟩ := at_T50 HR3.out x11_1 p201 q201; obtain rfl : ad199 = ad201 := (by injection e201); replace hx201_0 := (HB.out.cell (World.block_lt_of_cell? w _ hx201_0)).trans hx201_0; replace hx201_1 := (HB.out.cell (World.block_lt_of_cell? w _ hx201_1)).trans hx201_1; replace hx201_2 := (HB.out.cell (World.block_lt_of_cell? w _ hx201_2)).trans hx201_2; replace hx201_3 := (HB.out.cell (World.block_lt_of_cell? w _ hx201_3)).trans hx201_3; replace hx201_4 := (HB.out.cell (World.block_lt_of_cell? w _ hx201_4)).trans hx201_4; replace hx201_5 := (HB.out.cell (World.block_lt_of_cell? w _ hx201_5)).trans hx201_5; replace hx201_6 := (HB.out.cell (World.block_lt_of_cell? w _ hx201_6)).trans hx201_6; replace p201 := eq_true p201; replace q201 := eq_true q201
          go_wp2
          repeat (go_quiet (fail); try go_wp2)
          go_roundg kj13
          case measure => have := HK1.out; have := HJ13.out; omega
          case rel => exact ⟨(IntKind.u64.wrap ((IntKind.u64.wrap (Int.tdiv (IntKind.u64.wrap ((IntKind.u64.wrap (((rd_T50 l3 x11_1).f3) + ((rd_T50 l3 x11_1).f5))) + 4095)) 4096)) * 4096)), (wrap64 (x11_1 + 1)), (x191000_1), (x191001_1), (x191002_1), (by first | rfl | (simp; done) | (simp [*]; done)), (by first | rfl | (simp; done) | (simp [*]; done)), H', ⟨by have := HK1.out; have := HJ13.out; omega⟩, ⟨by (with_reducible repeat (first | refine kN ?_ _ | refine kD ?_ | refine kA ?_ _)); exact BK189.out⟩, ⟨by (with_reducible repeat (first | refine kN ?_ _ | refine kD ?_ | refine kA ?_ _)); exact BK190.out⟩, ⟨by repeat (first | (with_reducible first | exact HB.out | apply bA | apply bN | apply bD | refine below_set ?_ GE189.out | refine below_set ?_ GE190.out) | exact HB.out)⟩⟩
         ·rw [if_neg c26] at H; have c26b0 : (((rd_T50 l3 x11_1).f0) == 1) = false := beq_eq_false_iff_ne.mpr c26; have c26b1 : (((rd_T50 l3 x11_1).f0) != 1) = true := bne_iff_ne.mpr c26; have H' := aM H; clear H; have p199 : 0 ≤ (x11_1 : Int) := of_decide_eq_true (by first | (with_reducible assumption) | assumption); have q199 : x11_1 < (l3.length : Int) := of_decide_eq_true (by first | (with_reducible assumption) | assumption); obtain ⟨ad199, e199, hx199_0, hx199_1, hx199_2, hx199_3, hx199_4, hx199_5, hx199_6⟩ := at_T50 HR3.out x11_1 p199 q199
          cases e199
          replace hx199_0 := (HB.out.cell (World.block_lt_of_cell? w _ hx199_0)).trans hx199_0; replace hx199_1 := (HB.out.cell (World.block_lt_of_cell? w _ hx199_1)).trans hx199_1; replace hx199_2 := (HB.out.cell (World.block_lt_of_cell? w _ hx199_2)).trans hx199_2; replace hx199_3 := (HB.out.cell (World.block_lt_of_cell? w _ hx199_3)).trans hx199_3; replace hx199_4 := (HB.out.cell (World.block_lt_of_cell? w _ hx199_4)).trans hx199_4; replace hx199_5 := (HB.out.cell (World.block_lt_of_cell? w _ hx199_5)).trans hx199_5; replace hx199_6 := (HB.out.cell (World.block_lt_of_cell? w _ hx199_6)).trans hx199_6; replace p199 := eq_true p199; replace q199 := eq_true q199
          go_wp2
          repeat (go_quiet (fail); try go_wp2)
          go_roundg kj13
          case measure => have := HK1.out; have := HJ13.out; omega
          case rel => exact ⟨(x10_1), (wrap64 (x11_1 + 1)), (x191000_1), (x191001_1), (x191002_1), (by first | rfl | (simp; done) | (simp [*]; done)), (by first | rfl | (simp; done) | (simp [*]; done)), H', ⟨by have := HK1.out; have := HJ13.out; omega⟩, ⟨by (with_reducible repeat (first | refine kN ?_ _ | refine kD ?_ | refine kA ?_ _)); exact BK189.out⟩, ⟨by (with_reducible repeat (first | refine kN ?_ _ | refine kD ?_ | refine kA ?_ _)); exact BK190.out⟩, ⟨by repeat (first | (with_reducible first | exact HB.out | apply bA | apply bN | apply bD | refine below_set ?_ GE189.out | refine below_set ?_ GE190.out) | exact HB.out)⟩⟩
        ·rw [if_neg c25] at H; exact absurd H (by simp)
       ·rw [if_neg c24] at H; exact absurd H (by simp)
   ·rw [if_neg c13] at H; have c13b0 : decide (x11_1 < (l3.length : Int)) = false := decide_eq_false c13; clear c13; obtain ⟨y202, hy202⟩ : ∃ y_ : List Int, y_ = (([1, 2, 3, 4, 7] : List Int)) := ⟨_, rfl⟩
    replace H : ((shackleref04_among.f k1 a1_0 y202).bind fun t205 => ((shackleref01_In.f (IntKind.u64.wrap ((l0.length : Int))) a1_2 a1_4).bind fun t206 => (if t205 = true then (shackleref04_prog.j2 k1 a2 x10_1 (!t206) a1_0 a1_1 a1_2 a1_3 a1_4 a1_5 a1_6) else (shackleref04_prog.j2 k1 a2 x10_1 false a1_0 a1_1 a1_2 a1_3 a1_4 a1_5 a1_6)))) = some (r1, r2, r3) := by first | (rw [hy202]; with_reducible exact H) | (have H2_ := (Option.bind_some _ _).symm.trans H; rw [hy202]; with_reducible exact H2_) | (have H2_ := (Option.bind_some _ _).symm.trans H; with_reducible exact H2_) | with_reducible exact H | (rw [hy202]; exact H) | exact H
    have Ny202 := aM hy202; clear hy202; replace H := Option.bind_eq_some_iff.mp H; obtain ⟨t205, A270, H⟩ := H; replace H : ((shackleref01_In.f (IntKind.u64.wrap ((l0.length : Int))) a1_2 a1_4).bind fun t206 => (if t205 = true then (shackleref04_prog.j2 k1 a2 x10_1 (!t206) a1_0 a1_1 a1_2 a1_3 a1_4 a1_5 a1_6) else (shackleref04_prog.j2 k1 a2 x10_1 false a1_0 a1_1 a1_2 a1_3 a1_4 a1_5 a1_6))) = some (r1, r2, r3) := H; have A27 := aM A270; clear A270; replace H := Option.bind_eq_some_iff.mp H; obtain ⟨t206, A280, H⟩ := H; replace H : (if t205 = true then (shackleref04_prog.j2 k1 a2 x10_1 (!t206) a1_0 a1_1 a1_2 a1_3 a1_4 a1_5 a1_6) else (shackleref04_prog.j2 k1 a2 x10_1 false a1_0 a1_1 a1_2 a1_3 a1_4 a1_5 a1_6)) = some (r1, r2, r3) := H; have A28 := aM A280; clear A280; have HC29 := aM H; clear H; have hnb30 := NB189_190.out; have hnc30 := NB190_189.out; obtain ⟨hcz31_0, hcz31_1, hcz31_2, hcz31_3, hcz31_4, hcz31_5, hcz31_6, hfz31_0, hfz31_1, hfz31_2, hfz31_3, hfz31_4, hfz31_5, hfz31_6⟩ := bx7 BK189.out
    go_upto_region 12 with (first | ((with_reducible refine gate_dst (N := 62) rfl ?_); refine Kd.R_lit (Kd.int .u32) _ 48 ?hg (N := 62) ?hd (xs := ([1, 2, 3, 4, 7] : List Int)) (inner := [.int .u32 1, .int .u32 2, .int .u32 3, .int .u32 4, .int .u32 7]) (ok := fun _ => True) (okp := fun _ => True) ?hr ?hp (fun _ hk => hk) trivial (Below.refl _ _) (Nat.le_refl _) (by simp) ?_; (case hd => rfl); (case hg => rfl); (case hr => first | (go_simp; done) | (go_simp; rfl)); (case hp => exact (Reps.one (show Kd.M (Kd.int .u32) _ _ _ 1 [.int .u32 1] from rfl) (Reps.one (show Kd.M (Kd.int .u32) _ _ _ 2 [.int .u32 2] from rfl) (Reps.one (show Kd.M (Kd.int .u32) _ _ _ 3 [.int .u32 3] from rfl) (Reps.one (show Kd.M (Kd.int .u32) _ _ _ 4 [.int .u32 4] from rfl) (Reps.one (show Kd.M (Kd.int .u32) _ _ _ 7 [.int .u32 7] from rfl) (Reps.none _ _))))))); intro v203 w32 ho33 hb hg_ hnew_; clear hg_ hnew_; (first | rw [← Ny202.out] at ho33 | (simp only [Int.reduceToNat] at ho33; rw [← Ny202.out] at ho33)); have HO204 := aM (Kd.R_lower ho33 (below_size (by repeat (first | (with_reducible first | exact HB.out | apply bA | apply bN | apply bD | refine below_set ?_ GE189.out | refine below_set ?_ GE190.out) | exact HB.out)))); replace BK189 := aM (blk_below (g := gb189) (o := .cells #[.int .u32 a1_0, .int .u32 a1_1, .int .u64 a1_2, .int .u64 a1_3, .int .u64 a1_4, .int .u64 a1_5, .int .u64 a1_6] 50 (0, 0)) (by (with_reducible repeat (first | refine kN ?_ _ | refine kD ?_ | refine kA ?_ _)); exact BK189.out) hb); replace BK190 := aM (blk_below (g := gb190) (o := .cells #[.int .i64 x191000_1, .bool x191001_1, .int .u64 x191002_1] 34 (0, 0)) (by (with_reducible repeat (first | refine kN ?_ _ | refine kD ?_ | refine kA ?_ _)); exact BK190.out) hb); replace HB := aM (below_step (by repeat (first | (with_reducible first | exact HB.out | apply bA | apply bN | apply bD | refine below_set ?_ GE189.out | refine below_set ?_ GE190.out) | exact HB.out)) hb); clear hb ho33; obtain ⟨Ao34, co34, eo34⟩ := Kd.R_slice HO204.out; subst eo34) | (go_at_call 59; (with_reducible refine (shackleref04_among.calls k1 a1_0 _ _ y202 t205 _ ?side1 ?side2 A27.out).mono ?_); (case side1 => repeat (first | exact (Kd.R_reads' HO204.out).2.2 | (with_reducible refine cA ?_ _) | (with_reducible refine cN ?_ _) | (with_reducible refine cD ?_))); (case side2 => exact (Kd.R_reads' HO204.out).2.1); rintro e w' ⟨rfl, ⟨nd, rfl⟩⟩; (try first | exact ⟨rfl, _, World.drewN_drewN _ _ _⟩ | exact ⟨rfl, _, Eq.trans (World.drewN_drewN _ _ _) (congrArg (World.drewN _) (Nat.add_assoc _ _ _))⟩); obtain ⟨hcz35_0, hcz35_1, hcz35_2, hcz35_3, hcz35_4, hcz35_5, hcz35_6, hfz35_0, hfz35_1, hfz35_2, hfz35_3, hfz35_4, hfz35_5, hfz35_6⟩ := bx7 BK189.out) | (go_at_call 31; (with_reducible refine (shackleref01_In.calls (IntKind.u64.wrap ((l0.length : Int))) a1_2 a1_4 t206 _ A28.out).mono ?_); rintro e w' ⟨rfl, ⟨nd, rfl⟩⟩; (try first | exact ⟨rfl, _, World.drewN_drewN _ _ _⟩ | exact ⟨rfl, _, Eq.trans (World.drewN_drewN _ _ _) (congrArg (World.drewN _) (Nat.add_assoc _ _ _))⟩)))
    repeat (go_quiet (first | ((with_reducible refine gate_dst (N := 62) rfl ?_); refine Kd.R_lit (Kd.int .u32) _ 48 ?hg (N := 62) ?hd (xs := ([1, 2, 3, 4, 7] : List Int)) (inner := [.int .u32 1, .int .u32 2, .int .u32 3, .int .u32 4, .int .u32 7]) (ok := fun _ => True) (okp := fun _ => True) ?hr ?hp (fun _ hk => hk) trivial (Below.refl _ _) (Nat.le_refl _) (by simp) ?_; (case hd => rfl); (case hg => rfl); (case hr => first | (go_simp; done) | (go_simp; rfl)); (case hp => exact (Reps.one (show Kd.M (Kd.int .u32) _ _ _ 1 [.int .u32 1] from rfl) (Reps.one (show Kd.M (Kd.int .u32) _ _ _ 2 [.int .u32 2] from rfl) (Reps.one (show Kd.M (Kd.int .u32) _ _ _ 3 [.int .u32 3] from rfl) (Reps.one (show Kd.M (Kd.int .u32) _ _ _ 4 [.int .u32 4] from rfl) (Reps.one (show Kd.M (Kd.int .u32) _ _ _ 7 [.int .u32 7] from rfl) (Reps.none _ _))))))); intro v203 w32 ho33 hb hg_ hnew_; clear hg_ hnew_; (first | rw [← Ny202.out] at ho33 | (simp only [Int.reduceToNat] at ho33; rw [← Ny202.out] at ho33)); have HO204 := aM (Kd.R_lower ho33 (below_size (by repeat (first | (with_reducible first | exact HB.out | apply bA | apply bN | apply bD | refine below_set ?_ GE189.out | refine below_set ?_ GE190.out) | exact HB.out)))); replace BK189 := aM (blk_below (g := gb189) (o := .cells #[.int .u32 a1_0, .int .u32 a1_1, .int .u64 a1_2, .int .u64 a1_3, .int .u64 a1_4, .int .u64 a1_5, .int .u64 a1_6] 50 (0, 0)) (by (with_reducible repeat (first | refine kN ?_ _ | refine kD ?_ | refine kA ?_ _)); exact BK189.out) hb); replace BK190 := aM (blk_below (g := gb190) (o := .cells #[.int .i64 x191000_1, .bool x191001_1, .int .u64 x191002_1] 34 (0, 0)) (by (with_reducible repeat (first | refine kN ?_ _ | refine kD ?_ | refine kA ?_ _)); exact BK190.out) hb); replace HB := aM (below_step (by repeat (first | (with_reducible first | exact HB.out | apply bA | apply bN | apply bD | refine below_set ?_ GE189.out | refine below_set ?_ GE190.out) | exact HB.out)) hb); clear hb ho33; obtain ⟨Ao34, co34, eo34⟩ := Kd.R_slice HO204.out; subst eo34) | (go_at_call 59; (with_reducible refine (shackleref04_among.calls k1 a1_0 _ _ y202 t205 _ ?side1 ?side2 A27.out).mono ?_); (case side1 => repeat (first | exact (Kd.R_reads' HO204.out).2.2 | (with_reducible refine cA ?_ _) | (with_reducible refine cN ?_ _) | (with_reducible refine cD ?_))); (case side2 => exact (Kd.R_reads' HO204.out).2.1); rintro e w' ⟨rfl, ⟨nd, rfl⟩⟩; (try first | exact ⟨rfl, _, World.drewN_drewN _ _ _⟩ | exact ⟨rfl, _, Eq.trans (World.drewN_drewN _ _ _) (congrArg (World.drewN _) (Nat.add_assoc _ _ _))⟩); obtain ⟨hcz35_0, hcz35_1, hcz35_2, hcz35_3, hcz35_4, hcz35_5, hcz35_6, hfz35_0, hfz35_1, hfz35_2, hfz35_3, hfz35_4, hfz35_5, hfz35_6⟩ := bx7 BK189.out) | (go_at_call 31; (with_reducible refine (shackleref01_In.calls (IntKind.u64.wrap ((l0.length : Int))) a1_2 a1_4 t206 _ A28.out).mono ?_); rintro e w' ⟨rfl, ⟨nd, rfl⟩⟩; (try first | exact ⟨rfl, _, World.drewN_drewN _ _ _⟩ | exact ⟨rfl, _, Eq.trans (World.drewN_drewN _ _ _) (congrArg (World.drewN _) (Nat.add_assoc _ _ _))⟩))); go_upto_region 12 with (first | ((with_reducible refine gate_dst (N := 62) rfl ?_); refine Kd.R_lit (Kd.int .u32) _ 48 ?hg (N := 62) ?hd (xs := ([1, 2, 3, 4, 7] : List Int)) (inner := [.int .u32 1, .int .u32 2, .int .u32 3, .int .u32 4, .int .u32 7]) (ok := fun _ => True) (okp := fun _ => True) ?hr ?hp (fun _ hk => hk) trivial (Below.refl _ _) (Nat.le_refl _) (by simp) ?_; (case hd => rfl); (case hg => rfl); (case hr => first | (go_simp; done) | (go_simp; rfl)); (case hp => exact (Reps.one (show Kd.M (Kd.int .u32) _ _ _ 1 [.int .u32 1] from rfl) (Reps.one (show Kd.M (Kd.int .u32) _ _ _ 2 [.int .u32 2] from rfl) (Reps.one (show Kd.M (Kd.int .u32) _ _ _ 3 [.int .u32 3] from rfl) (Reps.one (show Kd.M (Kd.int .u32) _ _ _ 4 [.int .u32 4] from rfl) (Reps.one (show Kd.M (Kd.int .u32) _ _ _ 7 [.int .u32 7] from rfl) (Reps.none _ _))))))); intro v203 w32 ho33 hb hg_ hnew_; clear hg_ hnew_; (first | rw [← Ny202.out] at ho33 | (simp only [Int.reduceToNat] at ho33; rw [← Ny202.out] at ho33)); have HO204 := aM (Kd.R_lower ho33 (below_size (by repeat (first | (with_reducible first | exact HB.out | apply bA | apply bN | apply bD | refine below_set ?_ GE189.out | refine below_set ?_ GE190.out) | exact HB.out)))); replace BK189 := aM (blk_below (g := gb189) (o := .cells #[.int .u32 a1_0, .int .u32 a1_1, .int .u64 a1_2, .int .u64 a1_3, .int .u64 a1_4, .int .u64 a1_5, .int .u64 a1_6] 50 (0, 0)) (by (with_reducible repeat (first | refine kN ?_ _ | refine kD ?_ | refine kA ?_ _)); exact BK189.out) hb); replace BK190 := aM (blk_below (g := gb190) (o := .cells #[.int .i64 x191000_1, .bool x191001_1, .int .u64 x191002_1] 34 (0, 0)) (by (with_reducible repeat (first | refine kN ?_ _ | refine kD ?_ | refine kA ?_ _)); exact BK190.out) hb); replace HB := aM (below_step (by repeat (first | (with_reducible first | exact HB.out | apply bA | apply bN | apply bD | refine below_set ?_ GE189.out | refine below_set ?_ GE190.out) | exact HB.out)) hb); clear hb ho33; obtain ⟨Ao34, co34, eo34⟩ := Kd.R_slice HO204.out; subst eo34) | (go_at_call 59; (with_reducible refine (shackleref04_among.calls k1 a1_0 _ _ y202 t205 _ ?side1 ?side2 A27.out).mono ?_); (case side1 => repeat (first | exact (Kd.R_reads' HO204.out).2.2 | (with_reducible refine cA ?_ _) | (with_reducible refine cN ?_ _) | (with_reducible refine cD ?_))); (case side2 => exact (Kd.R_reads' HO204.out).2.1); rintro e w' ⟨rfl, ⟨nd, rfl⟩⟩; (try first | exact ⟨rfl, _, World.drewN_drewN _ _ _⟩ | exact ⟨rfl, _, Eq.trans (World.drewN_drewN _ _ _) (congrArg (World.drewN _) (Nat.add_assoc _ _ _))⟩); obtain ⟨hcz35_0, hcz35_1, hcz35_2, hcz35_3, hcz35_4, hcz35_5, hcz35_6, hfz35_0, hfz35_1, hfz35_2, hfz35_3, hfz35_4, hfz35_5, hfz35_6⟩ := bx7 BK189.out) | (go_at_call 31; (with_reducible refine (shackleref01_In.calls (IntKind.u64.wrap ((l0.length : Int))) a1_2 a1_4 t206 _ A28.out).mono ?_); rintro e w' ⟨rfl, ⟨nd, rfl⟩⟩; (try first | exact ⟨rfl, _, World.drewN_drewN _ _ _⟩ | exact ⟨rfl, _, Eq.trans (World.drewN_drewN _ _ _) (congrArg (World.drewN _) (Nat.add_assoc _ _ _))⟩))))
    (try simp only [Act.put, sA, sZ, sS])
    go_cut [76] (fun v76 wc => ∃ (kq : Nat) (x76_28 : Bool), v76 = .bool x76_28 ∧ Aside0 (shackleref04_prog.j2 kq a2 x10_1 x76_28 a1_0 a1_1 a1_2 a1_3 a1_4 a1_5 a1_6 = some (r1, r2, r3)) ∧ Aside0 (kq ≤ k1) ∧ Aside0 (wc.heap[gb189]? = some (.cells #[.int .u32 a1_0, .int .u32 a1_1, .int .u64 a1_2, .int .u64 a1_3, .int .u64 a1_4, .int .u64 a1_5, .int .u64 a1_6] 50 (0, 0))) ∧ Aside0 (wc.heap[gb190]? = some (.cells #[.int .i64 x191000_1, .bool x191001_1, .int .u64 x191002_1] 34 (0, 0))) ∧ Aside0 (Below w.heap.size w wc))
    case first =>
     have H := HC29.out; clear HC29
     by_cases c36 : t205 = true
     ·subst c36
      have H1 : (shackleref04_prog.j2 k1 a2 x10_1 (!t206) a1_0 a1_1 a1_2 a1_3 a1_4 a1_5 a1_6) = some (r1, r2, r3) := by rw [if_pos rfl] at H; exact H
      clear H; have H := H1; clear H1; have H' := aM H; clear H
      go_wp2
      repeat (go_quiet (fail); try go_wp2)
      go_meet
      case rel => exact ⟨_, (!t206), (by first | rfl | (simp; done) | (simp [*]; done)), H', ⟨by have := HK1.out; first | omega | exact Nat.le_refl _⟩, ⟨by (with_reducible repeat (first | refine kN ?_ _ | refine kD ?_ | refine kA ?_ _)); exact BK189.out⟩, ⟨by (with_reducible repeat (first | refine kN ?_ _ | refine kD ?_ | refine kA ?_ _)); exact BK190.out⟩, ⟨by repeat (first | (with_reducible first | exact HB.out | apply bA | apply bN | apply bD | refine below_set ?_ GE189.out | refine below_set ?_ GE190.out) | exact HB.out)⟩⟩
     ·replace c36 := Bool.eq_false_iff.mpr c36; subst c36
      have H1 : (shackleref04_prog.j2 k1 a2 x10_1 false a1_0 a1_1 a1_2 a1_3 a1_4 a1_5 a1_6) = some (r1, r2, r3) := by rw [if_neg (show ¬ (false = true) by decide)] at H; exact H
      clear H; have H := H1; clear H1; have H' := aM H; clear H
      go_wp2
      repeat (go_quiet (fail); try go_wp2)
      go_meet
      case rel => exact ⟨_, (false), (by first | rfl | (simp; done) | (simp [*]; done)), H', ⟨by have := HK1.out; first | omega | exact Nat.le_refl _⟩, ⟨by (with_reducible repeat (first | refine kN ?_ _ | refine kD ?_ | refine kA ?_ _)); exact BK189.out⟩, ⟨by (with_reducible repeat (first | refine kN ?_ _ | refine kD ?_ | refine kA ?_ _)); exact BK190.out⟩, ⟨by repeat (first | (with_reducible first | exact HB.out | apply bA | apply bN | apply bD | refine below_set ?_ GE189.out | refine below_set ?_ GE190.out) | exact HB.out)⟩⟩
    case rest =>
     clear HC29
     try clear c1
     try clear p1
     try clear q1
     try clear hx1
     try clear c2
     try clear p2
     try clear q2
     try clear hx2
     try clear c3
     try clear p6
     try clear c8
     try clear c13
     try clear c13b0
     try clear c15
     try clear c16
     try clear c16b0
     try clear c17
     try clear c19
     try clear p19
     try clear q19
     try clear hx19
     try clear p20
     try clear q20
     try clear hx20
     try clear c22
     try clear c24
     try clear c24b0
     try clear c25
     try clear c25b0
     try clear c26
     try clear c26b0
     try clear c26b1
     try clear c30
     try clear c32
     try clear c36
     try clear hcz18_0
     try clear hcz18_1
     try clear hcz18_2
     try clear hcz18_3
     try clear hcz18_4
     try clear hcz18_5
     try clear hcz18_6
     try clear hcz23_0
     try clear hcz23_1
     try clear hcz23_2
     try clear hcz31_0
     try clear hcz31_1
     try clear hcz31_2
     try clear hcz31_3
     try clear hcz31_4
     try clear hcz31_5
     try clear hcz31_6
     try clear hcz35_0
     try clear hcz35_1
     try clear hcz35_2
     try clear hcz35_3
     try clear hcz35_4
     try clear hcz35_5
     try clear hcz35_6
     try clear hcz9_0
     try clear hcz9_1
     try clear hcz9_2
     try clear hcz9_3
     try clear hcz9_4
     try clear hcz9_5
     try clear hcz9_6
     try clear hfz18_0
     try clear hfz18_1
     try clear hfz18_2
     try clear hfz18_3
     try clear hfz18_4
     try clear hfz18_5
     try clear hfz18_6
     try clear hfz23_0
     try clear hfz23_1
     try clear hfz23_2
     try clear hfz31_0
     try clear hfz31_1
     try clear hfz31_2
     try clear hfz31_3
     try clear hfz31_4
     try clear hfz31_5
     try clear hfz31_6
     try clear hfz35_0
     try clear hfz35_1
     try clear hfz35_2
     try clear hfz35_3
     try clear hfz35_4
     try clear hfz35_5
     try clear hfz35_6
     try clear hfz9_0
     try clear hfz9_1
     try clear hfz9_2
     try clear hfz9_3
     try clear hfz9_4
     try clear hfz9_5
     try clear hfz9_6
     try clear hx195_0
     try clear hx195_1
     try clear hx195_2
     try clear hx195_3
     try clear hx195_4
     try clear hx195_5
     try clear hx195_6
     try clear hx199_0
     try clear hx199_1
     try clear hx199_2
     try clear hx199_3
     try clear hx199_4
     try clear hx199_5
     try clear hx199_6
     try clear hx200_0
     try clear hx200_1
     try clear hx200_2
     try clear hx200_3
     try clear hx200_4
     try clear hx200_5
     try clear hx200_6
     try clear hx201_0
     try clear hx201_1
     try clear hx201_2
     try clear hx201_3
     try clear hx201_4
     try clear hx201_5
     try clear hx201_6
     try clear p1
     try clear p195
     try clear p199
     try clear p2
     try clear p200
     try clear p201
     try clear q1
     try clear q195
     try clear q199
     try clear q200
     try clear q201
     obtain ⟨kq, x76_28, rfl, HA, HJ28, BK189, BK190, HB⟩ := hcut
     cases kq with
     | zero => exact absurd HA.out (by simp [shackleref04_prog.j2])
     | succ kj28 =>
      have H := HA.out; clear HA; simp only [shackleref04_prog.j2] at H
      by_cases c37 : x76_28 = true
      ·subst c37
       have H1 : ((shackleref04_at.f 4 (IntKind.u64.wrap (a2 + 8))).bind fun bt207 => (some (bt207.1, bt207.2.1, bt207.2.2))) = some (r1, r2, r3) := by rw [if_pos rfl] at H; exact H
       clear H; have H := H1; clear H1; replace H := Option.bind_eq_some_iff.mp H; obtain ⟨⟨t207, t208, t209⟩, A380, H⟩ := H; replace H : (some (t207, t208, t209)) = some (r1, r2, r3) := H; have A38 := aM A380; clear A380; simp only [Option.some.injEq, Prod.mk.injEq] at H; obtain ⟨rfl, rfl, rfl⟩ := H
       go_wp2_with (first | (go_at_call 30; (with_reducible refine (shackleref04_at.calls 4 (IntKind.u64.wrap (a2 + 8)) t207 t208 t209 _ A38.out).mono ?_); rintro e w39 ⟨rfl, hb⟩; replace BK189 := aM (blk_below (g := gb189) (o := .cells #[.int .u32 a1_0, .int .u32 a1_1, .int .u64 a1_2, .int .u64 a1_3, .int .u64 a1_4, .int .u64 a1_5, .int .u64 a1_6] 50 (0, 0)) (by (with_reducible repeat (first | refine kN ?_ _ | refine kD ?_ | refine kA ?_ _)); exact BK189.out) hb); replace BK190 := aM (blk_below (g := gb190) (o := .cells #[.int .i64 x191000_1, .bool x191001_1, .int .u64 x191002_1] 34 (0, 0)) (by (with_reducible repeat (first | refine kN ?_ _ | refine kD ?_ | refine kA ?_ _)); exact BK190.out) hb); replace HB := aM (below_step (by repeat (first | (with_reducible first | exact HB.out | apply bA | apply bN | apply bD | refine below_set ?_ GE189.out | refine below_set ?_ GE190.out) | exact HB.out)) hb); (try clear hb); (try clear hb2); (try clear hk); (try clear hi); have hnb40 := NB190_189.out; have hnc40 := NB189_190.out; obtain ⟨hcz41_0, hcz41_1, hcz41_2, hfz41_0, hfz41_1, hfz41_2⟩ := bx3 BK190.out))
       repeat (go_quiet (fail); try go_wp2_with (first | (go_at_call 30; (with_reducible refine (shackleref04_at.calls 4 (IntKind.u64.wrap (a2 + 8)) t207 t208 t209 _ A38.out).mono ?_); rintro e w39 ⟨rfl, hb⟩; replace BK189 := aM (blk_below (g := gb189) (o := .cells #[.int .u32 a1_0, .int .u32 a1_1, .int .u64 a1_2, .int .u64 a1_3, .int .u64 a1_4, .int .u64 a1_5, .int .u64 a1_6] 50 (0, 0)) (by (with_reducible repeat (first | refine kN ?_ _ | refine kD ?_ | refine kA ?_ _)); exact BK189.out) hb); replace BK190 := aM (blk_below (g := gb190) (o := .cells #[.int .i64 x191000_1, .bool x191001_1, .int .u64 x191002_1] 34 (0, 0)) (by (with_reducible repeat (first | refine kN ?_ _ | refine kD ?_ | refine kA ?_ _)); exact BK190.out) hb); replace HB := aM (below_step (by repeat (first | (with_reducible first | exact HB.out | apply bA | apply bN | apply bD | refine below_set ?_ GE189.out | refine below_set ?_ GE190.out) | exact HB.out)) hb); (try clear hb); (try clear hb2); (try clear hk); (try clear hi); have hnb40 := NB190_189.out; have hnc40 := NB189_190.out; obtain ⟨hcz41_0, hcz41_1, hcz41_2, hfz41_0, hfz41_1, hfz41_2⟩ := bx3 BK190.out)))
       refine bodyPost_ret (results_cell_row rfl _ _ gb190 34 #[.int .i64 t207, .bool t208, .int .u64 t209] (0, 0) _ rfl (by (with_reducible repeat (first | refine kN ?_ _ | refine kD ?_ | refine kA ?_ _)); refine blk_put (cs := #[.int .i64 t207, .bool t208, .int .u64 x191002_1]) ?_ 2 _ rfl; (with_reducible repeat (first | refine kN ?_ _ | refine kD ?_ | refine kA ?_ _)); refine blk_put (cs := #[.int .i64 t207, .bool x191001_1, .int .u64 x191002_1]) ?_ 1 _ rfl; (with_reducible repeat (first | refine kN ?_ _ | refine kD ?_ | refine kA ?_ _)); refine blk_put (cs := #[.int .i64 x191000_1, .bool x191001_1, .int .u64 x191002_1]) ?_ 0 _ rfl; (with_reducible repeat (first | refine kN ?_ _ | refine kD ?_ | refine kA ?_ _)); exact BK190.out) Tryd.underlying34 rfl (by kernel_rfl)) rfl ?_; exact ⟨by first | rfl | (simp [errW_none, errW_some] <;> rfl) | (simp [*, errW_none, errW_some] <;> rfl), by repeat (first | (with_reducible first | exact HB.out | apply bA | apply bN | apply bD | refine below_set ?_ GE189.out | refine below_set ?_ GE190.out) | exact HB.out)⟩
      ·replace c37 := Bool.eq_false_iff.mpr c37; subst c37
       have H1 : ((shackleref04_among.f kj28 a1_0 (([1, 2, 7, 1685382482] : List Int))).bind fun t213 => ((shackleref01_In.f 140737488355328 a1_3 a1_5).bind fun t214 => (if t213 = true then (shackleref04_prog.j3 kj28 a2 x10_1 (!t214) a1_0 a1_1 a1_2 a1_3 a1_4 a1_5 a1_6) else (shackleref04_prog.j3 kj28 a2 x10_1 false a1_0 a1_1 a1_2 a1_3 a1_4 a1_5 a1_6)))) = some (r1, r2, r3) := by rw [if_neg (show ¬ (false = true) by decide)] at H; exact H
       clear H; have H := H1; clear H1; obtain ⟨y210, hy210⟩ : ∃ y_ : List Int, y_ = (([1, 2, 7, 1685382482] : List Int)) := ⟨_, rfl⟩
       replace H : ((shackleref04_among.f kj28 a1_0 y210).bind fun t213 => ((shackleref01_In.f 140737488355328 a1_3 a1_5).bind fun t214 => (if t213 = true then (shackleref04_prog.j3 kj28 a2 x10_1 (!t214) a1_0 a1_1 a1_2 a1_3 a1_4 a1_5 a1_6) else (shackleref04_prog.j3 kj28 a2 x10_1 false a1_0 a1_1 a1_2 a1_3 a1_4 a1_5 a1_6)))) = some (r1, r2, r3) := by first | (rw [hy210]; with_reducible exact H) | (have H2_ := (Option.bind_some _ _).symm.trans H; rw [hy210]; with_reducible exact H2_) | (have H2_ := (Option.bind_some _ _).symm.trans H; with_reducible exact H2_) | with_reducible exact H | (rw [hy210]; exact H) | exact H
       have Ny210 := aM hy210; clear hy210; replace H := Option.bind_eq_some_iff.mp H; obtain ⟨t213, A420, H⟩ := H; replace H : ((shackleref01_In.f 140737488355328 a1_3 a1_5).bind fun t214 => (if t213 = true then (shackleref04_prog.j3 kj28 a2 x10_1 (!t214) a1_0 a1_1 a1_2 a1_3 a1_4 a1_5 a1_6) else (shackleref04_prog.j3 kj28 a2 x10_1 false a1_0 a1_1 a1_2 a1_3 a1_4 a1_5 a1_6))) = some (r1, r2, r3) := H; have A42 := aM A420; clear A420; replace H := Option.bind_eq_some_iff.mp H; obtain ⟨t214, A430, H⟩ := H; replace H : (if t213 = true then (shackleref04_prog.j3 kj28 a2 x10_1 (!t214) a1_0 a1_1 a1_2 a1_3 a1_4 a1_5 a1_6) else (shackleref04_prog.j3 kj28 a2 x10_1 false a1_0 a1_1 a1_2 a1_3 a1_4 a1_5 a1_6)) = some (r1, r2, r3) := H; have A43 := aM A430; clear A430; have HC44 := aM H; clear H; have hnb45 := NB189_190.out; have hnc45 := NB190_189.out; obtain ⟨hcz46_0, hcz46_1, hcz46_2, hcz46_3, hcz46_4, hcz46_5, hcz46_6, hfz46_0, hfz46_1, hfz46_2, hfz46_3, hfz46_4, hfz46_5, hfz46_6⟩ := bx7 BK189.out
       go_upto_region 16 with (first | ((with_reducible refine gate_dst (N := 82) rfl ?_); refine Kd.R_lit (Kd.int .u32) _ 48 ?hg (N := 82) ?hd (xs := ([1, 2, 7, 1685382482] : List Int)) (inner := [.int .u32 1, .int .u32 2, .int .u32 7, .int .u32 1685382482]) (ok := fun _ => True) (okp := fun _ => True) ?hr ?hp (fun _ hk => hk) trivial (Below.refl _ _) (Nat.le_refl _) (by simp) ?_; (case hd => rfl); (case hg => rfl); (case hr => first | (go_simp; done) | (go_simp; rfl)); (case hp => exact (Reps.one (show Kd.M (Kd.int .u32) _ _ _ 1 [.int .u32 1] from rfl) (Reps.one (show Kd.M (Kd.int .u32) _ _ _ 2 [.int .u32 2] from rfl) (Reps.one (show Kd.M (Kd.int .u32) _ _ _ 7 [.int .u32 7] from rfl) (Reps.one (show Kd.M (Kd.int .u32) _ _ _ 1685382482 [.int .u32 1685382482] from rfl) (Reps.none _ _)))))); intro v211 w47 ho48 hb hg_ hnew_; clear hg_ hnew_; (first | rw [← Ny210.out] at ho48 | (simp only [Int.reduceToNat] at ho48; rw [← Ny210.out] at ho48)); have HO212 := aM (Kd.R_lower ho48 (below_size (by repeat (first | (with_reducible first | exact HB.out | apply bA | apply bN | apply bD | refine below_set ?_ GE189.out | refine below_set ?_ GE190.out) | exact HB.out)))); replace BK189 := aM (blk_below (g := gb189) (o := .cells #[.int .u32 a1_0, .int .u32 a1_1, .int .u64 a1_2, .int .u64 a1_3, .int .u64 a1_4, .int .u64 a1_5, .int .u64 a1_6] 50 (0, 0)) (by (with_reducible repeat (first | refine kN ?_ _ | refine kD ?_ | refine kA ?_ _)); exact BK189.out) hb); replace BK190 := aM (blk_below (g := gb190) (o := .cells #[.int .i64 x191000_1, .bool x191001_1, .int .u64 x191002_1] 34 (0, 0)) (by (with_reducible repeat (first | refine kN ?_ _ | refine kD ?_ | refine kA ?_ _)); exact BK190.out) hb); replace HB := aM (below_step (by repeat (first | (with_reducible first | exact HB.out | apply bA | apply bN | apply bD | refine below_set ?_ GE189.out | refine below_set ?_ GE190.out) | exact HB.out)) hb); clear hb ho48; obtain ⟨Ao49, co49, eo49⟩ := Kd.R_slice HO212.out; subst eo49) | (go_at_call 59; (with_reducible refine (shackleref04_among.calls kj28 a1_0 _ _ y210 t213 _ ?side1 ?side2 A42.out).mono ?_); (case side1 => repeat (first | exact (Kd.R_reads' HO212.out).2.2 | (with_reducible refine cA ?_ _) | (with_reducible refine cN ?_ _) | (with_reducible refine cD ?_))); (case side2 => exact (Kd.R_reads' HO212.out).2.1); rintro e w' ⟨rfl, ⟨nd, rfl⟩⟩; (try first | exact ⟨rfl, _, World.drewN_drewN _ _ _⟩ | exact ⟨rfl, _, Eq.trans (World.drewN_drewN _ _ _) (congrArg (World.drewN _) (Nat.add_assoc _ _ _))⟩); obtain ⟨hcz50_0, hcz50_1, hcz50_2, hcz50_3, hcz50_4, hcz50_5, hcz50_6, hfz50_0, hfz50_1, hfz50_2, hfz50_3, hfz50_4, hfz50_5, hfz50_6⟩ := bx7 BK189.out) | (go_at_call 31; (with_reducible refine (shackleref01_In.calls 140737488355328 a1_3 a1_5 t214 _ A43.out).mono ?_); rintro e w' ⟨rfl, ⟨nd, rfl⟩⟩; (try first | exact ⟨rfl, _, World.drewN_drewN _ _ _⟩ | exact ⟨rfl, _, Eq.trans (World.drewN_drewN _ _ _) (congrArg (World.drewN _) (Nat.add_assoc _ _ _))⟩)))
       repeat (go_quiet (first | ((with_reducible refine gate_dst (N := 82) rfl ?_); refine Kd.R_lit (Kd.int .u32) _ 48 ?hg (N := 82) ?hd (xs := ([1, 2, 7, 1685382482] : List Int)) (inner := [.int .u32 1, .int .u32 2, .int .u32 7, .int .u32 1685382482]) (ok := fun _ => True) (okp := fun _ => True) ?hr ?hp (fun _ hk => hk) trivial (Below.refl _ _) (Nat.le_refl _) (by simp) ?_; (case hd => rfl); (case hg => rfl); (case hr => first | (go_simp; done) | (go_simp; rfl)); (case hp => exact (Reps.one (show Kd.M (Kd.int .u32) _ _ _ 1 [.int .u32 1] from rfl) (Reps.one (show Kd.M (Kd.int .u32) _ _ _ 2 [.int .u32 2] from rfl) (Reps.one (show Kd.M (Kd.int .u32) _ _ _ 7 [.int .u32 7] from rfl) (Reps.one (show Kd.M (Kd.int .u32) _ _ _ 1685382482 [.int .u32 1685382482] from rfl) (Reps.none _ _)))))); intro v211 w47 ho48 hb hg_ hnew_; clear hg_ hnew_; (first | rw [← Ny210.out] at ho48 | (simp only [Int.reduceToNat] at ho48; rw [← Ny210.out] at ho48)); have HO212 := aM (Kd.R_lower ho48 (below_size (by repeat (first | (with_reducible first | exact HB.out | apply bA | apply bN | apply bD | refine below_set ?_ GE189.out | refine below_set ?_ GE190.out) | exact HB.out)))); replace BK189 := aM (blk_below (g := gb189) (o := .cells #[.int .u32 a1_0, .int .u32 a1_1, .int .u64 a1_2, .int .u64 a1_3, .int .u64 a1_4, .int .u64 a1_5, .int .u64 a1_6] 50 (0, 0)) (by (with_reducible repeat (first | refine kN ?_ _ | refine kD ?_ | refine kA ?_ _)); exact BK189.out) hb); replace BK190 := aM (blk_below (g := gb190) (o := .cells #[.int .i64 x191000_1, .bool x191001_1, .int .u64 x191002_1] 34 (0, 0)) (by (with_reducible repeat (first | refine kN ?_ _ | refine kD ?_ | refine kA ?_ _)); exact BK190.out) hb); replace HB := aM (below_step (by repeat (first | (with_reducible first | exact HB.out | apply bA | apply bN | apply bD | refine below_set ?_ GE189.out | refine below_set ?_ GE190.out) | exact HB.out)) hb); clear hb ho48; obtain ⟨Ao49, co49, eo49⟩ := Kd.R_slice HO212.out; subst eo49) | (go_at_call 59; (with_reducible refine (shackleref04_among.calls kj28 a1_0 _ _ y210 t213 _ ?side1 ?side2 A42.out).mono ?_); (case side1 => repeat (first | exact (Kd.R_reads' HO212.out).2.2 | (with_reducible refine cA ?_ _) | (with_reducible refine cN ?_ _) | (with_reducible refine cD ?_))); (case side2 => exact (Kd.R_reads' HO212.out).2.1); rintro e w' ⟨rfl, ⟨nd, rfl⟩⟩; (try first | exact ⟨rfl, _, World.drewN_drewN _ _ _⟩ | exact ⟨rfl, _, Eq.trans (World.drewN_drewN _ _ _) (congrArg (World.drewN _) (Nat.add_assoc _ _ _))⟩); obtain ⟨hcz50_0, hcz50_1, hcz50_2, hcz50_3, hcz50_4, hcz50_5, hcz50_6, hfz50_0, hfz50_1, hfz50_2, hfz50_3, hfz50_4, hfz50_5, hfz50_6⟩ := bx7 BK189.out) | (go_at_call 31; (with_reducible refine (shackleref01_In.calls 140737488355328 a1_3 a1_5 t214 _ A43.out).mono ?_); rintro e w' ⟨rfl, ⟨nd, rfl⟩⟩; (try first | exact ⟨rfl, _, World.drewN_drewN _ _ _⟩ | exact ⟨rfl, _, Eq.trans (World.drewN_drewN _ _ _) (congrArg (World.drewN _) (Nat.add_assoc _ _ _))⟩))); go_upto_region 16 with (first | ((with_reducible refine gate_dst (N := 82) rfl ?_); refine Kd.R_lit (Kd.int .u32) _ 48 ?hg (N := 82) ?hd (xs := ([1, 2, 7, 1685382482] : List Int)) (inner := [.int .u32 1, .int .u32 2, .int .u32 7, .int .u32 1685382482]) (ok := fun _ => True) (okp := fun _ => True) ?hr ?hp (fun _ hk => hk) trivial (Below.refl _ _) (Nat.le_refl _) (by simp) ?_; (case hd => rfl); (case hg => rfl); (case hr => first | (go_simp; done) | (go_simp; rfl)); (case hp => exact (Reps.one (show Kd.M (Kd.int .u32) _ _ _ 1 [.int .u32 1] from rfl) (Reps.one (show Kd.M (Kd.int .u32) _ _ _ 2 [.int .u32 2] from rfl) (Reps.one (show Kd.M (Kd.int .u32) _ _ _ 7 [.int .u32 7] from rfl) (Reps.one (show Kd.M (Kd.int .u32) _ _ _ 1685382482 [.int .u32 1685382482] from rfl) (Reps.none _ _)))))); intro v211 w47 ho48 hb hg_ hnew_; clear hg_ hnew_; (first | rw [← Ny210.out] at ho48 | (simp only [Int.reduceToNat] at ho48; rw [← Ny210.out] at ho48)); have HO212 := aM (Kd.R_lower ho48 (below_size (by repeat (first | (with_reducible first | exact HB.out | apply bA | apply bN | apply bD | refine below_set ?_ GE189.out | refine below_set ?_ GE190.out) | exact HB.out)))); replace BK189 := aM (blk_below (g := gb189) (o := .cells #[.int .u32 a1_0, .int .u32 a1_1, .int .u64 a1_2, .int .u64 a1_3, .int .u64 a1_4, .int .u64 a1_5, .int .u64 a1_6] 50 (0, 0)) (by (with_reducible repeat (first | refine kN ?_ _ | refine kD ?_ | refine kA ?_ _)); exact BK189.out) hb); replace BK190 := aM (blk_below (g := gb190) (o := .cells #[.int .i64 x191000_1, .bool x191001_1, .int .u64 x191002_1] 34 (0, 0)) (by (with_reducible repeat (first | refine kN ?_ _ | refine kD ?_ | refine kA ?_ _)); exact BK190.out) hb); replace HB := aM (below_step (by repeat (first | (with_reducible first | exact HB.out | apply bA | apply bN | apply bD | refine below_set ?_ GE189.out | refine below_set ?_ GE190.out) | exact HB.out)) hb); clear hb ho48; obtain ⟨Ao49, co49, eo49⟩ := Kd.R_slice HO212.out; subst eo49) | (go_at_call 59; (with_reducible refine (shackleref04_among.calls kj28 a1_0 _ _ y210 t213 _ ?side1 ?side2 A42.out).mono ?_); (case side1 => repeat (first | exact (Kd.R_reads' HO212.out).2.2 | (with_reducible refine cA ?_ _) | (with_reducible refine cN ?_ _) | (with_reducible refine cD ?_))); (case side2 => exact (Kd.R_reads' HO212.out).2.1); rintro e w' ⟨rfl, ⟨nd, rfl⟩⟩; (try first | exact ⟨rfl, _, World.drewN_drewN _ _ _⟩ | exact ⟨rfl, _, Eq.trans (World.drewN_drewN _ _ _) (congrArg (World.drewN _) (Nat.add_assoc _ _ _))⟩); obtain ⟨hcz50_0, hcz50_1, hcz50_2, hcz50_3, hcz50_4, hcz50_5, hcz50_6, hfz50_0, hfz50_1, hfz50_2, hfz50_3, hfz50_4, hfz50_5, hfz50_6⟩ := bx7 BK189.out) | (go_at_call 31; (with_reducible refine (shackleref01_In.calls 140737488355328 a1_3 a1_5 t214 _ A43.out).mono ?_); rintro e w' ⟨rfl, ⟨nd, rfl⟩⟩; (try first | exact ⟨rfl, _, World.drewN_drewN _ _ _⟩ | exact ⟨rfl, _, Eq.trans (World.drewN_drewN _ _ _) (congrArg (World.drewN _) (Nat.add_assoc _ _ _))⟩))))
       (try simp only [Act.put, sA, sZ, sS])
       go_cut [93] (fun v93 wc => ∃ (kq : Nat) (x93_43 : Bool), v93 = .bool x93_43 ∧ Aside0 (shackleref04_prog.j3 kq a2 x10_1 x93_43 a1_0 a1_1 a1_2 a1_3 a1_4 a1_5 a1_6 = some (r1, r2, r3)) ∧ Aside0 (kq ≤ kj28) ∧ Aside0 (wc.heap[gb189]? = some (.cells #[.int .u32 a1_0, .int .u32 a1_1, .int .u64 a1_2, .int .u64 a1_3, .int .u64 a1_4, .int .u64 a1_5, .int .u64 a1_6] 50 (0, 0))) ∧ Aside0 (wc.heap[gb190]? = some (.cells #[.int .i64 x191000_1, .bool x191001_1, .int .u64 x191002_1] 34 (0, 0))) ∧ Aside0 (Below w.heap.size w wc))
       case first =>
        have H := HC44.out; clear HC44
        by_cases c51 : t213 = true
        ·subst c51
         have H1 : (shackleref04_prog.j3 kj28 a2 x10_1 (!t214) a1_0 a1_1 a1_2 a1_3 a1_4 a1_5 a1_6) = some (r1, r2, r3) := by rw [if_pos rfl] at H; exact H
         clear H; have H := H1; clear H1; have H' := aM H; clear H
         go_wp2
         repeat (go_quiet (fail); try go_wp2)
         go_meet
         case rel => exact ⟨_, (!t214), (by first | rfl | (simp; done) | (simp [*]; done)), H', ⟨by have := HK1.out; have := HJ28.out; first | omega | exact Nat.le_refl _⟩, ⟨by (with_reducible repeat (first | refine kN ?_ _ | refine kD ?_ | refine kA ?_ _)); exact BK189.out⟩, ⟨by (with_reducible repeat (first | refine kN ?_ _ | refine kD ?_ | refine kA ?_ _)); exact BK190.out⟩, ⟨by repeat (first | (with_reducible first | exact HB.out | apply bA | apply bN | apply bD | refine below_set ?_ GE189.out | refine below_set ?_ GE190.out) | exact HB.out)⟩⟩
        ·replace c51 := Bool.eq_false_iff.mpr c51; subst c51
         have H1 : (shackleref04_prog.j3 kj28 a2 x10_1 false a1_0 a1_1 a1_2 a1_3 a1_4 a1_5 a1_6) = some (r1, r2, r3) := by rw [if_neg (show ¬ (false = true) by decide)] at H; exact H
         clear H; have H := H1; clear H1; have H' := aM H; clear H
         go_wp2
         repeat (go_quiet (fail); try go_wp2)
         go_meet
         case rel => exact ⟨_, (false), (by first | rfl | (simp; done) | (simp [*]; done)), H', ⟨by have := HK1.out; have := HJ28.out; first | omega | exact Nat.le_refl _⟩, ⟨by (with_reducible repeat (first | refine kN ?_ _ | refine kD ?_ | refine kA ?_ _)); exact BK189.out⟩, ⟨by (with_reducible repeat (first | refine kN ?_ _ | refine kD ?_ | refine kA ?_ _)); exact BK190.out⟩, ⟨by repeat (first | (with_reducible first | exact HB.out | apply bA | apply bN | apply bD | refine below_set ?_ GE189.out | refine below_set ?_ GE190.out) | exact HB.out)⟩⟩
       case rest =>
        clear HC44
        try clear c1
        try clear p1
        try clear q1
        try clear hx1
        try clear c2
        try clear p2
        try clear q2
        try clear hx2
        try clear c3
        try clear c4
        try clear c5
        try clear p6
        try clear c8
        try clear c13
        try clear c13b0
        try clear c15
        try clear c16
        try clear c16b0
        try clear c17
        try clear c19
        try clear p19
        try clear q19
        try clear hx19
        try clear p20
        try clear q20
        try clear hx20
        try clear c22
        try clear c24
        try clear c24b0
        try clear c25
        try clear c25b0
        try clear c26
        try clear c26b0
        try clear c26b1
        try clear c30
        try clear c32
        try clear c36
        try clear c37
        try clear c40
        try clear c45
        try clear c51
        try clear hcz18_0
        try clear hcz18_1
        try clear hcz18_2
        try clear hcz18_3
        try clear hcz18_4
        try clear hcz18_5
        try clear hcz18_6
        try clear hcz23_0
        try clear hcz23_1
        try clear hcz23_2
        try clear hcz31_0
        try clear hcz31_1
        try clear hcz31_2
        try clear hcz31_3
        try clear hcz31_4
        try clear hcz31_5
        try clear hcz31_6
        try clear hcz35_0
        try clear hcz35_1
        try clear hcz35_2
        try clear hcz35_3
        try clear hcz35_4
        try clear hcz35_5
        try clear hcz35_6
        try clear hcz41_0
        try clear hcz41_1
        try clear hcz41_2
        try clear hcz46_0
        try clear hcz46_1
        try clear hcz46_2
        try clear hcz46_3
        try clear hcz46_4
        try clear hcz46_5
        try clear hcz46_6
        try clear hcz50_0
        try clear hcz50_1
        try clear hcz50_2
        try clear hcz50_3
        try clear hcz50_4
        try clear hcz50_5
        try clear hcz50_6
        try clear hcz9_0
        try clear hcz9_1
        try clear hcz9_2
        try clear hcz9_3
        try clear hcz9_4
        try clear hcz9_5
        try clear hcz9_6
        try clear hfz18_0
        try clear hfz18_1
        try clear hfz18_2
        try clear hfz18_3
        try clear hfz18_4
        try clear hfz18_5
        try clear hfz18_6
        try clear hfz23_0
        try clear hfz23_1
        try clear hfz23_2
        try clear hfz31_0
        try clear hfz31_1
        try clear hfz31_2
        try clear hfz31_3
        try clear hfz31_4
        try clear hfz31_5
        try clear hfz31_6
        try clear hfz35_0
        try clear hfz35_1
        try clear hfz35_2
        try clear hfz35_3
        try clear hfz35_4
        try clear hfz35_5
        try clear hfz35_6
        try clear hfz41_0
        try clear hfz41_1
        try clear hfz41_2
        try clear hfz46_0
        try clear hfz46_1
        try clear hfz46_2
        try clear hfz46_3
        try clear hfz46_4
        try clear hfz46_5
        try clear hfz46_6
        try clear hfz50_0
        try clear hfz50_1
        try clear hfz50_2
        try clear hfz50_3
        try clear hfz50_4
        try clear hfz50_5
        try clear hfz50_6
        try clear hfz9_0
        try clear hfz9_1
        try clear hfz9_2
        try clear hfz9_3
        try clear hfz9_4
        try clear hfz9_5
        try clear hfz9_6
        try clear hx195_0
        try clear hx195_1
        try clear hx195_2
        try clear hx195_3
        try clear hx195_4
        try clear hx195_5
        try clear hx195_6
        try clear hx199_0
        try clear hx199_1
        try clear hx199_2
        try clear hx199_3
        try clear hx199_4
        try clear hx199_5
        try clear hx199_6
        try clear hx200_0
        try clear hx200_1
        try clear hx200_2
        try clear hx200_3
        try clear hx200_4
        try clear hx200_5
        try clear hx200_6
        try clear hx201_0
        try clear hx201_1
        try clear hx201_2
        try clear hx201_3
        try clear hx201_4
        try clear hx201_5
        try clear hx201_6
        try clear p1
        try clear p19
        try clear p195
        try clear p199
        try clear p2
        try clear p20
        try clear p200
        try clear p201
        try clear p6
        try clear q1
        try clear q19
        try clear q195
        try clear q199
        try clear q2
        try clear q20
        try clear q200
        try clear q201
        obtain ⟨kq, x93_43, rfl, HA, HJ43, BK189, BK190, HB⟩ := hcut
        cases kq with
        | zero => exact absurd HA.out (by simp [shackleref04_prog.j3])
        | succ kj43 =>
         have H := HA.out; clear HA; simp only [shackleref04_prog.j3] at H
         by_cases c52 : x93_43 = true
         ·subst c52
          have H1 : ((shackleref04_at.f 4 (IntKind.u64.wrap (a2 + 16))).bind fun bt215 => (some (bt215.1, bt215.2.1, bt215.2.2))) = some (r1, r2, r3) := by rw [if_pos rfl] at H; exact H
          clear H; have H := H1; clear H1; replace H := Option.bind_eq_some_iff.mp H; obtain ⟨⟨t215, t216, t217⟩, A530, H⟩ := H; replace H : (some (t215, t216, t217)) = some (r1, r2, r3) := H; have A53 := aM A530; clear A530; simp only [Option.some.injEq, Prod.mk.injEq] at H; obtain ⟨rfl, rfl, rfl⟩ := H
          go_wp2_with (first | (go_at_call 30; (with_reducible refine (shackleref04_at.calls 4 (IntKind.u64.wrap (a2 + 16)) t215 t216 t217 _ A53.out).mono ?_); rintro e w54 ⟨rfl, hb⟩; replace BK189 := aM (blk_below (g := gb189) (o := .cells #[.int .u32 a1_0, .int .u32 a1_1, .int .u64 a1_2, .int .u64 a1_3, .int .u64 a1_4, .int .u64 a1_5, .int .u64 a1_6] 50 (0, 0)) (by (with_reducible repeat (first | refine kN ?_ _ | refine kD ?_ | refine kA ?_ _)); exact BK189.out) hb); replace BK190 := aM (blk_below (g := gb190) (o := .cells #[.int .i64 x191000_1, .bool x191001_1, .int .u64 x191002_1] 34 (0, 0)) (by (with_reducible repeat (first | refine kN ?_ _ | refine kD ?_ | refine kA ?_ _)); exact BK190.out) hb); replace HB := aM (below_step (by repeat (first | (with_reducible first | exact HB.out | apply bA | apply bN | apply bD | refine below_set ?_ GE189.out | refine below_set ?_ GE190.out) | exact HB.out)) hb); (try clear hb); (try clear hb2); (try clear hk); (try clear hi); have hnb55 := NB190_189.out; have hnc55 := NB189_190.out; obtain ⟨hcz56_0, hcz56_1, hcz56_2, hfz56_0, hfz56_1, hfz56_2⟩ := bx3 BK190.out))
          repeat (go_quiet (fail); try go_wp2_with (first | (go_at_call 30; (with_reducible refine (shackleref04_at.calls 4 (IntKind.u64.wrap (a2 + 16)) t215 t216 t217 _ A53.out).mono ?_); rintro e w54 ⟨rfl, hb⟩; replace BK189 := aM (blk_below (g := gb189) (o := .cells #[.int .u32 a1_0, .int .u32 a1_1, .int .u64 a1_2, .int .u64 a1_3, .int .u64 a1_4, .int .u64 a1_5, .int .u64 a1_6] 50 (0, 0)) (by (with_reducible repeat (first | refine kN ?_ _ | refine kD ?_ | refine kA ?_ _)); exact BK189.out) hb); replace BK190 := aM (blk_below (g := gb190) (o := .cells #[.int .i64 x191000_1, .bool x191001_1, .int .u64 x191002_1] 34 (0, 0)) (by (with_reducible repeat (first | refine kN ?_ _ | refine kD ?_ | refine kA ?_ _)); exact BK190.out) hb); replace HB := aM (below_step (by repeat (first | (with_reducible first | exact HB.out | apply bA | apply bN | apply bD | refine below_set ?_ GE189.out | refine below_set ?_ GE190.out) | exact HB.out)) hb); (try clear hb); (try clear hb2); (try clear hk); (try clear hi); have hnb55 := NB190_189.out; have hnc55 := NB189_190.out; obtain ⟨hcz56_0, hcz56_1, hcz56_2, hfz56_0, hfz56_1, hfz56_2⟩ := bx3 BK190.out)))
          refine bodyPost_ret (results_cell_row rfl _ _ gb190 34 #[.int .i64 t215, .bool t216, .int .u64 t217] (0, 0) _ rfl (by (with_reducible repeat (first | refine kN ?_ _ | refine kD ?_ | refine kA ?_ _)); refine blk_put (cs := #[.int .i64 t215, .bool t216, .int .u64 x191002_1]) ?_ 2 _ rfl; (with_reducible repeat (first | refine kN ?_ _ | refine kD ?_ | refine kA ?_ _)); refine blk_put (cs := #[.int .i64 t215, .bool x191001_1, .int .u64 x191002_1]) ?_ 1 _ rfl; (with_reducible repeat (first | refine kN ?_ _ | refine kD ?_ | refine kA ?_ _)); refine blk_put (cs := #[.int .i64 x191000_1, .bool x191001_1, .int .u64 x191002_1]) ?_ 0 _ rfl; (with_reducible repeat (first | refine kN ?_ _ | refine kD ?_ | refine kA ?_ _)); exact BK190.out) Tryd.underlying34 rfl (by kernel_rfl)) rfl ?_; exact ⟨by first | rfl | (simp [errW_none, errW_some] <;> rfl) | (simp [*, errW_none, errW_some] <;> rfl), by repeat (first | (with_reducible first | exact HB.out | apply bA | apply bN | apply bD | refine below_set ?_ GE189.out | refine below_set ?_ GE190.out) | exact HB.out)⟩
         ·replace c52 := Bool.eq_false_iff.mpr c52; subst c52
          have H1 : (if a1_0 = 1 then (shackleref04_prog.j4 kj43 a2 x10_1 false a1_0 a1_1 a1_2 a1_3 a1_4 a1_5 a1_6) else (shackleref04_prog.j4 kj43 a2 x10_1 (a1_0 != 7) a1_0 a1_1 a1_2 a1_3 a1_4 a1_5 a1_6)) = some (r1, r2, r3) := by rw [if_neg (show ¬ (false = true) by decide)] at H; exact H
          clear H; have H := H1; clear H1; have HC57 := aM H; clear H
          go_upto_region 18 with (fail)
          repeat (go_quiet (fail); go_upto_region 18 with (fail))
          go_cut [104] (fun v104 wc => ∃ (kq : Nat) (x104_56 : Bool), v104 = .bool x104_56 ∧ Aside0 (shackleref04_prog.j4 kq a2 x10_1 x104_56 a1_0 a1_1 a1_2 a1_3 a1_4 a1_5 a1_6 = some (r1, r2, r3)) ∧ Aside0 (kq ≤ kj43) ∧ Aside0 (wc.heap[gb189]? = some (.cells #[.int .u32 a1_0, .int .u32 a1_1, .int .u64 a1_2, .int .u64 a1_3, .int .u64 a1_4, .int .u64 a1_5, .int .u64 a1_6] 50 (0, 0))) ∧ Aside0 (wc.heap[gb190]? = some (.cells #[.int .i64 x191000_1, .bool x191001_1, .int .u64 x191002_1] 34 (0, 0))) ∧ Aside0 (Below w.heap.size w wc))
          case first =>
           have H := HC57.out; clear HC57
           by_cases c58 : a1_0 = 1
           ·rw [if_pos c58] at H; have c58b0 : (a1_0 == 1) = true := beq_iff_eq.mpr c58; have c58b1 : (a1_0 != 1) = false := bne_eq_false_iff_eq.mpr c58; clear c58
            (first | rw [c58b0] | (simp only [i64_w, i32_w]; rw [c58b0]) | skip)
            have H' := aM H; clear H; have hnb59 := NB189_190.out; have hnc59 := NB190_189.out; obtain ⟨hcz60_0, hcz60_1, hcz60_2, hcz60_3, hcz60_4, hcz60_5, hcz60_6, hfz60_0, hfz60_1, hfz60_2, hfz60_3, hfz60_4, hfz60_5, hfz60_6⟩ := bx7 BK189.out
            go_wp2
            repeat (go_quiet (fail); try go_wp2)
            go_meet
            case rel => exact ⟨_, (false), (by first | rfl | (simp; done) | (simp [*]; done)), H', ⟨by have := HK1.out; have := HJ28.out; have := HJ43.out; first | omega | exact Nat.le_refl _⟩, ⟨by (with_reducible repeat (first | refine kN ?_ _ | refine kD ?_ | refine kA ?_ _)); exact BK189.out⟩, ⟨by (with_reducible repeat (first | refine kN ?_ _ | refine kD ?_ | refine kA ?_ _)); exact BK190.out⟩, ⟨by repeat (first | (with_reducible first | exact HB.out | apply bA | apply bN | apply bD | refine below_set ?_ GE189.out | refine below_set ?_ GE190.out) | exact HB.out)⟩⟩
           ·rw [if_neg c58] at H; have c58b0 : (a1_0 == 1) = false := beq_eq_false_iff_ne.mpr c58; have c58b1 : (a1_0 != 1) = true := bne_iff_ne.mpr c58
            (first | rw [c58b0] | (simp only [i64_w, i32_w]; rw [c58b0]) | skip)
            have H' := aM H; clear H; have hnb61 := NB189_190.out; have hnc61 := NB190_189.out; obtain ⟨hcz62_0, hcz62_1, hcz62_2, hcz62_3, hcz62_4, hcz62_5, hcz62_6, hfz62_0, hfz62_1, hfz62_2, hfz62_3, hfz62_4, hfz62_5, hfz62_6⟩ := bx7 BK189.out
            go_wp2
            repeat (go_quiet (fail); try go_wp2)
            go_meet
            case rel => exact ⟨_, ((a1_0 != 7)), (by first | rfl | (simp; done) | (simp [*]; done)), H', ⟨by have := HK1.out; have := HJ28.out; have := HJ43.out; first | omega | exact Nat.le_refl _⟩, ⟨by (with_reducible repeat (first | refine kN ?_ _ | refine kD ?_ | refine kA ?_ _)); exact BK189.out⟩, ⟨by (with_reducible repeat (first | refine kN ?_ _ | refine kD ?_ | refine kA ?_ _)); exact BK190.out⟩, ⟨by repeat (first | (with_reducible first | exact HB.out | apply bA | apply bN | apply bD | refine below_set ?_ GE189.out | refine below_set ?_ GE190.out) | exact HB.out)⟩⟩
          case rest =>
           clear HC57
           try clear c1
           try clear p1
           try clear q1
           try clear hx1
           try clear c2
           try clear p2
           try clear q2
           try clear hx2
           try clear c3
           try clear c4
           try clear c5
           try clear c6
           try clear p6
           try clear c8
           try clear c13
           try clear c13b0
           try clear c15
           try clear c16
           try clear c16b0
           try clear c17
           try clear c19
           try clear p19
           try clear q19
           try clear hx19
           try clear p20
           try clear q20
           try clear hx20
           try clear c22
           try clear c24
           try clear c24b0
           try clear c25
           try clear c25b0
           try clear c26
           try clear c26b0
           try clear c26b1
           try clear c30
           try clear c32
           try clear c36
           try clear c37
           try clear c40
           try clear c45
           try clear c51
           try clear c52
           try clear c55
           try clear c58
           try clear c58b0
           try clear c58b1
           try clear c59
           try clear c61
           try clear hcz18_0
           try clear hcz18_1
           try clear hcz18_2
           try clear hcz18_3
           try clear hcz18_4
           try clear hcz18_5
           try clear hcz18_6
           try clear hcz23_0
           try clear hcz23_1
           try clear hcz23_2
           try clear hcz31_0
           try clear hcz31_1
           try clear hcz31_2
           try clear hcz31_3
           try clear hcz31_4
           try clear hcz31_5
           try clear hcz31_6
           try clear hcz35_0
           try clear hcz35_1
           try clear hcz35_2
           try clear hcz35_3
           try clear hcz35_4
           try clear hcz35_5
           try clear hcz35_6
           try clear hcz41_0
           try clear hcz41_1
           try clear hcz41_2
           try clear hcz46_0
           try clear hcz46_1
           try clear hcz46_2
           try clear hcz46_3
           try clear hcz46_4
           try clear hcz46_5
           try clear hcz46_6
           try clear hcz50_0
           try clear hcz50_1
           try clear hcz50_2
           try clear hcz50_3
           try clear hcz50_4
           try clear hcz50_5
           try clear hcz50_6
           try clear hcz56_0
           try clear hcz56_1
           try clear hcz56_2
           try clear hcz60_0
           try clear hcz60_1
           try clear hcz60_2
           try clear hcz60_3
           try clear hcz60_4
           try clear hcz60_5
           try clear hcz60_6
           try clear hcz62_0
           try clear hcz62_1
           try clear hcz62_2
           try clear hcz62_3
           try clear hcz62_4
           try clear hcz62_5
           try clear hcz62_6
           try clear hcz9_0
           try clear hcz9_1
           try clear hcz9_2
           try clear hcz9_3
           try clear hcz9_4
           try clear hcz9_5
           try clear hcz9_6
           try clear hfz18_0
           try clear hfz18_1
           try clear hfz18_2
           try clear hfz18_3
           try clear hfz18_4
           try clear hfz18_5
           try clear hfz18_6
           try clear hfz23_0
           try clear hfz23_1
           try clear hfz23_2
           try clear hfz31_0
           try clear hfz31_1
           try clear hfz31_2
           try clear hfz31_3
           try clear hfz31_4
           try clear hfz31_5
           try clear hfz31_6
           try clear hfz35_0
           try clear hfz35_1
           try clear hfz35_2
           try clear hfz35_3
           try clear hfz35_4
           try clear hfz35_5
           try clear hfz35_6
           try clear hfz41_0
           try clear hfz41_1
           try clear hfz41_2
           try clear hfz46_0
           try clear hfz46_1
           try clear hfz46_2
           try clear hfz46_3
           try clear hfz46_4
           try clear hfz46_5
           try clear hfz46_6
           try clear hfz50_0
           try clear hfz50_1
           try clear hfz50_2
           try clear hfz50_3
           try clear hfz50_4
           try clear hfz50_5
           try clear hfz50_6
           try clear hfz56_0
           try clear hfz56_1
           try clear hfz56_2
           try clear hfz60_0
           try clear hfz60_1
           try clear hfz60_2
           try clear hfz60_3
           try clear hfz60_4
           try clear hfz60_5
           try clear hfz60_6
           try clear hfz62_0
           try clear hfz62_1
           try clear hfz62_2
           try clear hfz62_3
           try clear hfz62_4
           try clear hfz62_5
           try clear hfz62_6
           try clear hfz9_0
           try clear hfz9_1
           try clear hfz9_2
           try clear hfz9_3
           try clear hfz9_4
           try clear hfz9_5
           try clear hfz9_6
           try clear hx195_0
           try clear hx195_1
           try clear hx195_2
           try clear hx195_3
           try clear hx195_4
           try clear hx195_5
           try clear hx195_6
           try clear hx199_0
           try clear hx199_1
           try clear hx199_2
           try clear hx199_3
           try clear hx199_4
           try clear hx199_5
           try clear hx199_6
           try clear hx200_0
           try clear hx200_1
           try clear hx200_2
           try clear hx200_3
           try clear hx200_4
           try clear hx200_5
           try clear hx200_6
           try clear hx201_0
           try clear hx201_1
           try clear hx201_2
           try clear hx201_3
           try clear hx201_4
           try clear hx201_5
           try clear hx201_6
           try clear p1
           try clear p19
           try clear p195
           try clear p199
           try clear p2
           try clear p20
           try clear p200
           try clear p201
           try clear p6
           try clear q1
           try clear q19
           try clear q195
           try clear q199
           try clear q2
           try clear q20
           try clear q200
           try clear q201
           obtain ⟨kq, x104_56, rfl, HA, HJ56, BK189, BK190, HB⟩ := hcut
           cases kq with
           | zero => exact absurd HA.out (by simp [shackleref04_prog.j4])
           | succ kj56 =>
            have H := HA.out; clear HA; simp only [shackleref04_prog.j4] at H
            by_cases c63 : x104_56 = true
            ·subst c63
             have H1 : (some (0, false, 0)) = some (r1, r2, r3) := by rw [if_pos rfl] at H; exact H
             clear H; have H := H1; clear H1; simp only [Option.some.injEq, Prod.mk.injEq] at H; obtain ⟨rfl, rfl, rfl⟩ := H; have hnb64 := NB190_189.out; have hnc64 := NB189_190.out; obtain ⟨hcz65_0, hcz65_1, hcz65_2, hfz65_0, hfz65_1, hfz65_2⟩ := bx3 BK190.out
             go_wp2
             repeat (go_quiet (fail); try go_wp2)
             refine bodyPost_ret (results_cell_row rfl _ _ gb190 34 #[.int .i64 0, .bool false, .int .u64 0] (0, 0) _ rfl (by (with_reducible repeat (first | refine kN ?_ _ | refine kD ?_ | refine kA ?_ _)); refine blk_put (cs := #[.int .i64 0, .bool false, .int .u64 x191002_1]) ?_ 2 _ rfl; (with_reducible repeat (first | refine kN ?_ _ | refine kD ?_ | refine kA ?_ _)); refine blk_put (cs := #[.int .i64 0, .bool x191001_1, .int .u64 x191002_1]) ?_ 1 _ rfl; (with_reducible repeat (first | refine kN ?_ _ | refine kD ?_ | refine kA ?_ _)); refine blk_put (cs := #[.int .i64 x191000_1, .bool x191001_1, .int .u64 x191002_1]) ?_ 0 _ rfl; (with_reducible repeat (first | refine kN ?_ _ | refine kD ?_ | refine kA ?_ _)); exact BK190.out) Tryd.underlying34 rfl (by kernel_rfl)) rfl ?_; exact ⟨by first | rfl | (simp [errW_none, errW_some] <;> rfl) | (simp [*, errW_none, errW_some] <;> rfl), by repeat (first | (with_reducible first | exact HB.out | apply bA | apply bN | apply bD | refine below_set ?_ GE189.out | refine below_set ?_ GE190.out) | exact HB.out)⟩
            ·replace c63 := Bool.eq_false_iff.mpr c63; subst c63
             have H1 : ((shackleref04_power.f kj56 a1_6).bind fun t218 => (if a1_4 > a1_5 then ((shackleref04_at.f 3 (IntKind.u64.wrap (a2 + 32))).bind fun bt219 => (some (bt219.1, bt219.2.1, bt219.2.2))) else (if t218 = true then (shackleref04_prog.j5 kj56 a2 x10_1 false a1_0 a1_1 a1_2 a1_3 a1_4 a1_5 a1_6) else (if a1_0 = 7 then (shackleref04_prog.j5 kj56 a2 x10_1 (a1_6 != 0) a1_0 a1_1 a1_2 a1_3 a1_4 a1_5 a1_6) else (shackleref04_prog.j5 kj56 a2 x10_1 true a1_0 a1_1 a1_2 a1_3 a1_4 a1_5 a1_6))))) = some (r1, r2, r3) := by rw [if_neg (show ¬ (false = true) by decide)] at H; exact H
             clear H; have H := H1; clear H1; replace H := Option.bind_eq_some_iff.mp H; obtain ⟨t218, A660, H⟩ := H; replace H : (if a1_4 > a1_5 then ((shackleref04_at.f 3 (IntKind.u64.wrap (a2 + 32))).bind fun bt219 => (some (bt219.1, bt219.2.1, bt219.2.2))) else (if t218 = true then (shackleref04_prog.j5 kj56 a2 x10_1 false a1_0 a1_1 a1_2 a1_3 a1_4 a1_5 a1_6) else (if a1_0 = 7 then (shackleref04_prog.j5 kj56 a2 x10_1 (a1_6 != 0) a1_0 a1_1 a1_2 a1_3 a1_4 a1_5 a1_6) else (shackleref04_prog.j5 kj56 a2 x10_1 true a1_0 a1_1 a1_2 a1_3 a1_4 a1_5 a1_6)))) = some (r1, r2, r3) := H; have A66 := aM A660; clear A660
             by_cases c67 : a1_4 > a1_5
             ·rw [if_pos c67] at H; have c67b0 : decide (a1_5 < a1_4) = true := decide_eq_true c67; clear c67; replace H := Option.bind_eq_some_iff.mp H; obtain ⟨⟨t219, t220, t221⟩, A680, H⟩ := H; replace H : (some (t219, t220, t221)) = some (r1, r2, r3) := H; have A68 := aM A680; clear A680; simp only [Option.some.injEq, Prod.mk.injEq] at H; obtain ⟨rfl, rfl, rfl⟩ := H; have hnb69 := NB189_190.out; have hnc69 := NB190_189.out; obtain ⟨hcz70_0, hcz70_1, hcz70_2, hcz70_3, hcz70_4, hcz70_5, hcz70_6, hfz70_0, hfz70_1, hfz70_2, hfz70_3, hfz70_4, hfz70_5, hfz70_6⟩ := bx7 BK189.out
              go_wp2_with (first | (go_at_call 60; (with_reducible refine (shackleref04_power.calls kj56 a1_6 t218 _ A66.out).mono ?_); rintro e w' ⟨rfl, ⟨nd, rfl⟩⟩; (try first | exact ⟨rfl, _, World.drewN_drewN _ _ _⟩ | exact ⟨rfl, _, Eq.trans (World.drewN_drewN _ _ _) (congrArg (World.drewN _) (Nat.add_assoc _ _ _))⟩)) | (go_at_call 30; (with_reducible refine (shackleref04_at.calls 3 (IntKind.u64.wrap (a2 + 32)) t219 t220 t221 _ A68.out).mono ?_); rintro e w71 ⟨rfl, hb⟩; replace BK189 := aM (blk_below (g := gb189) (o := .cells #[.int .u32 a1_0, .int .u32 a1_1, .int .u64 a1_2, .int .u64 a1_3, .int .u64 a1_4, .int .u64 a1_5, .int .u64 a1_6] 50 (0, 0)) (by (with_reducible repeat (first | refine kN ?_ _ | refine kD ?_ | refine kA ?_ _)); exact BK189.out) hb); replace BK190 := aM (blk_below (g := gb190) (o := .cells #[.int .i64 x191000_1, .bool x191001_1, .int .u64 x191002_1] 34 (0, 0)) (by (with_reducible repeat (first | refine kN ?_ _ | refine kD ?_ | refine kA ?_ _)); exact BK190.out) hb); replace HB := aM (below_step (by repeat (first | (with_reducible first | exact HB.out | apply bA | apply bN | apply bD | refine below_set ?_ GE189.out | refine below_set ?_ GE190.out) | exact HB.out)) hb); (try clear hb); (try clear hb2); (try clear hk); (try clear hi); obtain ⟨hcz72_0, hcz72_1, hcz72_2, hfz72_0, hfz72_1, hfz72_2⟩ := bx3 BK190.out))
              repeat (go_quiet (fail); try go_wp2_with (first | (go_at_call 60; (with_reducible refine (shackleref04_power.calls kj56 a1_6 t218 _ A66.out).mono ?_); rintro e w' ⟨rfl, ⟨nd, rfl⟩⟩; (try first | exact ⟨rfl, _, World.drewN_drewN _ _ _⟩ | exact ⟨rfl, _, Eq.trans (World.drewN_drewN _ _ _) (congrArg (World.drewN _) (Nat.add_assoc _ _ _))⟩)) | (go_at_call 30; (with_reducible refine (shackleref04_at.calls 3 (IntKind.u64.wrap (a2 + 32)) t219 t220 t221 _ A68.out).mono ?_); rintro e w71 ⟨rfl, hb⟩; replace BK189 := aM (blk_below (g := gb189) (o := .cells #[.int .u32 a1_0, .int .u32 a1_1, .int .u64 a1_2, .int .u64 a1_3, .int .u64 a1_4, .int .u64 a1_5, .int .u64 a1_6] 50 (0, 0)) (by (with_reducible repeat (first | refine kN ?_ _ | refine kD ?_ | refine kA ?_ _)); exact BK189.out) hb); replace BK190 := aM (blk_below (g := gb190) (o := .cells #[.int .i64 x191000_1, .bool x191001_1, .int .u64 x191002_1] 34 (0, 0)) (by (with_reducible repeat (first | refine kN ?_ _ | refine kD ?_ | refine kA ?_ _)); exact BK190.out) hb); replace HB := aM (below_step (by repeat (first | (with_reducible first | exact HB.out | apply bA | apply bN | apply bD | refine below_set ?_ GE189.out | refine below_set ?_ GE190.out) | exact HB.out)) hb); (try clear hb); (try clear hb2); (try clear hk); (try clear hi); obtain ⟨hcz72_0, hcz72_1, hcz72_2, hfz72_0, hfz72_1, hfz72_2⟩ := bx3 BK190.out)))
              refine bodyPost_ret (results_cell_row rfl _ _ gb190 34 #[.int .i64 t219, .bool t220, .int .u64 t221] (0, 0) _ rfl (by (with_reducible repeat (first | refine kN ?_ _ | refine kD ?_ | refine kA ?_ _)); refine blk_put (cs := #[.int .i64 t219, .bool t220, .int .u64 x191002_1]) ?_ 2 _ rfl; (with_reducible repeat (first | refine kN ?_ _ | refine kD ?_ | refine kA ?_ _)); refine blk_put (cs := #[.int .i64 t219, .bool x191001_1, .int .u64 x191002_1]) ?_ 1 _ rfl; (with_reducible repeat (first | refine kN ?_ _ | refine kD ?_ | refine kA ?_ _)); refine blk_put (cs := #[.int .i64 x191000_1, .bool x191001_1, .int .u64 x191002_1]) ?_ 0 _ rfl; (with_reducible repeat (first | refine kN ?_ _ | refine kD ?_ | refine kA ?_ _)); exact BK190.out) Tryd.underlying34 rfl (by kernel_rfl)) rfl ?_; exact ⟨by first | rfl | (simp [errW_none, errW_some] <;> rfl) | (simp [*, errW_none, errW_some] <;> rfl), by repeat (first | (with_reducible first | exact HB.out | apply bA | apply bN | apply bD | refine below_set ?_ GE189.out | refine below_set ?_ GE190.out) | exact HB.out)⟩
             ·rw [if_neg c67] at H; have c67b0 : decide (a1_5 < a1_4) = false := decide_eq_false c67; clear c67; have HC73 := aM H; clear H; have hnb74 := NB189_190.out; have hnc74 := NB190_189.out; obtain ⟨hcz75_0, hcz75_1, hcz75_2, hcz75_3, hcz75_4, hcz75_5, hcz75_6, hfz75_0, hfz75_1, hfz75_2, hfz75_3, hfz75_4, hfz75_5, hfz75_6⟩ := bx7 BK189.out
              go_upto_region 23 with (first | (go_at_call 60; (with_reducible refine (shackleref04_power.calls kj56 a1_6 t218 _ A66.out).mono ?_); rintro e w' ⟨rfl, ⟨nd, rfl⟩⟩; (try first | exact ⟨rfl, _, World.drewN_drewN _ _ _⟩ | exact ⟨rfl, _, Eq.trans (World.drewN_drewN _ _ _) (congrArg (World.drewN _) (Nat.add_assoc _ _ _))⟩)))
              repeat (go_quiet (first | (go_at_call 60; (with_reducible refine (shackleref04_power.calls kj56 a1_6 t218 _ A66.out).mono ?_); rintro e w' ⟨rfl, ⟨nd, rfl⟩⟩; (try first | exact ⟨rfl, _, World.drewN_drewN _ _ _⟩ | exact ⟨rfl, _, Eq.trans (World.drewN_drewN _ _ _) (congrArg (World.drewN _) (Nat.add_assoc _ _ _))⟩))); go_upto_region 23 with (first | (go_at_call 60; (with_reducible refine (shackleref04_power.calls kj56 a1_6 t218 _ A66.out).mono ?_); rintro e w' ⟨rfl, ⟨nd, rfl⟩⟩; (try first | exact ⟨rfl, _, World.drewN_drewN _ _ _⟩ | exact ⟨rfl, _, Eq.trans (World.drewN_drewN _ _ _) (congrArg (World.drewN _) (Nat.add_assoc _ _ _))⟩))))
              (try simp only [Act.put, sA, sZ, sS])
              go_cut [118] (fun v118 wc => ∃ (kq : Nat) (x118_72 : Bool), v118 = .bool x118_72 ∧ Aside0 (shackleref04_prog.j5 kq a2 x10_1 x118_72 a1_0 a1_1 a1_2 a1_3 a1_4 a1_5 a1_6 = some (r1, r2, r3)) ∧ Aside0 (kq ≤ kj56) ∧ Aside0 (wc.heap[gb189]? = some (.cells #[.int .u32 a1_0, .int .u32 a1_1, .int .u64 a1_2, .int .u64 a1_3, .int .u64 a1_4, .int .u64 a1_5, .int .u64 a1_6] 50 (0, 0))) ∧ Aside0 (wc.heap[gb190]? = some (.cells #[.int .i64 x191000_1, .bool x191001_1, .int .u64 x191002_1] 34 (0, 0))) ∧ Aside0 (Below w.heap.size w wc))
              case first =>
               have H := HC73.out; clear HC73
               by_cases c76 : t218 = true
               ·subst c76
                have H1 : (shackleref04_prog.j5 kj56 a2 x10_1 false a1_0 a1_1 a1_2 a1_3 a1_4 a1_5 a1_6) = some (r1, r2, r3) := by rw [if_pos rfl] at H; exact H
                clear H; have H := H1; clear H1; have H' := aM H; clear H
                go_wp2
                repeat (go_quiet (fail); try go_wp2)
                go_meet
                case rel => exact ⟨_, (false), (by first | rfl | (simp; done) | (simp [*]; done)), H', ⟨by have := HK1.out; have := HJ28.out; have := HJ43.out; have := HJ56.out; first | omega | exact Nat.le_refl _⟩, ⟨by (with_reducible repeat (first | refine kN ?_ _ | refine kD ?_ | refine kA ?_ _)); exact BK189.out⟩, ⟨by (with_reducible repeat (first | refine kN ?_ _ | refine kD ?_ | refine kA ?_ _)); exact BK190.out⟩, ⟨by repeat (first | (with_reducible first | exact HB.out | apply bA | apply bN | apply bD | refine below_set ?_ GE189.out | refine below_set ?_ GE190.out) | exact HB.out)⟩⟩
               ·replace c76 := Bool.eq_false_iff.mpr c76; subst c76
                have H1 : (if a1_0 = 7 then (shackleref04_prog.j5 kj56 a2 x10_1 (a1_6 != 0) a1_0 a1_1 a1_2 a1_3 a1_4 a1_5 a1_6) else (shackleref04_prog.j5 kj56 a2 x10_1 true a1_0 a1_1 a1_2 a1_3 a1_4 a1_5 a1_6)) = some (r1, r2, r3) := by rw [if_neg (show ¬ (false = true) by decide)] at H; exact H
                clear H; have H := H1; clear H1
                by_cases c77 : a1_0 = 7
                ·rw [if_pos c77] at H; have c77b0 : (a1_0 == 7) = true := beq_iff_eq.mpr c77; have c77b1 : (a1_0 != 7) = false := bne_eq_false_iff_eq.mpr c77; clear c77
                 (first | rw [c77b0] | (simp only [i64_w, i32_w]; rw [c77b0]) | skip)
                 have H' := aM H; clear H; have hnb78 := NB189_190.out; have hnc78 := NB190_189.out; obtain ⟨hcz79_0, hcz79_1, hcz79_2, hcz79_3, hcz79_4, hcz79_5, hcz79_6, hfz79_0, hfz79_1, hfz79_2, hfz79_3, hfz79_4, hfz79_5, hfz79_6⟩ := bx7 BK189.out
                 go_wp2
                 repeat (go_quiet (fail); try go_wp2)
                 go_meet
                 case rel => exact ⟨_, ((a1_6 != 0)), (by first | rfl | (simp; done) | (simp [*]; done)), H', ⟨by have := HK1.out; have := HJ28.out; have := HJ43.out; have := HJ56.out; first | omega | exact Nat.le_refl _⟩, ⟨by (with_reducible repeat (first | refine kN ?_ _ | refine kD ?_ | refine kA ?_ _)); exact BK189.out⟩, ⟨by (with_reducible repeat (first | refine kN ?_ _ | refine kD ?_ | refine kA ?_ _)); exact BK190.out⟩, ⟨by repeat (first | (with_reducible first | exact HB.out | apply bA | apply bN | apply bD | refine below_set ?_ GE189.out | refine below_set ?_ GE190.out) | exact HB.out)⟩⟩
                ·rw [if_neg c77] at H; have c77b0 : (a1_0 == 7) = false := beq_eq_false_iff_ne.mpr c77; have c77b1 : (a1_0 != 7) = true := bne_iff_ne.mpr c77
                 (first | rw [c77b0] | (simp only [i64_w, i32_w]; rw [c77b0]) | skip)
                 have H' := aM H; clear H; have hnb80 := NB189_190.out; have hnc80 := NB190_189.out; obtain ⟨hcz81_0, hcz81_1, hcz81_2, hcz81_3, hcz81_4, hcz81_5, hcz81_6, hfz81_0, hfz81_1, hfz81_2, hfz81_3, hfz81_4, hfz81_5, hfz81_6⟩ := bx7 BK189.out
                 go_wp2
                 repeat (go_quiet (fail); try go_wp2)
                 go_meet
                 case rel => exact ⟨_, (true), (by first | rfl | (simp; done) | (simp [*]; done)), H', ⟨by have := HK1.out; have := HJ28.out; have := HJ43.out; have := HJ56.out; first | omega | exact Nat.le_refl _⟩, ⟨by (with_reducible repeat (first | refine kN ?_ _ | refine kD ?_ | refine kA ?_ _)); exact BK189.out⟩, ⟨by (with_reducible repeat (first | refine kN ?_ _ | refine kD ?_ | refine kA ?_ _)); exact BK190.out⟩, ⟨by repeat (first | (with_reducible first | exact HB.out | apply bA | apply bN | apply bD | refine below_set ?_ GE189.out | refine below_set ?_ GE190.out) | exact HB.out)⟩⟩
              case rest =>
               clear HC73
               try clear c1
               try clear p1
               try clear q1
               try clear hx1
               try clear c2
               try clear p2
               try clear q2
               try clear hx2
               try clear c3
               try clear c4
               try clear c5
               try clear c6
               try clear p6
               try clear c7
               try clear c8
               try clear c13
               try clear c13b0
               try clear c15
               try clear c16
               try clear c16b0
               try clear c17
               try clear c19
               try clear p19
               try clear q19
               try clear hx19
               try clear p20
               try clear q20
               try clear hx20
               try clear c22
               try clear c24
               try clear c24b0
               try clear c25
               try clear c25b0
               try clear c26
               try clear c26b0
               try clear c26b1
               try clear c30
               try clear c32
               try clear c36
               try clear c37
               try clear c40
               try clear c45
               try clear c51
               try clear c52
               try clear c55
               try clear c58
               try clear c58b0
               try clear c58b1
               try clear c59
               try clear c61
               try clear c63
               try clear c64
               try clear c67
               try clear c67b0
               try clear c69
               try clear c74
               try clear c76
               try clear c77
               try clear c77b0
               try clear c77b1
               try clear c78
               try clear c80
               try clear hcz18_0
               try clear hcz18_1
               try clear hcz18_2
               try clear hcz18_3
               try clear hcz18_4
               try clear hcz18_5
               try clear hcz18_6
               try clear hcz23_0
               try clear hcz23_1
               try clear hcz23_2
               try clear hcz31_0
               try clear hcz31_1
               try clear hcz31_2
               try clear hcz31_3
               try clear hcz31_4
               try clear hcz31_5
               try clear hcz31_6
               try clear hcz35_0
               try clear hcz35_1
               try clear hcz35_2
               try clear hcz35_3
               try clear hcz35_4
               try clear hcz35_5
               try clear hcz35_6
               try clear hcz41_0
               try clear hcz41_1
               try clear hcz41_2
               try clear hcz46_0
               try clear hcz46_1
               try clear hcz46_2
               try clear hcz46_3
               try clear hcz46_4
               try clear hcz46_5
               try clear hcz46_6
               try clear hcz50_0
               try clear hcz50_1
               try clear hcz50_2
               try clear hcz50_3
               try clear hcz50_4
               try clear hcz50_5
               try clear hcz50_6
               try clear hcz56_0
               try clear hcz56_1
               try clear hcz56_2
               try clear hcz60_0
               try clear hcz60_1
               try clear hcz60_2
               try clear hcz60_3
               try clear hcz60_4
               try clear hcz60_5
               try clear hcz60_6
               try clear hcz62_0
               try clear hcz62_1
               try clear hcz62_2
               try clear hcz62_3
               try clear hcz62_4
               try clear hcz62_5
               try clear hcz62_6
               try clear hcz65_0
               try clear hcz65_1
               try clear hcz65_2
               try clear hcz70_0
               try clear hcz70_1
               try clear hcz70_2
               try clear hcz70_3
               try clear hcz70_4
               try clear hcz70_5
               try clear hcz70_6
               try clear hcz72_0
               try clear hcz72_1
               try clear hcz72_2
               try clear hcz75_0
               try clear hcz75_1
               try clear hcz75_2
               try clear hcz75_3
               try clear hcz75_4
               try clear hcz75_5
               try clear hcz75_6
               try clear hcz79_0
               try clear hcz79_1
               try clear hcz79_2
               try clear hcz79_3
               try clear hcz79_4
               try clear hcz79_5
               try clear hcz79_6
               try clear hcz81_0
               try clear hcz81_1
               try clear hcz81_2
               try clear hcz81_3
               try clear hcz81_4
               try clear hcz81_5
               try clear hcz81_6
               try clear hcz9_0
               try clear hcz9_1
               try clear hcz9_2
               try clear hcz9_3
               try clear hcz9_4
               try clear hcz9_5
               try clear hcz9_6
               try clear hfz18_0
               try clear hfz18_1
               try clear hfz18_2
               try clear hfz18_3
               try clear hfz18_4
               try clear hfz18_5
               try clear hfz18_6
               try clear hfz23_0
               try clear hfz23_1
               try clear hfz23_2
               try clear hfz31_0
               try clear hfz31_1
               try clear hfz31_2
               try clear hfz31_3
               try clear hfz31_4
               try clear hfz31_5
               try clear hfz31_6
               try clear hfz35_0
               try clear hfz35_1
               try clear hfz35_2
               try clear hfz35_3
               try clear hfz35_4
               try clear hfz35_5
               try clear hfz35_6
               try clear hfz41_0
               try clear hfz41_1
               try clear hfz41_2
               try clear hfz46_0
               try clear hfz46_1
               try clear hfz46_2
               try clear hfz46_3
               try clear hfz46_4
               try clear hfz46_5
               try clear hfz46_6
               try clear hfz50_0
               try clear hfz50_1
               try clear hfz50_2
               try clear hfz50_3
               try clear hfz50_4
               try clear hfz50_5
               try clear hfz50_6
               try clear hfz56_0
               try clear hfz56_1
               try clear hfz56_2
               try clear hfz60_0
               try clear hfz60_1
               try clear hfz60_2
               try clear hfz60_3
               try clear hfz60_4
               try clear hfz60_5
               try clear hfz60_6
               try clear hfz62_0
               try clear hfz62_1
               try clear hfz62_2
               try clear hfz62_3
               try clear hfz62_4
               try clear hfz62_5
               try clear hfz62_6
               try clear hfz65_0
               try clear hfz65_1
               try clear hfz65_2
               try clear hfz70_0
               try clear hfz70_1
               try clear hfz70_2
               try clear hfz70_3
               try clear hfz70_4
               try clear hfz70_5
               try clear hfz70_6
               try clear hfz72_0
               try clear hfz72_1
               try clear hfz72_2
               try clear hfz75_0
               try clear hfz75_1
               try clear hfz75_2
               try clear hfz75_3
               try clear hfz75_4
               try clear hfz75_5
               try clear hfz75_6
               try clear hfz79_0
               try clear hfz79_1
               try clear hfz79_2
               try clear hfz79_3
               try clear hfz79_4
               try clear hfz79_5
               try clear hfz79_6
               try clear hfz81_0
               try clear hfz81_1
               try clear hfz81_2
               try clear hfz81_3
               try clear hfz81_4
               try clear hfz81_5
               try clear hfz81_6
               try clear hfz9_0
               try clear hfz9_1
               try clear hfz9_2
               try clear hfz9_3
               try clear hfz9_4
               try clear hfz9_5
               try clear hfz9_6
               try clear hx195_0
               try clear hx195_1
               try clear hx195_2
               try clear hx195_3
               try clear hx195_4
               try clear hx195_5
               try clear hx195_6
               try clear hx199_0
               try clear hx199_1
               try clear hx199_2
               try clear hx199_3
               try clear hx199_4
               try clear hx199_5
               try clear hx199_6
               try clear hx200_0
               try clear hx200_1
               try clear hx200_2
               try clear hx200_3
               try clear hx200_4
               try clear hx200_5
               try clear hx200_6
               try clear hx201_0
               try clear hx201_1
               try clear hx201_2
               try clear hx201_3
               try clear hx201_4
               try clear hx201_5
               try clear hx201_6
               try clear p1
               try clear p19
               try clear p195
               try clear p199
               try clear p2
               try clear p20
               try clear p200
               try clear p201
               try clear p6
               try clear q1
               try clear q19
               try clear q195
               try clear q199
               try clear q2
               try clear q20
               try clear q200
               try clear q201
               obtain ⟨kq, x118_72, rfl, HA, HJ72, BK189, BK190, HB⟩ := hcut
               cases kq with
               | zero => exact absurd HA.out (by simp [shackleref04_prog.j5])
               | succ kj72 =>
                have H := HA.out; clear HA; simp only [shackleref04_prog.j5] at H
                by_cases c82 : x118_72 = true
                ·subst c82
                 have H1 : ((shackleref04_at.f 3 (IntKind.u64.wrap (a2 + 48))).bind fun bt222 => (some (bt222.1, bt222.2.1, bt222.2.2))) = some (r1, r2, r3) := by rw [if_pos rfl] at H; exact H
                 clear H; have H := H1; clear H1; replace H := Option.bind_eq_some_iff.mp H; obtain ⟨⟨t222, t223, t224⟩, A830, H⟩ := H; replace H : (some (t222, t223, t224)) = some (r1, r2, r3) := H; have A83 := aM A830; clear A830; simp only [Option.some.injEq, Prod.mk.injEq] at H; obtain ⟨rfl, rfl, rfl⟩ := H
                 go_wp2_with (first | (go_at_call 30; (with_reducible refine (shackleref04_at.calls 3 (IntKind.u64.wrap (a2 + 48)) t222 t223 t224 _ A83.out).mono ?_); rintro e w84 ⟨rfl, hb⟩; replace BK189 := aM (blk_below (g := gb189) (o := .cells #[.int .u32 a1_0, .int .u32 a1_1, .int .u64 a1_2, .int .u64 a1_3, .int .u64 a1_4, .int .u64 a1_5, .int .u64 a1_6] 50 (0, 0)) (by (with_reducible repeat (first | refine kN ?_ _ | refine kD ?_ | refine kA ?_ _)); exact BK189.out) hb); replace BK190 := aM (blk_below (g := gb190) (o := .cells #[.int .i64 x191000_1, .bool x191001_1, .int .u64 x191002_1] 34 (0, 0)) (by (with_reducible repeat (first | refine kN ?_ _ | refine kD ?_ | refine kA ?_ _)); exact BK190.out) hb); replace HB := aM (below_step (by repeat (first | (with_reducible first | exact HB.out | apply bA | apply bN | apply bD | refine below_set ?_ GE189.out | refine below_set ?_ GE190.out) | exact HB.out)) hb); (try clear hb); (try clear hb2); (try clear hk); (try clear hi); have hnb85 := NB190_189.out; have hnc85 := NB189_190.out; obtain ⟨hcz86_0, hcz86_1, hcz86_2, hfz86_0, hfz86_1, hfz86_2⟩ := bx3 BK190.out))
                 repeat (go_quiet (fail); try go_wp2_with (first | (go_at_call 30; (with_reducible refine (shackleref04_at.calls 3 (IntKind.u64.wrap (a2 + 48)) t222 t223 t224 _ A83.out).mono ?_); rintro e w84 ⟨rfl, hb⟩; replace BK189 := aM (blk_below (g := gb189) (o := .cells #[.int .u32 a1_0, .int .u32 a1_1, .int .u64 a1_2, .int .u64 a1_3, .int .u64 a1_4, .int .u64 a1_5, .int .u64 a1_6] 50 (0, 0)) (by (with_reducible repeat (first | refine kN ?_ _ | refine kD ?_ | refine kA ?_ _)); exact BK189.out) hb); replace BK190 := aM (blk_below (g := gb190) (o := .cells #[.int .i64 x191000_1, .bool x191001_1, .int .u64 x191002_1] 34 (0, 0)) (by (with_reducible repeat (first | refine kN ?_ _ | refine kD ?_ | refine kA ?_ _)); exact BK190.out) hb); replace HB := aM (below_step (by repeat (first | (with_reducible first | exact HB.out | apply bA | apply bN | apply bD | refine below_set ?_ GE189.out | refine below_set ?_ GE190.out) | exact HB.out)) hb); (try clear hb); (try clear hb2); (try clear hk); (try clear hi); have hnb85 := NB190_189.out; have hnc85 := NB189_190.out; obtain ⟨hcz86_0, hcz86_1, hcz86_2, hfz86_0, hfz86_1, hfz86_2⟩ := bx3 BK190.out)))
                 refine bodyPost_ret (results_cell_row rfl _ _ gb190 34 #[.int .i64 t222, .bool t223, .int .u64 t224] (0, 0) _ rfl (by (with_reducible repeat (first | refine kN ?_ _ | refine kD ?_ | refine kA ?_ _)); refine blk_put (cs := #[.int .i64 t222, .bool t223, .int .u64 x191002_1]) ?_ 2 _ rfl; (with_reducible repeat (first | refine kN ?_ _ | refine kD ?_ | refine kA ?_ _)); refine blk_put (cs := #[.int .i64 t222, .bool x191001_1, .int .u64 x191002_1]) ?_ 1 _ rfl; (with_reducible repeat (first | refine kN ?_ _ | refine kD ?_ | refine kA ?_ _)); refine blk_put (cs := #[.int .i64 x191000_1, .bool x191001_1, .int .u64 x191002_1]) ?_ 0 _ rfl; (with_reducible repeat (first | refine kN ?_ _ | refine kD ?_ | refine kA ?_ _)); exact BK190.out) Tryd.underlying34 rfl (by kernel_rfl)) rfl ?_; exact ⟨by first | rfl | (simp [errW_none, errW_some] <;> rfl) | (simp [*, errW_none, errW_some] <;> rfl), by repeat (first | (with_reducible first | exact HB.out | apply bA | apply bN | apply bD | refine below_set ?_ GE189.out | refine below_set ?_ GE190.out) | exact HB.out)⟩
                ·replace c82 := Bool.eq_false_iff.mpr c82; subst c82
                 have H1 : (if a1_0 = 7 then (some (0, false, 0)) else (if a1_5 = 0 then ((shackleref04_at.f 3 (IntKind.u64.wrap (a2 + 40))).bind fun bt225 => (some (bt225.1, bt225.2.1, bt225.2.2))) else (if a1_6 < 4096 then ((shackleref04_at.f 3 (IntKind.u64.wrap (a2 + 48))).bind fun bt228 => (some (bt228.1, bt228.2.1, bt228.2.2))) else (if a1_6 = 0 then (none) else (if (Int.tmod a1_2 a1_6) = (Int.tmod a1_3 a1_6) then (if (IntKind.u64.wrap ((IntKind.u64.wrap (Int.tdiv a1_3 4096)) * 4096)) < x10_1 then ((shackleref04_at.f 3 (IntKind.u64.wrap (a2 + 16))).bind fun bt231 => (some (bt231.1, bt231.2.1, bt231.2.2))) else (some (0, false, 0))) else ((shackleref04_at.f 3 (IntKind.u64.wrap (a2 + 16))).bind fun bt234 => (some (bt234.1, bt234.2.1, bt234.2.2)))))))) = some (r1, r2, r3) := by rw [if_neg (show ¬ (false = true) by decide)] at H; exact H
                 clear H; have H := H1; clear H1
                 by_cases c87 : a1_0 = 7
                 ·rw [if_pos c87] at H; have c87b0 : (a1_0 == 7) = true := beq_iff_eq.mpr c87; have c87b1 : (a1_0 != 7) = false := bne_eq_false_iff_eq.mpr c87; clear c87; simp only [Option.some.injEq, Prod.mk.injEq] at H; obtain ⟨rfl, rfl, rfl⟩ := H; have hnb88 := NB189_190.out; have hnc88 := NB190_189.out; obtain ⟨hcz89_0, hcz89_1, hcz89_2, hcz89_3, hcz89_4, hcz89_5, hcz89_6, hfz89_0, hfz89_1, hfz89_2, hfz89_3, hfz89_4, hfz89_5, hfz89_6⟩ := bx7 BK189.out; obtain ⟨hcz90_0, hcz90_1, hcz90_2, hfz90_0, hfz90_1, hfz90_2⟩ := bx3 BK190.out
                  go_wp2
                  repeat (go_quiet (fail); try go_wp2)
                  refine bodyPost_ret (results_cell_row rfl _ _ gb190 34 #[.int .i64 0, .bool false, .int .u64 0] (0, 0) _ rfl (by (with_reducible repeat (first | refine kN ?_ _ | refine kD ?_ | refine kA ?_ _)); refine blk_put (cs := #[.int .i64 0, .bool false, .int .u64 x191002_1]) ?_ 2 _ rfl; (with_reducible repeat (first | refine kN ?_ _ | refine kD ?_ | refine kA ?_ _)); refine blk_put (cs := #[.int .i64 0, .bool x191001_1, .int .u64 x191002_1]) ?_ 1 _ rfl; (with_reducible repeat (first | refine kN ?_ _ | refine kD ?_ | refine kA ?_ _)); refine blk_put (cs := #[.int .i64 x191000_1, .bool x191001_1, .int .u64 x191002_1]) ?_ 0 _ rfl; (with_reducible repeat (first | refine kN ?_ _ | refine kD ?_ | refine kA ?_ _)); exact BK190.out) Tryd.underlying34 rfl (by kernel_rfl)) rfl ?_; exact ⟨by first | rfl | (simp [errW_none, errW_some] <;> rfl) | (simp [*, errW_none, errW_some] <;> rfl), by repeat (first | (with_reducible first | exact HB.out | apply bA | apply bN | apply bD | refine below_set ?_ GE189.out | refine below_set ?_ GE190.out) | exact HB.out)⟩
                 ·rw [if_neg c87] at H; have c87b0 : (a1_0 == 7) = false := beq_eq_false_iff_ne.mpr c87; have c87b1 : (a1_0 != 7) = true := bne_iff_ne.mpr c87
                  by_cases c91 : a1_5 = 0
                  ·rw [if_pos c91] at H; have c91b0 : (a1_5 == 0) = true := beq_iff_eq.mpr c91; have c91b1 : (a1_5 != 0) = false := bne_eq_false_iff_eq.mpr c91; clear c91; replace H := Option.bind_eq_some_iff.mp H; obtain ⟨⟨t225, t226, t227⟩, A920, H⟩ := H; replace H : (some (t225, t226, t227)) = some (r1, r2, r3) := H; have A92 := aM A920; clear A920; simp only [Option.some.injEq, Prod.mk.injEq] at H; obtain ⟨rfl, rfl, rfl⟩ := H; have hnb93 := NB189_190.out; have hnc93 := NB190_189.out; obtain ⟨hcz94_0, hcz94_1, hcz94_2, hcz94_3, hcz94_4, hcz94_5, hcz94_6, hfz94_0, hfz94_1, hfz94_2, hfz94_3, hfz94_4, hfz94_5, hfz94_6⟩ := bx7 BK189.out
                   go_wp2_with (first | (go_at_call 30; (with_reducible refine (shackleref04_at.calls 3 (IntKind.u64.wrap (a2 + 40)) t225 t226 t227 _ A92.out).mono ?_); rintro e w95 ⟨rfl, hb⟩; replace BK189 := aM (blk_below (g := gb189) (o := .cells #[.int .u32 a1_0, .int .u32 a1_1, .int .u64 a1_2, .int .u64 a1_3, .int .u64 a1_4, .int .u64 a1_5, .int .u64 a1_6] 50 (0, 0)) (by (with_reducible repeat (first | refine kN ?_ _ | refine kD ?_ | refine kA ?_ _)); exact BK189.out) hb); replace BK190 := aM (blk_below (g := gb190) (o := .cells #[.int .i64 x191000_1, .bool x191001_1, .int .u64 x191002_1] 34 (0, 0)) (by (with_reducible repeat (first | refine kN ?_ _ | refine kD ?_ | refine kA ?_ _)); exact BK190.out) hb); replace HB := aM (below_step (by repeat (first | (with_reducible first | exact HB.out | apply bA | apply bN | apply bD | refine below_set ?_ GE189.out | refine below_set ?_ GE190.out) | exact HB.out)) hb); (try clear hb); (try clear hb2); (try clear hk); (try clear hi); obtain ⟨hcz96_0, hcz96_1, hcz96_2, hfz96_0, hfz96_1, hfz96_2⟩ := bx3 BK190.out))
                   repeat (go_quiet (fail); try go_wp2_with (first | (go_at_call 30; (with_reducible refine (shackleref04_at.calls 3 (IntKind.u64.wrap (a2 + 40)) t225 t226 t227 _ A92.out).mono ?_); rintro e w95 ⟨rfl, hb⟩; replace BK189 := aM (blk_below (g := gb189) (o := .cells #[.int .u32 a1_0, .int .u32 a1_1, .int .u64 a1_2, .int .u64 a1_3, .int .u64 a1_4, .int .u64 a1_5, .int .u64 a1_6] 50 (0, 0)) (by (with_reducible repeat (first | refine kN ?_ _ | refine kD ?_ | refine kA ?_ _)); exact BK189.out) hb); replace BK190 := aM (blk_below (g := gb190) (o := .cells #[.int .i64 x191000_1, .bool x191001_1, .int .u64 x191002_1] 34 (0, 0)) (by (with_reducible repeat (first | refine kN ?_ _ | refine kD ?_ | refine kA ?_ _)); exact BK190.out) hb); replace HB := aM (below_step (by repeat (first | (with_reducible first | exact HB.out | apply bA | apply bN | apply bD | refine below_set ?_ GE189.out | refine below_set ?_ GE190.out) | exact HB.out)) hb); (try clear hb); (try clear hb2); (try clear hk); (try clear hi); obtain ⟨hcz96_0, hcz96_1, hcz96_2, hfz96_0, hfz96_1, hfz96_2⟩ := bx3 BK190.out)))
                   refine bodyPost_ret (results_cell_row rfl _ _ gb190 34 #[.int .i64 t225, .bool t226, .int .u64 t227] (0, 0) _ rfl (by (with_reducible repeat (first | refine kN ?_ _ | refine kD ?_ | refine kA ?_ _)); refine blk_put (cs := #[.int .i64 t225, .bool t226, .int .u64 x191002_1]) ?_ 2 _ rfl; (with_reducible repeat (first | refine kN ?_ _ | refine kD ?_ | refine kA ?_ _)); refine blk_put (cs := #[.int .i64 t225, .bool x191001_1, .int .u64 x191002_1]) ?_ 1 _ rfl; (with_reducible repeat (first | refine kN ?_ _ | refine kD ?_ | refine kA ?_ _)); refine blk_put (cs := #[.int .i64 x191000_1, .bool x191001_1, .int .u64 x191002_1]) ?_ 0 _ rfl; (with_reducible repeat (first | refine kN ?_ _ | refine kD ?_ | refine kA ?_ _)); exact BK190.out) Tryd.underlying34 rfl (by kernel_rfl)) rfl ?_; exact ⟨by first | rfl | (simp [errW_none, errW_some] <;> rfl) | (simp [*, errW_none, errW_some] <;> rfl), by repeat (first | (with_reducible first | exact HB.out | apply bA | apply bN | apply bD | refine below_set ?_ GE189.out | refine below_set ?_ GE190.out) | exact HB.out)⟩
                  ·rw [if_neg c91] at H; have c91b0 : (a1_5 == 0) = false := beq_eq_false_iff_ne.mpr c91; have c91b1 : (a1_5 != 0) = true := bne_iff_ne.mpr c91
                   by_cases c97 : a1_6 < 4096
                   ·rw [if_pos c97] at H; have c97b0 : decide (a1_6 < 4096) = true := decide_eq_true c97; clear c97; replace H := Option.bind_eq_some_iff.mp H; obtain ⟨⟨t228, t229, t230⟩, A980, H⟩ := H; replace H : (some (t228, t229, t230)) = some (r1, r2, r3) := H; have A98 := aM A980; clear A980; simp only [Option.some.injEq, Prod.mk.injEq] at H; obtain ⟨rfl, rfl, rfl⟩ := H; have hnb99 := NB189_190.out; have hnc99 := NB190_189.out; obtain ⟨hcz100_0, hcz100_1, hcz100_2, hcz100_3, hcz100_4, hcz100_5, hcz100_6, hfz100_0, hfz100_1, hfz100_2, hfz100_3, hfz100_4, hfz100_5, hfz100_6⟩ := bx7 BK189.out
                    go_wp2_with (first | (go_at_call 30; (with_reducible refine (shackleref04_at.calls 3 (IntKind.u64.wrap (a2 + 48)) t228 t229 t230 _ A98.out).mono ?_); rintro e w101 ⟨rfl, hb⟩; replace BK189 := aM (blk_below (g := gb189) (o := .cells #[.int .u32 a1_0, .int .u32 a1_1, .int .u64 a1_2, .int .u64 a1_3, .int .u64 a1_4, .int .u64 a1_5, .int .u64 a1_6] 50 (0, 0)) (by (with_reducible repeat (first | refine kN ?_ _ | refine kD ?_ | refine kA ?_ _)); exact BK189.out) hb); replace BK190 := aM (blk_below (g := gb190) (o := .cells #[.int .i64 x191000_1, .bool x191001_1, .int .u64 x191002_1] 34 (0, 0)) (by (with_reducible repeat (first | refine kN ?_ _ | refine kD ?_ | refine kA ?_ _)); exact BK190.out) hb); replace HB := aM (below_step (by repeat (first | (with_reducible first | exact HB.out | apply bA | apply bN | apply bD | refine below_set ?_ GE189.out | refine below_set ?_ GE190.out) | exact HB.out)) hb); (try clear hb); (try clear hb2); (try clear hk); (try clear hi); obtain ⟨hcz102_0, hcz102_1, hcz102_2, hfz102_0, hfz102_1, hfz102_2⟩ := bx3 BK190.out))
                    repeat (go_quiet (fail); try go_wp2_with (first | (go_at_call 30; (with_reducible refine (shackleref04_at.calls 3 (IntKind.u64.wrap (a2 + 48)) t228 t229 t230 _ A98.out).mono ?_); rintro e w101 ⟨rfl, hb⟩; replace BK189 := aM (blk_below (g := gb189) (o := .cells #[.int .u32 a1_0, .int .u32 a1_1, .int .u64 a1_2, .int .u64 a1_3, .int .u64 a1_4, .int .u64 a1_5, .int .u64 a1_6] 50 (0, 0)) (by (with_reducible repeat (first | refine kN ?_ _ | refine kD ?_ | refine kA ?_ _)); exact BK189.out) hb); replace BK190 := aM (blk_below (g := gb190) (o := .cells #[.int .i64 x191000_1, .bool x191001_1, .int .u64 x191002_1] 34 (0, 0)) (by (with_reducible repeat (first | refine kN ?_ _ | refine kD ?_ | refine kA ?_ _)); exact BK190.out) hb); replace HB := aM (below_step (by repeat (first | (with_reducible first | exact HB.out | apply bA | apply bN | apply bD | refine below_set ?_ GE189.out | refine below_set ?_ GE190.out) | exact HB.out)) hb); (try clear hb); (try clear hb2); (try clear hk); (try clear hi); obtain ⟨hcz102_0, hcz102_1, hcz102_2, hfz102_0, hfz102_1, hfz102_2⟩ := bx3 BK190.out)))
                    refine bodyPost_ret (results_cell_row rfl _ _ gb190 34 #[.int .i64 t228, .bool t229, .int .u64 t230] (0, 0) _ rfl (by (with_reducible repeat (first | refine kN ?_ _ | refine kD ?_ | refine kA ?_ _)); refine blk_put (cs := #[.int .i64 t228, .bool t229, .int .u64 x191002_1]) ?_ 2 _ rfl; (with_reducible repeat (first | refine kN ?_ _ | refine kD ?_ | refine kA ?_ _)); refine blk_put (cs := #[.int .i64 t228, .bool x191001_1, .int .u64 x191002_1]) ?_ 1 _ rfl; (with_reducible repeat (first | refine kN ?_ _ | refine kD ?_ | refine kA ?_ _)); refine blk_put (cs := #[.int .i64 x191000_1, .bool x191001_1, .int .u64 x191002_1]) ?_ 0 _ rfl; (with_reducible repeat (first | refine kN ?_ _ | refine kD ?_ | refine kA ?_ _)); exact BK190.out) Tryd.underlying34 rfl (by kernel_rfl)) rfl ?_; exact ⟨by first | rfl | (simp [errW_none, errW_some] <;> rfl) | (simp [*, errW_none, errW_some] <;> rfl), by repeat (first | (with_reducible first | exact HB.out | apply bA | apply bN | apply bD | refine below_set ?_ GE189.out | refine below_set ?_ GE190.out) | exact HB.out)⟩
                   ·rw [if_neg c97] at H; have c97b0 : decide (a1_6 < 4096) = false := decide_eq_false c97; clear c97
                    by_cases c103 : a1_6 = 0
                    ·rw [if_pos c103] at H; exact absurd H (by simp)
                    ·rw [if_neg c103] at H; have c103b0 : (a1_6 == 0) = false := beq_eq_false_iff_ne.mpr c103; have c103b1 : (a1_6 != 0) = true := bne_iff_ne.mpr c103
                     by_cases c104 : (Int.tmod a1_2 a1_6) = (Int.tmod a1_3 a1_6)
                     ·rw [if_pos c104] at H; have c104b0 : ((Int.tmod a1_2 a1_6) == (Int.tmod a1_3 a1_6)) = true := beq_iff_eq.mpr c104; have c104b1 : ((Int.tmod a1_2 a1_6) != (Int.tmod a1_3 a1_6)) = false := bne_eq_false_iff_eq.mpr c104; clear c104
                      by_cases c105 : (IntKind.u64.wrap ((IntKind.u64.wrap (Int.tdiv a1_3 4096)) * 4096)) < x10_1
                      ·rw [if_pos c105] at H; have c105b0 : decide ((IntKind.u64.wrap ((IntKind.u64.wrap (Int.tdiv a1_3 4096)) * 4096)) < x10_1) = true := decide_eq_true c105; clear c105; replace H := Option.bind_eq_some_iff.mp H; obtain ⟨⟨t231, t232, t233⟩, A1060, H⟩ := H; replace H : (some (t231, t232, t233)) = some (r1, r2, r3) := H; have A106 := aM A1060; clear A1060; simp only [Option.some.injEq, Prod.mk.injEq] at H; obtain ⟨rfl, rfl, rfl⟩ := H; have hnb107 := NB189_190.out; have hnc107 := NB190_189.out; obtain ⟨hcz108_0, hcz108_1, hcz108_2, hcz108_3, hcz108_4, hcz108_5, hcz108_6, hfz108_0, hfz108_1, hfz108_2, hfz108_3, hfz108_4, hfz108_5, hfz108_6⟩ := bx7 BK189.out
                       go_wp2_with (first | (go_at_call 30; (with_reducible refine (shackleref04_at.calls 3 (IntKind.u64.wrap (a2 + 16)) t231 t232 t233 _ A106.out).mono ?_); rintro e w109 ⟨rfl, hb⟩; replace BK189 := aM (blk_below (g := gb189) (o := .cells #[.int .u32 a1_0, .int .u32 a1_1, .int .u64 a1_2, .int .u64 a1_3, .int .u64 a1_4, .int .u64 a1_5, .int .u64 a1_6] 50 (0, 0)) (by (with_reducible repeat (first | refine kN ?_ _ | refine kD ?_ | refine kA ?_ _)); exact BK189.out) hb); replace BK190 := aM (blk_below (g := gb190) (o := .cells #[.int .i64 x191000_1, .bool x191001_1, .int .u64 x191002_1] 34 (0, 0)) (by (with_reducible repeat (first | refine kN ?_ _ | refine kD ?_ | refine kA ?_ _)); exact BK190.out) hb); replace HB := aM (below_step (by repeat (first | (with_reducible first | exact HB.out | apply bA | apply bN | apply bD | refine below_set ?_ GE189.out | refine below_set ?_ GE190.out) | exact HB.out)) hb); (try clear hb); (try clear hb2); (try clear hk); (try clear hi); obtain ⟨hcz110_0, hcz110_1, hcz110_2, hfz110_0, hfz110_1, hfz110_2⟩ := bx3 BK190.out))
                       repeat (go_quiet (fail); try go_wp2_with (first | (go_at_call 30; (with_reducible refine (shackleref04_at.calls 3 (IntKind.u64.wrap (a2 + 16)) t231 t232 t233 _ A106.out).mono ?_); rintro e w109 ⟨rfl, hb⟩; replace BK189 := aM (blk_below (g := gb189) (o := .cells #[.int .u32 a1_0, .int .u32 a1_1, .int .u64 a1_2, .int .u64 a1_3, .int .u64 a1_4, .int .u64 a1_5, .int .u64 a1_6] 50 (0, 0)) (by (with_reducible repeat (first | refine kN ?_ _ | refine kD ?_ | refine kA ?_ _)); exact BK189.out) hb); replace BK190 := aM (blk_below (g := gb190) (o := .cells #[.int .i64 x191000_1, .bool x191001_1, .int .u64 x191002_1] 34 (0, 0)) (by (with_reducible repeat (first | refine kN ?_ _ | refine kD ?_ | refine kA ?_ _)); exact BK190.out) hb); replace HB := aM (below_step (by repeat (first | (with_reducible first | exact HB.out | apply bA | apply bN | apply bD | refine below_set ?_ GE189.out | refine below_set ?_ GE190.out) | exact HB.out)) hb); (try clear hb); (try clear hb2); (try clear hk); (try clear hi); obtain ⟨hcz110_0, hcz110_1, hcz110_2, hfz110_0, hfz110_1, hfz110_2⟩ := bx3 BK190.out)))
                       refine bodyPost_ret (results_cell_row rfl _ _ gb190 34 #[.int .i64 t231, .bool t232, .int .u64 t233] (0, 0) _ rfl (by (with_reducible repeat (first | refine kN ?_ _ | refine kD ?_ | refine kA ?_ _)); refine blk_put (cs := #[.int .i64 t231, .bool t232, .int .u64 x191002_1]) ?_ 2 _ rfl; (with_reducible repeat (first | refine kN ?_ _ | refine kD ?_ | refine kA ?_ _)); refine blk_put (cs := #[.int .i64 t231, .bool x191001_1, .int .u64 x191002_1]) ?_ 1 _ rfl; (with_reducible repeat (first | refine kN ?_ _ | refine kD ?_ | refine kA ?_ _)); refine blk_put (cs := #[.int .i64 x191000_1, .bool x191001_1, .int .u64 x191002_1]) ?_ 0 _ rfl; (with_reducible repeat (first | refine kN ?_ _ | refine kD ?_ | refine kA ?_ _)); exact BK190.out) Tryd.underlying34 rfl (by kernel_rfl)) rfl ?_; exact ⟨by first | rfl | (simp [errW_none, errW_some] <;> rfl) | (simp [*, errW_none, errW_some] <;> rfl), by repeat (first | (with_reducible first | exact HB.out | apply bA | apply bN | apply bD | refine below_set ?_ GE189.out | refine below_set ?_ GE190.out) | exact HB.out)⟩
                      ·rw [if_neg c105] at H; have c105b0 : decide ((IntKind.u64.wrap ((IntKind.u64.wrap (Int.tdiv a1_3 4096)) * 4096)) < x10_1) = false := decide_eq_false c105; clear c105; simp only [Option.some.injEq, Prod.mk.injEq] at H; obtain ⟨rfl, rfl, rfl⟩ := H; have hnb111 := NB189_190.out; have hnc111 := NB190_189.out; obtain ⟨hcz112_0, hcz112_1, hcz112_2, hcz112_3, hcz112_4, hcz112_5, hcz112_6, hfz112_0, hfz112_1, hfz112_2, hfz112_3, hfz112_4, hfz112_5, hfz112_6⟩ := bx7 BK189.out; obtain ⟨hcz113_0, hcz113_1, hcz113_2, hfz113_0, hfz113_1, hfz113_2⟩ := bx3 BK190.out
                       go_wp2
                       repeat (go_quiet (fail); try go_wp2)
                       refine bodyPost_ret (results_cell_row rfl _ _ gb190 34 #[.int .i64 0, .bool false, .int .u64 0] (0, 0) _ rfl (by (with_reducible repeat (first | refine kN ?_ _ | refine kD ?_ | refine kA ?_ _)); refine blk_put (cs := #[.int .i64 0, .bool false, .int .u64 x191002_1]) ?_ 2 _ rfl; (with_reducible repeat (first | refine kN ?_ _ | refine kD ?_ | refine kA ?_ _)); refine blk_put (cs := #[.int .i64 0, .bool x191001_1, .int .u64 x191002_1]) ?_ 1 _ rfl; (with_reducible repeat (first | refine kN ?_ _ | refine kD ?_ | refine kA ?_ _)); refine blk_put (cs := #[.int .i64 x191000_1, .bool x191001_1, .int .u64 x191002_1]) ?_ 0 _ rfl; (with_reducible repeat (first | refine kN ?_ _ | refine kD ?_ | refine kA ?_ _)); exact BK190.out) Tryd.underlying34 rfl (by kernel_rfl)) rfl ?_; exact ⟨by first | rfl | (simp [errW_none, errW_some] <;> rfl) | (simp [*, errW_none, errW_some] <;> rfl), by repeat (first | (with_reducible first | exact HB.out | apply bA | apply bN | apply bD | refine below_set ?_ GE189.out | refine below_set ?_ GE190.out) | exact HB.out)⟩
                     ·rw [if_neg c104] at H; have c104b0 : ((Int.tmod a1_2 a1_6) == (Int.tmod a1_3 a1_6)) = false := beq_eq_false_iff_ne.mpr c104; have c104b1 : ((Int.tmod a1_2 a1_6) != (Int.tmod a1_3 a1_6)) = true := bne_iff_ne.mpr c104; replace H := Option.bind_eq_some_iff.mp H; obtain ⟨⟨t234, t235, t236⟩, A1140, H⟩ := H; replace H : (some (t234, t235, t236)) = some (r1, r2, r3) := H; have A114 := aM A1140; clear A1140; simp only [Option.some.injEq, Prod.mk.injEq] at H; obtain ⟨rfl, rfl, rfl⟩ := H; have hnb115 := NB189_190.out; have hnc115 := NB190_189.out; obtain ⟨hcz116_0, hcz116_1, hcz116_2, hcz116_3, hcz116_4, hcz116_5, hcz116_6, hfz116_0, hfz116_1, hfz116_2, hfz116_3, hfz116_4, hfz116_5, hfz116_6⟩ := bx7 BK189.out
                      go_wp2_with (first | (go_at_call 30; (with_reducible refine (shackleref04_at.calls 3 (IntKind.u64.wrap (a2 + 16)) t234 t235 t236 _ A114.out).mono ?_); rintro e w117 ⟨rfl, hb⟩; replace BK189 := aM (blk_below (g := gb189) (o := .cells #[.int .u32 a1_0, .int .u32 a1_1, .int .u64 a1_2, .int .u64 a1_3, .int .u64 a1_4, .int .u64 a1_5, .int .u64 a1_6] 50 (0, 0)) (by (with_reducible repeat (first | refine kN ?_ _ | refine kD ?_ | refine kA ?_ _)); exact BK189.out) hb); replace BK190 := aM (blk_below (g := gb190) (o := .cells #[.int .i64 x191000_1, .bool x191001_1, .int .u64 x191002_1] 34 (0, 0)) (by (with_reducible repeat (first | refine kN ?_ _ | refine kD ?_ | refine kA ?_ _)); exact BK190.out) hb); replace HB := aM (below_step (by repeat (first | (with_reducible first | exact HB.out | apply bA | apply bN | apply bD | refine below_set ?_ GE189.out | refine below_set ?_ GE190.out) | exact HB.out)) hb); (try clear hb); (try clear hb2); (try clear hk); (try clear hi); obtain ⟨hcz118_0, hcz118_1, hcz118_2, hfz118_0, hfz118_1, hfz118_2⟩ := bx3 BK190.out))
                      repeat (go_quiet (fail); try go_wp2_with (first | (go_at_call 30; (with_reducible refine (shackleref04_at.calls 3 (IntKind.u64.wrap (a2 + 16)) t234 t235 t236 _ A114.out).mono ?_); rintro e w117 ⟨rfl, hb⟩; replace BK189 := aM (blk_below (g := gb189) (o := .cells #[.int .u32 a1_0, .int .u32 a1_1, .int .u64 a1_2, .int .u64 a1_3, .int .u64 a1_4, .int .u64 a1_5, .int .u64 a1_6] 50 (0, 0)) (by (with_reducible repeat (first | refine kN ?_ _ | refine kD ?_ | refine kA ?_ _)); exact BK189.out) hb); replace BK190 := aM (blk_below (g := gb190) (o := .cells #[.int .i64 x191000_1, .bool x191001_1, .int .u64 x191002_1] 34 (0, 0)) (by (with_reducible repeat (first | refine kN ?_ _ | refine kD ?_ | refine kA ?_ _)); exact BK190.out) hb); replace HB := aM (below_step (by repeat (first | (with_reducible first | exact HB.out | apply bA | apply bN | apply bD | refine below_set ?_ GE189.out | refine below_set ?_ GE190.out) | exact HB.out)) hb); (try clear hb); (try clear hb2); (try clear hk); (try clear hi); obtain ⟨hcz118_0, hcz118_1, hcz118_2, hfz118_0, hfz118_1, hfz118_2⟩ := bx3 BK190.out)))
                      refine bodyPost_ret (results_cell_row rfl _ _ gb190 34 #[.int .i64 t234, .bool t235, .int .u64 t236] (0, 0) _ rfl (by (with_reducible repeat (first | refine kN ?_ _ | refine kD ?_ | refine kA ?_ _)); refine blk_put (cs := #[.int .i64 t234, .bool t235, .int .u64 x191002_1]) ?_ 2 _ rfl; (with_reducible repeat (first | refine kN ?_ _ | refine kD ?_ | refine kA ?_ _)); refine blk_put (cs := #[.int .i64 t234, .bool x191001_1, .int .u64 x191002_1]) ?_ 1 _ rfl; (with_reducible repeat (first | refine kN ?_ _ | refine kD ?_ | refine kA ?_ _)); refine blk_put (cs := #[.int .i64 x191000_1, .bool x191001_1, .int .u64 x191002_1]) ?_ 0 _ rfl; (with_reducible repeat (first | refine kN ?_ _ | refine kD ?_ | refine kA ?_ _)); exact BK190.out) Tryd.underlying34 rfl (by kernel_rfl)) rfl ?_; exact ⟨by first | rfl | (simp [errW_none, errW_some] <;> rfl) | (simp [*, errW_none, errW_some] <;> rfl), by repeat (first | (with_reducible first | exact HB.out | apply bA | apply bN | apply bD | refine below_set ?_ GE189.out | refine below_set ?_ GE190.out) | exact HB.out)⟩

end Go.Proofs.YtjohdgejjnbddaaDoor.PHeadReads
