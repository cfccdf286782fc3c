/- Printed by this session's own program (wip/tools: a turn of the kit's print) out of the translation: each Go function that the law reaches as a Lean function, and that the machine's call comes to what that function tells; no condition but what each theorem names. -/
import Derived.Test.YthhlnhbmjkjmlaaDoorPSpanCutsx0
import Derived.Test.YthhlnhbmjkjmlaaDoorPSpanCutsx1
import Derived.Test.YthhlnhbmjkjmlaaDoorPSpanCutsx2
namespace Go.Proofs.YthhlnhbmjkjmlaaDoor.PSpanCuts
open Go.RowKit Go.Proofs.YthhlnhbmjkjmlaaDoorW.PrintWords Go.Proofs.YthhlnhbmjkjmlaaDoorW.PrintLast Go.Proofs.YthhlnhbmjkjmlaaDoorW.PrintMore Go.Proofs.YthhlnhbmjkjmlaaDoorX
attribute [local go_sem] max2_int min2_int max_two min_two max_three min_three max_four min_four   -- for this text's walks alone
set_option linter.unusedVariables false
set_option linter.unusedSimpArgs false

/-! ### shacklelaw01_SpanCuts: function 4 -/
mutual
def shacklelaw01_SpanCuts.j0 : Nat → List Int → Int → Int → Bool → Option Int → Bool → Bool → Option (Bool)
  | 0, _, _, _, _, _, _, _ => none
  | k + 1, x0, x1, x2, x7, x10, x12, x50 => if x50 = true then (some false) else (if x12 = true then (if ([] : List Int).length + x0.length < 140737488355328 then ((some (([] : List Int) ++ x0 : List Int)).bind fun y190 => ((span_Cut.f y190 x1 x2).bind fun bt193 => (if bt193.2.isNone = true then (shacklelaw01_SpanCuts.l0 k x0 x7 x10 y190 bt193.1 none 0) else (if (bt193.2.getD 0) < 0 then (none) else (shacklelaw01_SpanCuts.l0 k x0 x7 x10 y190 bt193.1 (some (bt193.2.getD 0)) 0))))) else (none)) else (if x10.isNone = true then ((shacklelaw00_Is.f none x1 4).bind fun t188 => (if x7 = true then (some t188) else (some false))) else (if 0 ≤ (x10.getD 0) then ((shacklelaw00_Is.f (some (x10.getD 0)) x1 4).bind fun t189 => (if x7 = true then (some t189) else (some false))) else (none))))
def shacklelaw01_SpanCuts.l0 : Nat → List Int → Bool → Option Int → List Int → List Int → Option Int → Int → Option (Bool)
  | 0, _, _, _, _, _, _, _ => none
  | k + 1, x0, x7, x10, x15, x16, x17, x18 => if x18 < (x16.length : Int) then (if 0 ≤ x18 then (shacklelaw01_SpanCuts.l0 k x0 x7 x10 x15 (x16.set (x18 : Int).toNat (((rd x16 x18) + 1) % 256)) x17 (wrap64 (x18 + 1))) else (none)) else ((shackleref01_Same.f k x15 x0).bind fun t201 => (if x7 = true then (if x10.isNone = true then (if x17.isNone = true then (some t201) else (some false)) else (some false)) else (some false)))
def shacklelaw01_SpanCuts.j2 : Nat → List Int → Int → Int → Bool → Option Int → Bool → Bool → Option (Bool)
  | 0, _, _, _, _, _, _, _ => none
  | k + 1, x0, x1, x2, x7, x10, x12, x50 => if x50 = true then (some false) else (if x12 = true then (if ([] : List Int).length + x0.length < 140737488355328 then ((some (([] : List Int) ++ x0 : List Int)).bind fun y227 => ((span_Cut.f y227 x1 x2).bind fun bt230 => (if bt230.2.isNone = true then (shacklelaw01_SpanCuts.l0 k x0 x7 x10 y227 bt230.1 none 0) else (if (bt230.2.getD 0) < 0 then (none) else (shacklelaw01_SpanCuts.l0 k x0 x7 x10 y227 bt230.1 (some (bt230.2.getD 0)) 0))))) else (none)) else (if x10.isNone = true then ((shacklelaw00_Is.f none x1 4).bind fun t225 => (if x7 = true then (some t225) else (some false))) else (if 0 ≤ (x10.getD 0) then ((shacklelaw00_Is.f (some (x10.getD 0)) x1 4).bind fun t226 => (if x7 = true then (some t226) else (some false))) else (none))))
end
def shacklelaw01_SpanCuts.f (k : Nat) (l0 : List Int) (a1 : Int) (a2 : Int) : Option (Bool) := (shacklelaw01_shown.f k).bind fun t174 => ((span_In.f (IntKind.u64.wrap ((l0.length : Int))) a1 a2).bind fun t175 => ((span_Cut.f l0 a1 a2).bind fun bt176 => (if bt176.2.isNone = true then ((shackleref01_Cut.f k l0 a1 a2).bind fun bt182 => ((shackleref01_Same.f k bt176.1 bt182.1).bind fun t186 => (if (t175 != bt182.2) = true then (shacklelaw01_SpanCuts.j0 k l0 a1 a2 t174 none bt182.2 true) else (shacklelaw01_SpanCuts.j0 k l0 a1 a2 t174 none bt182.2 (!t186))))) else (if (bt176.2.getD 0) < 0 then ((shackleref01_Cut.f k l0 a1 a2).bind fun bt204 => ((shackleref01_Same.f k bt176.1 bt204.1).bind fun t208 => (if (t175 != bt204.2) = true then (some false) else (if t208 = true then (if bt204.2 = true then (if ([] : List Int).length + l0.length < 140737488355328 then ((span_Cut.f (([] : List Int) ++ l0) a1 a2).bind fun bt212 => (if bt212.2.isNone = true then (none) else (if (bt212.2.getD 0) < 0 then (none) else (none)))) else (none)) else ((shacklelaw00_Is.f (some (bt176.2.getD 0)) a1 4).bind fun t218 => (if t174 = true then (some t218) else (some false)))) else (some false))))) else ((shackleref01_Cut.f k l0 a1 a2).bind fun bt219 => ((shackleref01_Same.f k bt176.1 bt219.1).bind fun t223 => (if (t175 != bt219.2) = true then (shacklelaw01_SpanCuts.j2 k l0 a1 a2 t174 (some (bt176.2.getD 0)) bt219.2 true) else (shacklelaw01_SpanCuts.j2 k l0 a1 a2 t174 (some (bt176.2.getD 0)) bt219.2 (!t223)))))))))
theorem shacklelaw01_SpanCuts.mono_l : ∀ k, (∀ y0 y1 y2 y3 y4 y5 y6, LeO (shacklelaw01_SpanCuts.j0 k y0 y1 y2 y3 y4 y5 y6) (shacklelaw01_SpanCuts.j0 (k + 1) y0 y1 y2 y3 y4 y5 y6)) ∧ (∀ y0 y1 y2 y3 y4 y5 y6, LeO (shacklelaw01_SpanCuts.l0 k y0 y1 y2 y3 y4 y5 y6) (shacklelaw01_SpanCuts.l0 (k + 1) y0 y1 y2 y3 y4 y5 y6)) ∧ (∀ y0 y1 y2 y3 y4 y5 y6, LeO (shacklelaw01_SpanCuts.j2 k y0 y1 y2 y3 y4 y5 y6) (shacklelaw01_SpanCuts.j2 (k + 1) y0 y1 y2 y3 y4 y5 y6))
  | 0 => ⟨fun _ _ _ _ _ _ _ r h => by simp [shacklelaw01_SpanCuts.j0] at h, fun _ _ _ _ _ _ _ r h => by simp [shacklelaw01_SpanCuts.l0] at h, fun _ _ _ _ _ _ _ r h => by simp [shacklelaw01_SpanCuts.j2] at h⟩
  | k + 1 => by
    obtain ⟨ih0, ih1, ih2⟩ := shacklelaw01_SpanCuts.mono_l k
    refine ⟨?_, ?_, ?_⟩
    · intro y0 y1 y2 y3 y4 y5 y6
      unfold shacklelaw01_SpanCuts.j0
      repeat' first
      | (with_reducible exact ih0 _ _ _ _ _ _ _)
      | (with_reducible exact ih1 _ _ _ _ _ _ _)
      | (with_reducible exact ih2 _ _ _ _ _ _ _)
      | (with_reducible exact shacklelaw01_shown.mono _)
      | (with_reducible exact shackleref01_Cut.mono _ _ _ _)
      | (with_reducible exact shackleref01_Same.mono _ _ _)
      | (with_reducible exact LeO.refl _)
      | (with_reducible exact LeO.none _)
      | (with_reducible refine LeO.ite ?_ ?_)
      | (with_reducible refine LeO.bind ?_ (fun _ => ?_))
      | exact ih0 _ _ _ _ _ _ _
      | exact ih1 _ _ _ _ _ _ _
      | exact ih2 _ _ _ _ _ _ _
      | exact shacklelaw01_shown.mono _
      | exact shackleref01_Cut.mono _ _ _ _
      | exact shackleref01_Same.mono _ _ _
      | exact LeO.none _
      | refine LeO.ite ?_ ?_
      | refine LeO.bind ?_ (fun _ => ?_)
    · intro y0 y1 y2 y3 y4 y5 y6
      unfold shacklelaw01_SpanCuts.l0
      repeat' first
      | (with_reducible exact ih0 _ _ _ _ _ _ _)
      | (with_reducible exact ih1 _ _ _ _ _ _ _)
      | (with_reducible exact ih2 _ _ _ _ _ _ _)
      | (with_reducible exact shacklelaw01_shown.mono _)
      | (with_reducible exact shackleref01_Cut.mono _ _ _ _)
      | (with_reducible exact shackleref01_Same.mono _ _ _)
      | (with_reducible exact LeO.refl _)
      | (with_reducible exact LeO.none _)
      | (with_reducible refine LeO.ite ?_ ?_)
      | (with_reducible refine LeO.bind ?_ (fun _ => ?_))
      | exact ih0 _ _ _ _ _ _ _
      | exact ih1 _ _ _ _ _ _ _
      | exact ih2 _ _ _ _ _ _ _
      | exact shacklelaw01_shown.mono _
      | exact shackleref01_Cut.mono _ _ _ _
      | exact shackleref01_Same.mono _ _ _
      | exact LeO.none _
      | refine LeO.ite ?_ ?_
      | refine LeO.bind ?_ (fun _ => ?_)
    · intro y0 y1 y2 y3 y4 y5 y6
      unfold shacklelaw01_SpanCuts.j2
      repeat' first
      | (with_reducible exact ih0 _ _ _ _ _ _ _)
      | (with_reducible exact ih1 _ _ _ _ _ _ _)
      | (with_reducible exact ih2 _ _ _ _ _ _ _)
      | (with_reducible exact shacklelaw01_shown.mono _)
      | (with_reducible exact shackleref01_Cut.mono _ _ _ _)
      | (with_reducible exact shackleref01_Same.mono _ _ _)
      | (with_reducible exact LeO.refl _)
      | (with_reducible exact LeO.none _)
      | (with_reducible refine LeO.ite ?_ ?_)
      | (with_reducible refine LeO.bind ?_ (fun _ => ?_))
      | exact ih0 _ _ _ _ _ _ _
      | exact ih1 _ _ _ _ _ _ _
      | exact ih2 _ _ _ _ _ _ _
      | exact shacklelaw01_shown.mono _
      | exact shackleref01_Cut.mono _ _ _ _
      | exact shackleref01_Same.mono _ _ _
      | exact LeO.none _
      | refine LeO.ite ?_ ?_
      | refine LeO.bind ?_ (fun _ => ?_)
theorem shacklelaw01_SpanCuts.mono : ∀ a0 a1 a2 k, LeO (shacklelaw01_SpanCuts.f k a0 a1 a2) (shacklelaw01_SpanCuts.f (k + 1) a0 a1 a2) := by
  intro a0 a1 a2 k
  obtain ⟨ih0, ih1, ih2⟩ := shacklelaw01_SpanCuts.mono_l k
  unfold shacklelaw01_SpanCuts.f
  repeat' first
      | (with_reducible exact ih0 _ _ _ _ _ _ _)
      | (with_reducible exact ih1 _ _ _ _ _ _ _)
      | (with_reducible exact ih2 _ _ _ _ _ _ _)
      | (with_reducible exact shacklelaw01_shown.mono _)
      | (with_reducible exact shackleref01_Cut.mono _ _ _ _)
      | (with_reducible exact shackleref01_Same.mono _ _ _)
      | (with_reducible exact LeO.refl _)
      | (with_reducible exact LeO.none _)
      | (with_reducible refine LeO.ite ?_ ?_)
      | (with_reducible refine LeO.bind ?_ (fun _ => ?_))
      | exact ih0 _ _ _ _ _ _ _
      | exact ih1 _ _ _ _ _ _ _
      | exact ih2 _ _ _ _ _ _ _
      | exact shacklelaw01_shown.mono _
      | exact shackleref01_Cut.mono _ _ _ _
      | exact shackleref01_Same.mono _ _ _
      | exact LeO.none _
      | refine LeO.ite ?_ ?_
      | refine LeO.bind ?_ (fun _ => ?_)
set_option maxHeartbeats 8000000 in
set_option maxRecDepth 100000 in
theorem shacklelaw01_SpanCuts.calls (k : Nat) (A0 : Option Addr) (c0 : Nat) (l0 : List Int) (a1 : Int) (a2 : Int) (r : Bool) (w : World) (hG : ErrTy w) (hr0 : Kd.C (Kd.int .u8) w A0 l0.length l0) (hc0 : l0.length ≤ c0) (h : shacklelaw01_SpanCuts.f k l0 a1 a2 = some r) :
    Calls Tryd.prog 4 #[.slice A0 l0.length c0, .int .u64 a1, .int .u64 a2] w fun e w' => e = .returned (.bool r) ∧ Below w.heap.size w w' := by
  have hu26 := Tryd.underlying26
  have hu40 := Tryd.underlying40
  have HR0 := Aside0.mk hr0
  have HC0 := Aside0.mk hc0
  clear hr0 hc0
  have HB := Aside0.mk (Below.refl w.heap.size w)
  have H : ((shacklelaw01_shown.f k).bind fun t174 => ((span_In.f (IntKind.u64.wrap ((l0.length : Int))) a1 a2).bind fun t175 => ((span_Cut.f l0 a1 a2).bind fun bt176 => (if bt176.2.isNone = true then ((shackleref01_Cut.f k l0 a1 a2).bind fun bt182 => ((shackleref01_Same.f k bt176.1 bt182.1).bind fun t186 => (if (t175 != bt182.2) = true then (shacklelaw01_SpanCuts.j0 k l0 a1 a2 t174 none bt182.2 true) else (shacklelaw01_SpanCuts.j0 k l0 a1 a2 t174 none bt182.2 (!t186))))) else (if (bt176.2.getD 0) < 0 then ((shackleref01_Cut.f k l0 a1 a2).bind fun bt204 => ((shackleref01_Same.f k bt176.1 bt204.1).bind fun t208 => (if (t175 != bt204.2) = true then (some false) else (if t208 = true then (if bt204.2 = true then (if ([] : List Int).length + l0.length < 140737488355328 then ((span_Cut.f (([] : List Int) ++ l0) a1 a2).bind fun bt212 => (if bt212.2.isNone = true then (none) else (if (bt212.2.getD 0) < 0 then (none) else (none)))) else (none)) else ((shacklelaw00_Is.f (some (bt176.2.getD 0)) a1 4).bind fun t218 => (if t174 = true then (some t218) else (some false)))) else (some false))))) else ((shackleref01_Cut.f k l0 a1 a2).bind fun bt219 => ((shackleref01_Same.f k bt176.1 bt219.1).bind fun t223 => (if (t175 != bt219.2) = true then (shacklelaw01_SpanCuts.j2 k l0 a1 a2 t174 (some (bt176.2.getD 0)) bt219.2 true) else (shacklelaw01_SpanCuts.j2 k l0 a1 a2 t174 (some (bt176.2.getD 0)) bt219.2 (!t223)))))))))) = some r := h
  clear h
  replace H := Option.bind_eq_some_iff.mp H
  obtain ⟨t174, A40, H⟩ := H
  replace H : ((span_In.f (IntKind.u64.wrap ((l0.length : Int))) a1 a2).bind fun t175 => ((span_Cut.f l0 a1 a2).bind fun bt176 => (if bt176.2.isNone = true then ((shackleref01_Cut.f k l0 a1 a2).bind fun bt182 => ((shackleref01_Same.f k bt176.1 bt182.1).bind fun t186 => (if (t175 != bt182.2) = true then (shacklelaw01_SpanCuts.j0 k l0 a1 a2 t174 none bt182.2 true) else (shacklelaw01_SpanCuts.j0 k l0 a1 a2 t174 none bt182.2 (!t186))))) else (if (bt176.2.getD 0) < 0 then ((shackleref01_Cut.f k l0 a1 a2).bind fun bt204 => ((shackleref01_Same.f k bt176.1 bt204.1).bind fun t208 => (if (t175 != bt204.2) = true then (some false) else (if t208 = true then (if bt204.2 = true then (if ([] : List Int).length + l0.length < 140737488355328 then ((span_Cut.f (([] : List Int) ++ l0) a1 a2).bind fun bt212 => (if bt212.2.isNone = true then (none) else (if (bt212.2.getD 0) < 0 then (none) else (none)))) else (none)) else ((shacklelaw00_Is.f (some (bt176.2.getD 0)) a1 4).bind fun t218 => (if t174 = true then (some t218) else (some false)))) else (some false))))) else ((shackleref01_Cut.f k l0 a1 a2).bind fun bt219 => ((shackleref01_Same.f k bt176.1 bt219.1).bind fun t223 => (if (t175 != bt219.2) = true then (shacklelaw01_SpanCuts.j2 k l0 a1 a2 t174 (some (bt176.2.getD 0)) bt219.2 true) else (shacklelaw01_SpanCuts.j2 k l0 a1 a2 t174 (some (bt176.2.getD 0)) bt219.2 (!t223))))))))) = some r := H
  have A4 := Aside0.mk A40
  clear A40
  replace H := Option.bind_eq_some_iff.mp H
  obtain ⟨t175, A50, H⟩ := H
  replace H : ((span_Cut.f l0 a1 a2).bind fun bt176 => (if bt176.2.isNone = true then ((shackleref01_Cut.f k l0 a1 a2).bind fun bt182 => ((shackleref01_Same.f k bt176.1 bt182.1).bind fun t186 => (if (t175 != bt182.2) = true then (shacklelaw01_SpanCuts.j0 k l0 a1 a2 t174 none bt182.2 true) else (shacklelaw01_SpanCuts.j0 k l0 a1 a2 t174 none bt182.2 (!t186))))) else (if (bt176.2.getD 0) < 0 then ((shackleref01_Cut.f k l0 a1 a2).bind fun bt204 => ((shackleref01_Same.f k bt176.1 bt204.1).bind fun t208 => (if (t175 != bt204.2) = true then (some false) else (if t208 = true then (if bt204.2 = true then (if ([] : List Int).length + l0.length < 140737488355328 then ((span_Cut.f (([] : List Int) ++ l0) a1 a2).bind fun bt212 => (if bt212.2.isNone = true then (none) else (if (bt212.2.getD 0) < 0 then (none) else (none)))) else (none)) else ((shacklelaw00_Is.f (some (bt176.2.getD 0)) a1 4).bind fun t218 => (if t174 = true then (some t218) else (some false)))) else (some false))))) else ((shackleref01_Cut.f k l0 a1 a2).bind fun bt219 => ((shackleref01_Same.f k bt176.1 bt219.1).bind fun t223 => (if (t175 != bt219.2) = true then (shacklelaw01_SpanCuts.j2 k l0 a1 a2 t174 (some (bt176.2.getD 0)) bt219.2 true) else (shacklelaw01_SpanCuts.j2 k l0 a1 a2 t174 (some (bt176.2.getD 0)) bt219.2 (!t223)))))))) = some r := H
  have A5 := Aside0.mk A50
  clear A50
  replace H := Option.bind_eq_some_iff.mp H
  obtain ⟨⟨t176, t177⟩, A60, H⟩ := H
  replace H : (if t177.isNone = true then ((shackleref01_Cut.f k l0 a1 a2).bind fun bt182 => ((shackleref01_Same.f k t176 bt182.1).bind fun t186 => (if (t175 != bt182.2) = true then (shacklelaw01_SpanCuts.j0 k l0 a1 a2 t174 none bt182.2 true) else (shacklelaw01_SpanCuts.j0 k l0 a1 a2 t174 none bt182.2 (!t186))))) else (if (t177.getD 0) < 0 then ((shackleref01_Cut.f k l0 a1 a2).bind fun bt204 => ((shackleref01_Same.f k t176 bt204.1).bind fun t208 => (if (t175 != bt204.2) = true then (some false) else (if t208 = true then (if bt204.2 = true then (if ([] : List Int).length + l0.length < 140737488355328 then ((span_Cut.f (([] : List Int) ++ l0) a1 a2).bind fun bt212 => (if bt212.2.isNone = true then (none) else (if (bt212.2.getD 0) < 0 then (none) else (none)))) else (none)) else ((shacklelaw00_Is.f (some (t177.getD 0)) a1 4).bind fun t218 => (if t174 = true then (some t218) else (some false)))) else (some false))))) else ((shackleref01_Cut.f k l0 a1 a2).bind fun bt219 => ((shackleref01_Same.f k t176 bt219.1).bind fun t223 => (if (t175 != bt219.2) = true then (shacklelaw01_SpanCuts.j2 k l0 a1 a2 t174 (some (t177.getD 0)) bt219.2 true) else (shacklelaw01_SpanCuts.j2 k l0 a1 a2 t174 (some (t177.getD 0)) bt219.2 (!t223))))))) = some r := H
  have A6 := Aside0.mk A60
  clear A60
  rcases t177 with _ | q180
  · have H1 : ((shackleref01_Cut.f k l0 a1 a2).bind fun bt182 => ((shackleref01_Same.f k t176 bt182.1).bind fun t186 => (if (t175 != bt182.2) = true then (shacklelaw01_SpanCuts.j0 k l0 a1 a2 t174 none bt182.2 true) else (shacklelaw01_SpanCuts.j0 k l0 a1 a2 t174 none bt182.2 (!t186))))) = some r := by rw [if_pos (show (none : Option Int).isNone = true by rfl)] at H; exact H
    clear H
    have H := H1
    clear H1
    try simp only [errW_none, errW_some]
    replace H := Option.bind_eq_some_iff.mp H
    obtain ⟨⟨t182, t183⟩, A70, H⟩ := H
    replace H : ((shackleref01_Same.f k t176 t182).bind fun t186 => (if (t175 != t183) = true then (shacklelaw01_SpanCuts.j0 k l0 a1 a2 t174 none t183 true) else (shacklelaw01_SpanCuts.j0 k l0 a1 a2 t174 none t183 (!t186)))) = some r := H
    have A7 := Aside0.mk A70
    clear A70
    replace H := Option.bind_eq_some_iff.mp H
    obtain ⟨t186, A80, H⟩ := H
    replace H : (if (t175 != t183) = true then (shacklelaw01_SpanCuts.j0 k l0 a1 a2 t174 none t183 true) else (shacklelaw01_SpanCuts.j0 k l0 a1 a2 t174 none t183 (!t186))) = some r := H
    have A8 := Aside0.mk A80
    clear A80
    have HC9 := Aside0.mk H
    clear H
    go_enter Tryd.func4, Tryd.ntmps4
    go_upto_region 6 with (first | ((with_reducible refine gate_callee (f := 6) rfl ?_); refine goesL_ (some 20) rfl rfl Tryd.func6 (by kernel_rfl) rfl #[] rfl (by (try simp only [List.map_toArray, List.map_cons, List.map_nil]); first | done | rfl | (simp only [List.length_drop, List.length_take]; rfl)) ?_; (with_reducible refine (shacklelaw01_shown.calls k  t174 _ A4.out).mono ?_); rintro e w10 ⟨rfl, hb⟩; refine ⟨_, rfl, ?_⟩; have n0_ := Aside0.mk (below_step (by repeat (first | (with_reducible first | exact HB.out | apply below_alloc | apply pw_below_drewN | apply below_drew1) | exact HB.out)) hb); clear HB; have HB := n0_; clear n0_; (try clear hb); (try clear hb2); (try clear hk); (try clear hi)) | ((with_reducible refine gate_callee (f := 10) rfl ?_); refine goesL_ (some 26) rfl rfl Tryd.func10 (by kernel_rfl) rfl #[.int .u64 (IntKind.u64.wrap ((l0.length : Int))), .int .u64 a1, .int .u64 a2] rfl (by (try simp only [List.map_toArray, List.map_cons, List.map_nil]); first | done | rfl | (simp only [List.length_drop, List.length_take]; rfl)) ?_; (with_reducible refine (span_In.calls (IntKind.u64.wrap ((l0.length : Int))) a1 a2 t175 _ A5.out).mono ?_); rintro e w' ⟨rfl, ⟨nd, rfl⟩⟩; refine ⟨_, rfl, ?_⟩) | ((with_reducible refine gate_callee (f := 11) rfl ?_); refine goesL_ (some 31) rfl rfl Tryd.func11 (by kernel_rfl) rfl #[.slice A0 l0.length c0, .int .u64 a1, .int .u64 a2] rfl (by (try simp only [List.map_toArray, List.map_cons, List.map_nil]); first | done | rfl | (simp only [List.length_drop, List.length_take]; rfl)) ?_; (with_reducible refine (span_Cut.calls _ _ l0 a1 a2 t176 none _ ?side1 ?side2 A6.out).mono ?_); (case side1 => repeat (first | exact (Kd.C_below HR0.out (by repeat (first | (with_reducible first | exact HB.out | apply below_alloc | apply pw_below_drewN | apply below_drew1) | exact HB.out))) | (with_reducible refine Kd.C_alloc ?_ _) | (with_reducible refine Kd.C_drewN ?_ _) | (with_reducible refine Kd.C_drew ?_))); (case side2 => exact HC0.out); rintro e w11 ⟨v178, ve1_, rfl, hE1_, ho0, hb⟩; refine ⟨_, rfl, ?_⟩; obtain rfl := ErrAt.none_eq hE1_; have n0_ := Aside0.mk (Kd.R_lower ho0 (below_size (by repeat (first | (with_reducible first | exact HB.out | apply below_alloc | apply pw_below_drewN | apply below_drew1) | exact HB.out)))); have n1_ := Aside0.mk (below_step (by repeat (first | (with_reducible first | exact HB.out | apply below_alloc | apply pw_below_drewN | apply below_drew1) | exact HB.out)) hb); clear HB; have HO179 := n0_; have HB := n1_; clear n0_ n1_; (try clear hb); (try clear hb2); (try clear hk); (try clear hi); (try clear ho0); (try simp only [errW_none, errW_some])) | ((with_reducible refine gate_callee (f := 12) rfl ?_); refine goesL_ (some 38) rfl rfl Tryd.func12 (by kernel_rfl) rfl #[.slice A0 l0.length c0, .int .u64 a1, .int .u64 a2] rfl (by (try simp only [List.map_toArray, List.map_cons, List.map_nil]); first | done | rfl | (simp only [List.length_drop, List.length_take]; rfl)) ?_; (with_reducible refine (shackleref01_Cut.calls k _ _ l0 a1 a2 t182 t183 _ ?side1 ?side2 A7.out).mono ?_); (case side1 => repeat (first | exact (Kd.C_below HR0.out HB.out) | (with_reducible refine Kd.C_alloc ?_ _) | (with_reducible refine Kd.C_drewN ?_ _) | (with_reducible refine Kd.C_drew ?_))); (case side2 => exact HC0.out); rintro e w12 ⟨v184, rfl, ho0, hb⟩; refine ⟨_, rfl, ?_⟩; have n0_ := Aside0.mk (Kd.R_elder' (by (with_reducible repeat (first | apply Kd.R_alloc | apply Kd.R_drewN | apply Kd.R_drew)); exact HO179.out) (Kd.R_base ho0) hb); have n1_ := Aside0.mk (Kd.R_lower (Kd.R_new' ho0 (Kd.R_lt (by (with_reducible repeat (first | apply Kd.R_alloc | apply Kd.R_drewN | apply Kd.R_drew)); exact HO179.out))) (below_size (by repeat (first | (with_reducible first | exact HB.out | apply below_alloc | apply pw_below_drewN | apply below_drew1) | exact HB.out)))); have n2_ := Aside0.mk (below_step (by repeat (first | (with_reducible first | exact HB.out | apply below_alloc | apply pw_below_drewN | apply below_drew1) | exact HB.out)) hb); clear HO179; clear HB; have HO179 := n0_; have HO185 := n1_; have HB := n2_; clear n0_ n1_ n2_; (try clear hb); (try clear hb2); (try clear hk); (try clear hi); (try clear ho0); obtain ⟨Ao13, co13, eo13⟩ := Kd.R_slice HO179.out; subst eo13; obtain ⟨Ao14, co14, eo14⟩ := Kd.R_slice HO185.out; subst eo14) | ((with_reducible refine gate_callee (f := 13) rfl ?_); refine goesL_ (some 43) rfl rfl Tryd.func13 (by kernel_rfl) rfl #[.slice Ao13 t176.length co13, .slice Ao14 t182.length co14] rfl (by (try simp only [List.map_toArray, List.map_cons, List.map_nil]); first | done | rfl | (simp only [List.length_drop, List.length_take]; rfl)) ?_; (with_reducible refine (shackleref01_Same.calls k _ _ t176 _ _ t182 t186 _ ?side1 ?side2 ?side3 ?side4 A8.out).mono ?_); (case side1 => repeat (first | exact (Kd.R_reads' HO179.out).2.2 | (with_reducible refine Kd.C_alloc ?_ _) | (with_reducible refine Kd.C_drewN ?_ _) | (with_reducible refine Kd.C_drew ?_))); (case side2 => exact (Kd.R_reads' HO179.out).2.1); (case side3 => repeat (first | exact (Kd.R_reads' HO185.out).2.2 | (with_reducible refine Kd.C_alloc ?_ _) | (with_reducible refine Kd.C_drewN ?_ _) | (with_reducible refine Kd.C_drew ?_))); (case side4 => exact (Kd.R_reads' HO185.out).2.1); rintro e w' ⟨rfl, ⟨nd, rfl⟩⟩; refine ⟨_, rfl, ?_⟩))
    (try simp only [Act.put, List.setIfInBounds_toArray, List.set_cons_zero, List.set_cons_succ])
    go_cut [50] (fun v50 wc => ∃ (kq : Nat) (x50_8 : Bool), v50 = .bool x50_8 ∧ Aside0 (shacklelaw01_SpanCuts.j0 kq l0 a1 a2 t174 (none : Option Int) t183 x50_8 = some r) ∧ Aside0 (kq ≤ k) ∧ Aside0 (Below w.heap.size w wc))
    case first =>
      have H := HC9.out
      clear HC9
      by_cases c15 : (t175 != t183) = true
      · rw [if_pos c15] at H
        have c15b0 : (t175 != t183) = true := c15
        (try (have c15b1 : decide (t175 = t183) = false := by simpa using c15))
        (try (have c15b2 : (t175 == t183) = false := by simpa using c15))
        (try (have c15b3 : ¬ (t175 = t183) := by simpa using c15))
        clear c15
        (first | rw [c15b0] | (simp only [i64_w, i32_w]; rw [c15b0]) | skip)
        have H' := Aside0.mk H
        clear H
        go_wp2
        go_meet
        case rel => exact ⟨_, (true), (by first | rfl | (simp; done) | (simp [*]; done)), H', ⟨by first | omega | exact Nat.le_refl _⟩, ⟨by repeat (first | (with_reducible first | exact HB.out | apply below_alloc | apply pw_below_drewN | apply below_drew1) | exact HB.out)⟩⟩
      · rw [if_neg c15] at H
        have c15b0 : (t175 != t183) = false := by simpa using c15
        (try (have c15b1 : decide (t175 = t183) = true := by simpa using c15))
        (try (have c15b2 : (t175 == t183) = true := by simpa using c15))
        clear c15
        (first | rw [c15b0] | (simp only [i64_w, i32_w]; rw [c15b0]) | skip)
        have H' := Aside0.mk H
        clear H
        go_wp2
        go_meet
        case rel => exact ⟨_, (!t186), (by first | rfl | (simp; done) | (simp [*]; done)), H', ⟨by first | omega | exact Nat.le_refl _⟩, ⟨by repeat (first | (with_reducible first | exact HB.out | apply below_alloc | apply pw_below_drewN | apply below_drew1) | exact HB.out)⟩⟩
    case rest =>
      clear HC9
      try clear c1
      try clear q1
      try clear p2
      try clear c4
      try clear c6
      try clear c10
      try clear c11
      try clear c12
      try clear c13
      try clear c15
      try clear c15b0
      try clear c15b1
      try clear c15b2
      try clear q180
      obtain ⟨kq, x50_8, rfl, HA, HJ8, HB⟩ := hcut
      cases kq with
      | zero => exact absurd HA.out (by simp [shacklelaw01_SpanCuts.j0])
      | succ kj8 =>
        have H := HA.out
        clear HA
        simp only [shacklelaw01_SpanCuts.j0] at H
        by_cases c16 : x50_8 = true
        · subst c16
          have H1 : (some false) = some r := by rw [if_pos rfl] at H; exact H
          clear H
          have H := H1
          clear H1
          obtain rfl := Option.some.inj H
          go_wp2
          go_ret
          exact ⟨by first | rfl | (simp [errW_none, errW_some] <;> rfl) | (simp [*, errW_none, errW_some] <;> rfl), by repeat (first | (with_reducible first | exact HB.out | apply below_alloc | apply pw_below_drewN | apply below_drew1) | exact HB.out)⟩
        · replace c16 := Bool.eq_false_iff.mpr c16
          subst c16
          have H1 : (if t183 = true then (if ([] : List Int).length + l0.length < 140737488355328 then ((some (([] : List Int) ++ l0 : List Int)).bind fun y190 => ((span_Cut.f y190 a1 a2).bind fun bt193 => (if bt193.2.isNone = true then (shacklelaw01_SpanCuts.l0 kj8 l0 t174 (none : Option Int) y190 bt193.1 none 0) else (if (bt193.2.getD 0) < 0 then (none) else (shacklelaw01_SpanCuts.l0 kj8 l0 t174 (none : Option Int) y190 bt193.1 (some (bt193.2.getD 0)) 0))))) else (none)) else (if (none : Option Int).isNone = true then ((shacklelaw00_Is.f none a1 4).bind fun t188 => (if t174 = true then (some t188) else (some false))) else (if 0 ≤ ((none : Option Int).getD 0) then ((shacklelaw00_Is.f (some ((none : Option Int).getD 0)) a1 4).bind fun t189 => (if t174 = true then (some t189) else (some false))) else (none)))) = some r := by rw [if_neg (show ¬ (false = true) by decide)] at H; exact H
          clear H
          have H := H1
          clear H1
          by_cases c17 : t183 = true
          · subst c17
            have H1 : (if ([] : List Int).length + l0.length < 140737488355328 then ((some (([] : List Int) ++ l0 : List Int)).bind fun y190 => ((span_Cut.f y190 a1 a2).bind fun bt193 => (if bt193.2.isNone = true then (shacklelaw01_SpanCuts.l0 kj8 l0 t174 (none : Option Int) y190 bt193.1 none 0) else (if (bt193.2.getD 0) < 0 then (none) else (shacklelaw01_SpanCuts.l0 kj8 l0 t174 (none : Option Int) y190 bt193.1 (some (bt193.2.getD 0)) 0))))) else (none)) = some r := by rw [if_pos rfl] at H; exact H
            clear H
            have H := H1
            clear H1
            by_cases c18 : ([] : List Int).length + l0.length < 140737488355328
            · rw [if_pos c18] at H
              have LMc18 := Aside0.mk c18
              clear c18
              obtain ⟨y190, hy190⟩ : ∃ y_ : List Int, y_ = (([] : List Int) ++ l0) := ⟨_, rfl⟩
              replace H : ((span_Cut.f y190 a1 a2).bind fun bt193 => (if bt193.2.isNone = true then (shacklelaw01_SpanCuts.l0 kj8 l0 t174 (none : Option Int) y190 bt193.1 none 0) else (if (bt193.2.getD 0) < 0 then (none) else (shacklelaw01_SpanCuts.l0 kj8 l0 t174 (none : Option Int) y190 bt193.1 (some (bt193.2.getD 0)) 0)))) = some r := by first | (rw [hy190]; with_reducible exact H) | (have H2_ := (Option.bind_some _ _).symm.trans H; rw [hy190]; with_reducible exact H2_) | (have H2_ := (Option.bind_some _ _).symm.trans H; with_reducible exact H2_) | with_reducible exact H | (rw [hy190]; exact H) | exact H
              have Ny190 := Aside0.mk hy190
              clear hy190
              replace H := Option.bind_eq_some_iff.mp H
              obtain ⟨⟨t193, t194⟩, A190, H⟩ := H
              replace H : (if t194.isNone = true then (shacklelaw01_SpanCuts.l0 kj8 l0 t174 (none : Option Int) y190 t193 none 0) else (if (t194.getD 0) < 0 then (none) else (shacklelaw01_SpanCuts.l0 kj8 l0 t174 (none : Option Int) y190 t193 (some (t194.getD 0)) 0))) = some r := H
              have A19 := Aside0.mk A190
              clear A190
              rcases t194 with _ | q197
              · have H1 : (shacklelaw01_SpanCuts.l0 kj8 l0 t174 (none : Option Int) y190 t193 none 0) = some r := by rw [if_pos (show (none : Option Int).isNone = true by rfl)] at H; exact H
                clear H
                have H := H1
                clear H1
                try simp only [errW_none, errW_some]
                have H' := Aside0.mk H
                clear H
                go_wp2_with (first | ((with_reducible refine gate_builtin (b := .append) (xs := #[.tmp 60, .tmp 61]) rfl ?_); at_builtin; refine Kd.R_append_rows (Kd.int .u8) (w0 := w) w.heap.size rfl (.tmp 60) (.tmp 61) 22 5 (.int .u8 0) 1 rfl Tryd.underlying22 info5 rfl (by decide) (by omega) (.slice none 0 0) ([] : List Int) l0 _ _ _ (fun _ => True) (fun _ => False) rfl rfl ?aO ?aR (fun _ _ h => h) (fun _ h => h.elim) ?aF ?aB ?aS ?aL ?_; (case aR => repeat (first | exact (Kd.C_below HR0.out HB.out) | (with_reducible refine Kd.C_alloc ?_ _) | (with_reducible refine Kd.C_drewN ?_ _) | (with_reducible refine Kd.C_drew ?_))); (case aB => exact (by repeat (first | (with_reducible first | exact HB.out | apply below_alloc | apply pw_below_drewN | apply below_drew1) | exact HB.out))); (case aF => exact (fun _ _ => trivial)); (case aO => exact ((Kd.R_nil _ _ _ _ (fun _ => True)))); (case aS => exact (below_size (by repeat (first | (with_reducible first | exact HB.out | apply below_alloc | apply pw_below_drewN | apply below_drew1) | exact HB.out)))); (case aL => have := LMc18.out; omega); intro v191 w20 ho hb hg hat; rw [← Ny190.out] at ho; have n0_ := Aside0.mk (hb); have n1_ := Aside0.mk (ho); clear HB; have HB := n0_; have HO192 := n1_; clear n0_ n1_; clear ho hb hg hat; obtain ⟨Ao21, co21, eo21⟩ := Kd.R_slice HO192.out; subst eo21) | ((with_reducible refine gate_callee (f := 11) rfl ?_); refine goesL_ (some 67) rfl rfl Tryd.func11 (by kernel_rfl) rfl #[.slice Ao21 y190.length co21, .int .u64 a1, .int .u64 a2] rfl (by (try simp only [List.map_toArray, List.map_cons, List.map_nil]); first | done | rfl | (simp only [List.length_drop, List.length_take]; rfl)) ?_; (with_reducible refine (span_Cut.calls _ _ y190 a1 a2 t193 none _ ?side1 ?side2 A19.out).mono ?_); (case side1 => repeat (first | exact (Kd.R_reads' HO192.out).2.2 | (with_reducible refine Kd.C_alloc ?_ _) | (with_reducible refine Kd.C_drewN ?_ _) | (with_reducible refine Kd.C_drew ?_))); (case side2 => exact (Kd.R_reads' HO192.out).2.1); rintro e w22 ⟨v195, ve1_, rfl, hE1_, ho0, hb⟩; refine ⟨_, rfl, ?_⟩; obtain rfl := ErrAt.none_eq hE1_; have n0_ := Aside0.mk (Kd.R_elder' (by (with_reducible repeat (first | apply Kd.R_alloc | apply Kd.R_drewN | apply Kd.R_drew)); exact HO192.out) (Kd.R_base ho0) hb); have n1_ := Aside0.mk (Kd.R_lower (Kd.R_new' ho0 (Kd.R_lt (by (with_reducible repeat (first | apply Kd.R_alloc | apply Kd.R_drewN | apply Kd.R_drew)); exact HO192.out))) (below_size (by repeat (first | (with_reducible first | exact HB.out | apply below_alloc | apply pw_below_drewN | apply below_drew1) | exact HB.out)))); have n2_ := Aside0.mk (below_step (by repeat (first | (with_reducible first | exact HB.out | apply below_alloc | apply pw_below_drewN | apply below_drew1) | exact HB.out)) hb); clear HO192; clear HB; have HO192 := n0_; have HO196 := n1_; have HB := n2_; clear n0_ n1_ n2_; (try clear hb); (try clear hb2); (try clear hk); (try clear hi); (try clear ho0); (try simp only [errW_none, errW_some])))
                go_loopg [18] kj8 (fun kq v18 w' => ∃ (x16_2 : List Int) (x18_2 : Int), v18 = .int .i64 x18_2 ∧ Aside0 (shacklelaw01_SpanCuts.l0 kq l0 t174 (none : Option Int) y190 x16_2 (none : Option Int) x18_2 = some r) ∧ Aside0 (kq ≤ kj8) ∧ Aside0 (Kd.R (Kd.int .u8) 5 w' w.heap.size (fun k_ => some k_ ≠ (v195 : Value).ownBlock) (.slice Ao21 y190.length co21) y190) ∧ Aside0 (Kd.R (Kd.int .u8) 5 w' w.heap.size (fun k_ => some k_ ≠ ((.slice Ao21 y190.length co21) : Value).ownBlock) v195 x16_2) ∧ Aside0 (Below w.heap.size w w'))
                case atStart => exact ⟨(t193), (0), (by first | rfl | (simp; done) | (simp [*]; done)), H', ⟨Nat.le_refl _⟩, ⟨by (with_reducible repeat (first | apply Kd.R_alloc | apply Kd.R_drewN | apply Kd.R_drew)); exact Kd.R_mono HO192.out (fun _ hk => hk.2)⟩, ⟨by (with_reducible repeat (first | apply Kd.R_alloc | apply Kd.R_drewN | apply Kd.R_drew)); exact Kd.R_mono HO196.out (fun _ hk => hk.2)⟩, ⟨by repeat (first | (with_reducible first | exact HB.out | apply below_alloc | apply pw_below_drewN | apply below_drew1) | exact HB.out)⟩⟩
                case round =>
                  clear H'
                  try clear c1
                  try clear q1
                  try clear p2
                  try clear c4
                  try clear c6
                  try clear c10
                  try clear c11
                  try clear c12
                  try clear c13
                  try clear c15
                  try clear c15b0
                  try clear c15b1
                  try clear c15b2
                  try clear c16
                  try clear c17
                  try clear c18
                  try clear q18
                  try clear q19
                  try clear p2
                  try clear q1
                  try clear q180
                  try clear q197
                  obtain ⟨x16_2, x18_2, rfl, HA, HK2, HO_15, HO_16, HB⟩ := hrel
                  cases gk with
                  | zero => exact absurd HA.out (by simp [shacklelaw01_SpanCuts.l0])
                  | succ k2 =>
                    have H := HA.out
                    clear HA
                    simp only [shacklelaw01_SpanCuts.l0] at H
                    by_cases c23 : x18_2 < (x16_2.length : Int)
                    · rw [if_pos c23] at H
                      have c23b0 : decide (x18_2 < (x16_2.length : Int)) = true := decide_eq_true c23
                      clear c23
                      by_cases c24 : 0 ≤ x18_2
                      · rw [if_pos c24] at H
                        have c24b0 : decide (0 ≤ x18_2) = true := decide_eq_true c24
                        clear c24
                        obtain ⟨y200, hy200⟩ : ∃ y_ : List Int, y_ = (x16_2.set (x18_2 : Int).toNat (((rd x16_2 x18_2) + 1) % 256)) := ⟨_, rfl⟩
                        replace H : (shacklelaw01_SpanCuts.l0 k2 l0 t174 (none : Option Int) y190 y200 (none : Option Int) (wrap64 (x18_2 + 1))) = some r := by first | (rw [hy200]; with_reducible exact H) | (have H2_ := (Option.bind_some _ _).symm.trans H; rw [hy200]; with_reducible exact H2_) | (have H2_ := (Option.bind_some _ _).symm.trans H; with_reducible exact H2_) | with_reducible exact H | (rw [hy200]; exact H) | exact H
                        have Ny200 := Aside0.mk hy200
                        clear hy200
                        have H' := Aside0.mk H
                        clear H
                        obtain ⟨Ao26, co26, eo26⟩ := Kd.R_slice HO_16.out
                        subst eo26
                        have p199 : 0 ≤ (x18_2 : Int) := of_decide_eq_true (by first | (with_reducible assumption) | assumption)
                        have q199 : x18_2 < (x16_2.length : Int) := of_decide_eq_true (by first | (with_reducible assumption) | assumption)
                        obtain ⟨ad199, e199, hx199_0⟩ := Kd.at_int (Kd.R_reads' HO_16.out).2.2 x18_2 p199 q199
                        cases e199
                        replace p199 := eq_true p199
                        replace q199 := eq_true q199
                        have p25 : 0 ≤ (x18_2 : Int) := of_decide_eq_true (by first | (with_reducible assumption) | assumption)
                        have q25 : (x18_2 : Int) < ((x16_2.length : Int) : Int) := of_decide_eq_true (by first | (with_reducible assumption) | assumption)
                        obtain ⟨go25, co25, eo25, gb25, gl25, cl25, HG25⟩ := Kd.R_form HO_16.out (by omega)
                        (first | cases eo25 | (injection eo25 with ea_ en_ ec_; (first | subst ea_ | (injection ea_ with ea_; subst ea_)); subst ec_; clear en_))
                        have GB25 := Aside0.mk gb25
                        have GG25 := Aside0.mk HG25
                        clear gb25 gl25 HG25
                        (first | simp only [add_plain] at hx199_0 | skip)
                        obtain ⟨hx25_0, hf25_0⟩ := Kd.R_celln 0 HO_16.out (x18_2 : Int) p25 q25
                        replace p25 := eq_true p25
                        replace q25 := eq_true q25
                        have HP27 := Kd.R_putg HO_16.out (x18_2 : Int) (((rd x16_2 x18_2) + 1) % 256)
                        go_wp2_with (first | ((with_reducible refine gate_store (t := 5) (p := 83) rfl ?_); refine store_event (t := 5) (p := 83) (v := ?vo_w28) (w1 := (wr.setCell ⟨go25, (x18_2 : Int).toNat, none⟩ (.int .u8 (((rd x16_2 x18_2) + 1) % 256)))) ?hg ?ho ?hn ?hr ?_; (case ho => rfl); (case hg => rfl); (case hn => rfl); (case hr => first | (go_simp; done) | (go_simp; rfl)); intro w28 hw; have hg : wr.grownBy w28 (some go25) := (by rw [hw]; exact HP27.2); have hp_ : Kd.R (Kd.int .u8) 5 w28 w.heap.size (fun k_ => some k_ ≠ (.slice Ao21 y190.length co21 : Value).ownBlock) (.slice (some ⟨go25, 0, none⟩) x16_2.length co26) y200 := (by rw [hw, Ny200.out]; exact HP27.1); clear HP27; have n0_ := Aside0.mk (Kd.R_after (v := (.slice (some ⟨go25, 0, none⟩) x16_2.length co26)) (v1 := (.slice (some ⟨go25, 0, none⟩) x16_2.length co26)) (ok := (fun _ => True)) (by (with_reducible repeat (first | apply Kd.R_alloc | apply Kd.R_drewN | apply Kd.R_drew)); exact Kd.R_mono HO_15.out (fun _ hk => ⟨trivial, hk⟩)) hg (.inl rfl)); have n1_ := Aside0.mk (hp_); have n2_ := Aside0.mk ((by rw [hw]; exact below_set (HB.out) GB25.out : Below w.heap.size w w28)); clear HO_15; clear HO_16; clear HB; have HO_15 := n0_; have HO_16 := n1_; have HB := n2_; clear n0_ n1_ n2_; clear hg hw hp_))
                        go_roundg k2
                        case measure => have := HJ8.out; have := HK2.out; omega
                        case rel => exact ⟨(y200), (wrap64 (x18_2 + 1)), (by first | rfl | (simp; done) | (simp [*]; done)), H', ⟨by have := HJ8.out; have := HK2.out; omega⟩, ⟨by (with_reducible repeat (first | apply Kd.R_alloc | apply Kd.R_drewN | apply Kd.R_drew)); exact Kd.R_mono HO_15.out (fun _ hk => hk.2)⟩, ⟨by (with_reducible repeat (first | apply Kd.R_alloc | apply Kd.R_drewN | apply Kd.R_drew)); exact HO_16.out⟩, ⟨by repeat (first | (with_reducible first | exact HB.out | apply below_alloc | apply pw_below_drewN | apply below_drew1) | exact HB.out)⟩⟩
                      · rw [if_neg c24] at H
                        exact absurd H (by simp)
                    · rw [if_neg c23] at H
                      have c23b0 : decide (x18_2 < (x16_2.length : Int)) = false := decide_eq_false c23
                      clear c23
                      replace H := Option.bind_eq_some_iff.mp H
                      obtain ⟨t201, A290, H⟩ := H
                      replace H : (if t174 = true then (if (none : Option Int).isNone = true then (if (none : Option Int).isNone = true then (some t201) else (some false)) else (some false)) else (some false)) = some r := H
                      have A29 := Aside0.mk A290
                      clear A290
                      by_cases c30 : t174 = true
                      · subst c30
                        have H1 : (if (none : Option Int).isNone = true then (if (none : Option Int).isNone = true then (some t201) else (some false)) else (some false)) = some r := by rw [if_pos rfl] at H; exact H
                        clear H
                        have H := H1
                        clear H1
                        have H1 : (if (none : Option Int).isNone = true then (some t201) else (some false)) = some r := by rw [if_pos (show (none : Option Int).isNone = true by rfl)] at H; exact H
                        clear H
                        have H := H1
                        clear H1
                        try simp only [errW_none, errW_some]
                        have H1 : (some t201) = some r := by rw [if_pos (show (none : Option Int).isNone = true by rfl)] at H; exact H
                        clear H
                        have H := H1
                        clear H1
                        try simp only [errW_none, errW_some]
                        obtain rfl := Option.some.inj H
                        obtain ⟨Ao31, co31, eo31⟩ := Kd.R_slice HO_16.out
                        subst eo31
                        go_wp2_with (first | ((with_reducible refine gate_callee (f := 13) rfl ?_); refine goesL_ (some 86) rfl rfl Tryd.func13 (by kernel_rfl) rfl #[.slice Ao21 y190.length co21, .slice A0 l0.length c0] rfl (by (try simp only [List.map_toArray, List.map_cons, List.map_nil]); first | done | rfl | (simp only [List.length_drop, List.length_take]; rfl)) ?_; (with_reducible refine (shackleref01_Same.calls k2 _ _ y190 _ _ l0 t201 _ ?side1 ?side2 ?side3 ?side4 A29.out).mono ?_); (case side1 => repeat (first | exact (Kd.R_reads' HO_15.out).2.2 | (with_reducible refine Kd.C_alloc ?_ _) | (with_reducible refine Kd.C_drewN ?_ _) | (with_reducible refine Kd.C_drew ?_))); (case side2 => exact (Kd.R_reads' HO_15.out).2.1); (case side3 => repeat (first | exact (Kd.C_below HR0.out HB.out) | (with_reducible refine Kd.C_alloc ?_ _) | (with_reducible refine Kd.C_drewN ?_ _) | (with_reducible refine Kd.C_drew ?_))); (case side4 => exact HC0.out); rintro e w' ⟨rfl, ⟨nd, rfl⟩⟩; refine ⟨_, rfl, ?_⟩))
                        go_ret
                        exact ⟨by first | rfl | (simp [errW_none, errW_some] <;> rfl) | (simp [*, errW_none, errW_some] <;> rfl), by repeat (first | (with_reducible first | exact HB.out | apply below_alloc | apply pw_below_drewN | apply below_drew1) | exact HB.out)⟩
                      · replace c30 := Bool.eq_false_iff.mpr c30
                        subst c30
                        have H1 : (some false) = some r := by rw [if_neg (show ¬ (false = true) by decide)] at H; exact H
                        clear H
                        have H := H1
                        clear H1
                        obtain rfl := Option.some.inj H
                        obtain ⟨Ao32, co32, eo32⟩ := Kd.R_slice HO_16.out
                        subst eo32
                        go_wp2_with (first | ((with_reducible refine gate_callee (f := 13) rfl ?_); refine goesL_ (some 86) rfl rfl Tryd.func13 (by kernel_rfl) rfl #[.slice Ao21 y190.length co21, .slice A0 l0.length c0] rfl (by (try simp only [List.map_toArray, List.map_cons, List.map_nil]); first | done | rfl | (simp only [List.length_drop, List.length_take]; rfl)) ?_; (with_reducible refine (shackleref01_Same.calls k2 _ _ y190 _ _ l0 t201 _ ?side1 ?side2 ?side3 ?side4 A29.out).mono ?_); (case side1 => repeat (first | exact (Kd.R_reads' HO_15.out).2.2 | (with_reducible refine Kd.C_alloc ?_ _) | (with_reducible refine Kd.C_drewN ?_ _) | (with_reducible refine Kd.C_drew ?_))); (case side2 => exact (Kd.R_reads' HO_15.out).2.1); (case side3 => repeat (first | exact (Kd.C_below HR0.out HB.out) | (with_reducible refine Kd.C_alloc ?_ _) | (with_reducible refine Kd.C_drewN ?_ _) | (with_reducible refine Kd.C_drew ?_))); (case side4 => exact HC0.out); rintro e w' ⟨rfl, ⟨nd, rfl⟩⟩; refine ⟨_, rfl, ?_⟩))
                        go_ret
                        exact ⟨by first | rfl | (simp [errW_none, errW_some] <;> rfl) | (simp [*, errW_none, errW_some] <;> rfl), by repeat (first | (with_reducible first | exact HB.out | apply below_alloc | apply pw_below_drewN | apply below_drew1) | exact HB.out)⟩
              · have H1 : (if q197 < 0 then (none) else (shacklelaw01_SpanCuts.l0 kj8 l0 t174 (none : Option Int) y190 t193 (some q197) 0)) = some r := by rw [if_neg (show ¬ (some q197).isNone = true by simp)] at H; exact H
                clear H
                have H := H1
                clear H1
                try simp only [errW_none, errW_some]
                by_cases c33 : q197 < 0
                · rw [if_pos c33] at H
                  have SQq197 := Aside0.mk c33
                  clear c33
                  exact absurd H (by simp)
                · rw [if_neg c33] at H
                  have SQq197 := Aside0.mk c33
                  have c33b1 : decide (0 ≤ q197) = true := decide_eq_true (Int.not_lt.1 c33)
                  clear c33
                  have H' := Aside0.mk H
                  clear H
                  go_wp2_with (first | ((with_reducible refine gate_builtin (b := .append) (xs := #[.tmp 60, .tmp 61]) rfl ?_); at_builtin; refine Kd.R_append_rows (Kd.int .u8) (w0 := w) w.heap.size rfl (.tmp 60) (.tmp 61) 22 5 (.int .u8 0) 1 rfl Tryd.underlying22 info5 rfl (by decide) (by omega) (.slice none 0 0) ([] : List Int) l0 _ _ _ (fun _ => True) (fun _ => False) rfl rfl ?aO ?aR (fun _ _ h => h) (fun _ h => h.elim) ?aF ?aB ?aS ?aL ?_; (case aR => repeat (first | exact (Kd.C_below HR0.out HB.out) | (with_reducible refine Kd.C_alloc ?_ _) | (with_reducible refine Kd.C_drewN ?_ _) | (with_reducible refine Kd.C_drew ?_))); (case aB => exact (by repeat (first | (with_reducible first | exact HB.out | apply below_alloc | apply pw_below_drewN | apply below_drew1) | exact HB.out))); (case aF => exact (fun _ _ => trivial)); (case aO => exact ((Kd.R_nil _ _ _ _ (fun _ => True)))); (case aS => exact (below_size (by repeat (first | (with_reducible first | exact HB.out | apply below_alloc | apply pw_below_drewN | apply below_drew1) | exact HB.out)))); (case aL => have := LMc18.out; omega); intro v191 w34 ho hb hg hat; rw [← Ny190.out] at ho; have n0_ := Aside0.mk (hb); have n1_ := Aside0.mk (ho); clear HB; have HB := n0_; have HO192 := n1_; clear n0_ n1_; clear ho hb hg hat; obtain ⟨Ao35, co35, eo35⟩ := Kd.R_slice HO192.out; subst eo35) | ((with_reducible refine gate_callee (f := 11) rfl ?_); refine goesL_ (some 67) rfl rfl Tryd.func11 (by kernel_rfl) rfl #[.slice Ao35 y190.length co35, .int .u64 a1, .int .u64 a2] rfl (by (try simp only [List.map_toArray, List.map_cons, List.map_nil]); first | done | rfl | (simp only [List.length_drop, List.length_take]; rfl)) ?_; (with_reducible refine (span_Cut.calls _ _ y190 a1 a2 t193 (some q197) _ ?side1 ?side2 A19.out).mono ?_); (case side1 => repeat (first | exact (Kd.R_reads' HO192.out).2.2 | (with_reducible refine Kd.C_alloc ?_ _) | (with_reducible refine Kd.C_drewN ?_ _) | (with_reducible refine Kd.C_drew ?_))); (case side2 => exact (Kd.R_reads' HO192.out).2.1); rintro e w36 ⟨v195, ve1_, rfl, hE1_, ho0, hb⟩; refine ⟨_, rfl, ?_⟩; obtain rfl := ErrAt.code_eq hE1_ SQq197.out; have n0_ := Aside0.mk (Kd.R_elder' (by (with_reducible repeat (first | apply Kd.R_alloc | apply Kd.R_drewN | apply Kd.R_drew)); exact HO192.out) (Kd.R_base ho0) hb); have n1_ := Aside0.mk (Kd.R_lower (Kd.R_new' ho0 (Kd.R_lt (by (with_reducible repeat (first | apply Kd.R_alloc | apply Kd.R_drewN | apply Kd.R_drew)); exact HO192.out))) (below_size (by repeat (first | (with_reducible first | exact HB.out | apply below_alloc | apply pw_below_drewN | apply below_drew1) | exact HB.out)))); have n2_ := Aside0.mk (below_step (by repeat (first | (with_reducible first | exact HB.out | apply below_alloc | apply pw_below_drewN | apply below_drew1) | exact HB.out)) hb); clear HO192; clear HB; have HO192 := n0_; have HO196 := n1_; have HB := n2_; clear n0_ n1_ n2_; (try clear hb); (try clear hb2); (try clear hk); (try clear hi); (try clear ho0); (try simp only [errW_none, errW_some])))
                  go_loopg [18] kj8 (fun kq v18 w' => ∃ (x16_2 : List Int) (x18_2 : Int), v18 = .int .i64 x18_2 ∧ Aside0 (shacklelaw01_SpanCuts.l0 kq l0 t174 (none : Option Int) y190 x16_2 (some q197) x18_2 = some r) ∧ Aside0 (kq ≤ kj8) ∧ Aside0 (Kd.R (Kd.int .u8) 5 w' w.heap.size (fun k_ => some k_ ≠ (v195 : Value).ownBlock) (.slice Ao35 y190.length co35) y190) ∧ Aside0 (Kd.R (Kd.int .u8) 5 w' w.heap.size (fun k_ => some k_ ≠ ((.slice Ao35 y190.length co35) : Value).ownBlock) v195 x16_2) ∧ Aside0 (Below w.heap.size w w'))
                  case atStart => exact ⟨(t193), (0), (by first | rfl | (simp; done) | (simp [*]; done)), H', ⟨Nat.le_refl _⟩, ⟨by (with_reducible repeat (first | apply Kd.R_alloc | apply Kd.R_drewN | apply Kd.R_drew)); exact Kd.R_mono HO192.out (fun _ hk => hk.2)⟩, ⟨by (with_reducible repeat (first | apply Kd.R_alloc | apply Kd.R_drewN | apply Kd.R_drew)); exact Kd.R_mono HO196.out (fun _ hk => hk.2)⟩, ⟨by repeat (first | (with_reducible first | exact HB.out | apply below_alloc | apply pw_below_drewN | apply below_drew1) | exact HB.out)⟩⟩
                  case round =>
                    clear H'
                    try clear c1
                    try clear p1
                    try clear q1
                    try clear hx1
                    try clear c2
                    try clear p2
                    try clear q2
                    try clear hx2
                    try clear c3
                    try clear c4
                    try clear c6
                    try clear p6
                    try clear c10
                    try clear c11
                    try clear c12
                    try clear c13
                    try clear c15
                    try clear c15b0
                    try clear c15b1
                    try clear c15b2
                    try clear c16
                    try clear c17
                    try clear c18
                    try clear q18
                    try clear p19
                    try clear q19
                    try clear hx19
                    try clear c23
                    try clear c23b0
                    try clear c24
                    try clear c24b0
                    try clear p25
                    try clear q25
                    try clear hx25
                    try clear hf25
                    try clear c30
                    try clear c33
                    try clear c33b1
                    try clear hx199_0
                    try clear hx25_0
                    try clear p199
                    try clear p2
                    try clear p25
                    try clear q1
                    try clear q18
                    try clear q180
                    try clear q19
                    try clear q197
                    try clear q199
                    try clear q25
                    obtain ⟨x16_2, x18_2, rfl, HA, HK2, HO_15, HO_16, HB⟩ := hrel
                    cases gk with
                    | zero => exact absurd HA.out (by simp [shacklelaw01_SpanCuts.l0])
                    | succ k2 =>
                      have H := HA.out
                      clear HA
                      simp only [shacklelaw01_SpanCuts.l0] at H
                      by_cases c37 : x18_2 < (x16_2.length : Int)
                      · rw [if_pos c37] at H
                        have c37b0 : decide (x18_2 < (x16_2.length : Int)) = true := decide_eq_true c37
                        clear c37
                        by_cases c38 : 0 ≤ x18_2
                        · rw [if_pos c38] at H
                          have c38b0 : decide (0 ≤ x18_2) = true := decide_eq_true c38
                          clear c38
                          obtain ⟨y200, hy200⟩ : ∃ y_ : List Int, y_ = (x16_2.set (x18_2 : Int).toNat (((rd x16_2 x18_2) + 1) % 256)) := ⟨_, rfl⟩
                          replace H : (shacklelaw01_SpanCuts.l0 k2 l0 t174 (none : Option Int) y190 y200 (some q197) (wrap64 (x18_2 + 1))) = some r := by first | (rw [hy200]; with_reducible exact H) | (have H2_ := (Option.bind_some _ _).symm.trans H; rw [hy200]; with_reducible exact H2_) | (have H2_ := (Option.bind_some _ _).symm.trans H; with_reducible exact H2_) | with_reducible exact H | (rw [hy200]; exact H) | exact H
                          have Ny200 := Aside0.mk hy200
                          clear hy200
                          have H' := Aside0.mk H
                          clear H
                          obtain ⟨Ao40, co40, eo40⟩ := Kd.R_slice HO_16.out
                          subst eo40
                          have p199 : 0 ≤ (x18_2 : Int) := of_decide_eq_true (by first | (with_reducible assumption) | assumption)
                          have q199 : x18_2 < (x16_2.length : Int) := of_decide_eq_true (by first | (with_reducible assumption) | assumption)
                          obtain ⟨ad199, e199, hx199_0⟩ := Kd.at_int (Kd.R_reads' HO_16.out).2.2 x18_2 p199 q199
                          cases e199
                          replace p199 := eq_true p199
                          replace q199 := eq_true q199
                          have p39 : 0 ≤ (x18_2 : Int) := of_decide_eq_true (by first | (with_reducible assumption) | assumption)
                          have q39 : (x18_2 : Int) < ((x16_2.length : Int) : Int) := of_decide_eq_true (by first | (with_reducible assumption) | assumption)
                          obtain ⟨go39, co39, eo39, gb39, gl39, cl39, HG39⟩ := Kd.R_form HO_16.out (by omega)
                          (first | cases eo39 | (injection eo39 with ea_ en_ ec_; (first | subst ea_ | (injection ea_ with ea_; subst ea_)); subst ec_; clear en_))
                          have GB39 := Aside0.mk gb39
                          have GG39 := Aside0.mk HG39
                          clear gb39 gl39 HG39
                          (first | simp only [add_plain] at hx199_0 | skip)
                          obtain ⟨hx39_0, hf39_0⟩ := Kd.R_celln 0 HO_16.out (x18_2 : Int) p39 q39
                          replace p39 := eq_true p39
                          replace q39 := eq_true q39
                          have HP41 := Kd.R_putg HO_16.out (x18_2 : Int) (((rd x16_2 x18_2) + 1) % 256)
                          go_wp2_with (first | ((with_reducible refine gate_store (t := 5) (p := 83) rfl ?_); refine store_event (t := 5) (p := 83) (v := ?vo_w42) (w1 := (wr.setCell ⟨go39, (x18_2 : Int).toNat, none⟩ (.int .u8 (((rd x16_2 x18_2) + 1) % 256)))) ?hg ?ho ?hn ?hr ?_; (case ho => rfl); (case hg => rfl); (case hn => rfl); (case hr => first | (go_simp; done) | (go_simp; rfl)); intro w42 hw; have hg : wr.grownBy w42 (some go39) := (by rw [hw]; exact HP41.2); have hp_ : Kd.R (Kd.int .u8) 5 w42 w.heap.size (fun k_ => some k_ ≠ (.slice Ao35 y190.length co35 : Value).ownBlock) (.slice (some ⟨go39, 0, none⟩) x16_2.length co40) y200 := (by rw [hw, Ny200.out]; exact HP41.1); clear HP41; have n0_ := Aside0.mk (Kd.R_after (v := (.slice (some ⟨go39, 0, none⟩) x16_2.length co40)) (v1 := (.slice (some ⟨go39, 0, none⟩) x16_2.length co40)) (ok := (fun _ => True)) (by (with_reducible repeat (first | apply Kd.R_alloc | apply Kd.R_drewN | apply Kd.R_drew)); exact Kd.R_mono HO_15.out (fun _ hk => ⟨trivial, hk⟩)) hg (.inl rfl)); have n1_ := Aside0.mk (hp_); have n2_ := Aside0.mk ((by rw [hw]; exact below_set (HB.out) GB39.out : Below w.heap.size w w42)); clear HO_15; clear HO_16; clear HB; have HO_15 := n0_; have HO_16 := n1_; have HB := n2_; clear n0_ n1_ n2_; clear hg hw hp_))
                          go_roundg k2
                          case measure => have := HJ8.out; have := HK2.out; omega
                          case rel => exact ⟨(y200), (wrap64 (x18_2 + 1)), (by first | rfl | (simp; done) | (simp [*]; done)), H', ⟨by have := HJ8.out; have := HK2.out; omega⟩, ⟨by (with_reducible repeat (first | apply Kd.R_alloc | apply Kd.R_drewN | apply Kd.R_drew)); exact Kd.R_mono HO_15.out (fun _ hk => hk.2)⟩, ⟨by (with_reducible repeat (first | apply Kd.R_alloc | apply Kd.R_drewN | apply Kd.R_drew)); exact HO_16.out⟩, ⟨by repeat (first | (with_reducible first | exact HB.out | apply below_alloc | apply pw_below_drewN | apply below_drew1) | exact HB.out)⟩⟩
                        · rw [if_neg c38] at H
                          exact absurd H (by simp)
                      · rw [if_neg c37] at H
                        have c37b0 : decide (x18_2 < (x16_2.length : Int)) = false := decide_eq_false c37
                        clear c37
                        replace H := Option.bind_eq_some_iff.mp H
                        obtain ⟨t201, A430, H⟩ := H
                        replace H : (if t174 = true then (if (none : Option Int).isNone = true then (if (some q197).isNone = true then (some t201) else (some false)) else (some false)) else (some false)) = some r := H
                        have A43 := Aside0.mk A430
                        clear A430
                        by_cases c44 : t174 = true
                        · subst c44
                          have H1 : (if (none : Option Int).isNone = true then (if (some q197).isNone = true then (some t201) else (some false)) else (some false)) = some r := by rw [if_pos rfl] at H; exact H
                          clear H
                          have H := H1
                          clear H1
                          have H1 : (if (some q197).isNone = true then (some t201) else (some false)) = some r := by rw [if_pos (show (none : Option Int).isNone = true by rfl)] at H; exact H
                          clear H
                          have H := H1
                          clear H1
                          try simp only [errW_none, errW_some]
                          have H1 : (some false) = some r := by rw [if_neg (show ¬ (some q197).isNone = true by simp)] at H; exact H
                          clear H
                          have H := H1
                          clear H1
                          try simp only [errW_none, errW_some]
                          obtain rfl := Option.some.inj H
                          obtain ⟨Ao45, co45, eo45⟩ := Kd.R_slice HO_16.out
                          subst eo45
                          go_wp2_with (first | ((with_reducible refine gate_callee (f := 13) rfl ?_); refine goesL_ (some 86) rfl rfl Tryd.func13 (by kernel_rfl) rfl #[.slice Ao35 y190.length co35, .slice A0 l0.length c0] rfl (by (try simp only [List.map_toArray, List.map_cons, List.map_nil]); first | done | rfl | (simp only [List.length_drop, List.length_take]; rfl)) ?_; (with_reducible refine (shackleref01_Same.calls k2 _ _ y190 _ _ l0 t201 _ ?side1 ?side2 ?side3 ?side4 A43.out).mono ?_); (case side1 => repeat (first | exact (Kd.R_reads' HO_15.out).2.2 | (with_reducible refine Kd.C_alloc ?_ _) | (with_reducible refine Kd.C_drewN ?_ _) | (with_reducible refine Kd.C_drew ?_))); (case side2 => exact (Kd.R_reads' HO_15.out).2.1); (case side3 => repeat (first | exact (Kd.C_below HR0.out HB.out) | (with_reducible refine Kd.C_alloc ?_ _) | (with_reducible refine Kd.C_drewN ?_ _) | (with_reducible refine Kd.C_drew ?_))); (case side4 => exact HC0.out); rintro e w' ⟨rfl, ⟨nd, rfl⟩⟩; refine ⟨_, rfl, ?_⟩))
                          go_ret
                          exact ⟨by first | rfl | (simp [errW_none, errW_some] <;> rfl) | (simp [*, errW_none, errW_some] <;> rfl), by repeat (first | (with_reducible first | exact HB.out | apply below_alloc | apply pw_below_drewN | apply below_drew1) | exact HB.out)⟩
                        · replace c44 := Bool.eq_false_iff.mpr c44
                          subst c44
                          have H1 : (some false) = some r := by rw [if_neg (show ¬ (false = true) by decide)] at H; exact H
                          clear H
                          have H := H1
                          clear H1
                          obtain rfl := Option.some.inj H
                          obtain ⟨Ao46, co46, eo46⟩ := Kd.R_slice HO_16.out
                          subst eo46
                          go_wp2_with (first | ((with_reducible refine gate_callee (f := 13) rfl ?_); refine goesL_ (some 86) rfl rfl Tryd.func13 (by kernel_rfl) rfl #[.slice Ao35 y190.length co35, .slice A0 l0.length c0] rfl (by (try simp only [List.map_toArray, List.map_cons, List.map_nil]); first | done | rfl | (simp only [List.length_drop, List.length_take]; rfl)) ?_; (with_reducible refine (shackleref01_Same.calls k2 _ _ y190 _ _ l0 t201 _ ?side1 ?side2 ?side3 ?side4 A43.out).mono ?_); (case side1 => repeat (first | exact (Kd.R_reads' HO_15.out).2.2 | (with_reducible refine Kd.C_alloc ?_ _) | (with_reducible refine Kd.C_drewN ?_ _) | (with_reducible refine Kd.C_drew ?_))); (case side2 => exact (Kd.R_reads' HO_15.out).2.1); (case side3 => repeat (first | exact (Kd.C_below HR0.out HB.out) | (with_reducible refine Kd.C_alloc ?_ _) | (with_reducible refine Kd.C_drewN ?_ _) | (with_reducible refine Kd.C_drew ?_))); (case side4 => exact HC0.out); rintro e w' ⟨rfl, ⟨nd, rfl⟩⟩; refine ⟨_, rfl, ?_⟩))
                          go_ret
                          exact ⟨by first | rfl | (simp [errW_none, errW_some] <;> rfl) | (simp [*, errW_none, errW_some] <;> rfl), by repeat (first | (with_reducible first | exact HB.out | apply below_alloc | apply pw_below_drewN | apply below_drew1) | exact HB.out)⟩
            · rw [if_neg c18] at H
              exact absurd H (by simp)
          · replace c17 := Bool.eq_false_iff.mpr c17
            subst c17
            have H1 : (if (none : Option Int).isNone = true then ((shacklelaw00_Is.f none a1 4).bind fun t188 => (if t174 = true then (some t188) else (some false))) else (if 0 ≤ ((none : Option Int).getD 0) then ((shacklelaw00_Is.f (some ((none : Option Int).getD 0)) a1 4).bind fun t189 => (if t174 = true then (some t189) else (some false))) else (none))) = some r := by rw [if_neg (show ¬ (false = true) by decide)] at H; exact H
            clear H
            have H := H1
            clear H1
            have H1 : ((shacklelaw00_Is.f none a1 4).bind fun t188 => (if t174 = true then (some t188) else (some false))) = some r := by rw [if_pos (show (none : Option Int).isNone = true by rfl)] at H; exact H
            clear H
            have H := H1
            clear H1
            try simp only [errW_none, errW_some]
            replace H := Option.bind_eq_some_iff.mp H
            obtain ⟨t188, A470, H⟩ := H
            replace H : (if t174 = true then (some t188) else (some false)) = some r := H
            have A47 := Aside0.mk A470
            clear A470
            by_cases c48 : t174 = true
            · subst c48
              have H1 : (some t188) = some r := by rw [if_pos rfl] at H; exact H
              clear H
              have H := H1
              clear H1
              obtain rfl := Option.some.inj H
              go_wp2_with (first | (go_at_call 14; (with_reducible refine (shacklelaw00_Is.calls .nilIface none a1 4 t188 _ ?side1 ?side2 A47.out).mono ?_); (case side1 => exact ErrTy.below (by repeat (first | (with_reducible first | exact HB.out | apply below_alloc | apply pw_below_drewN | apply below_drew1) | exact HB.out)) hG); (case side2 => exact ErrAt.of_none); rintro e w49 ⟨rfl, hb⟩; have n0_ := Aside0.mk (below_step (by repeat (first | (with_reducible first | exact HB.out | apply below_alloc | apply pw_below_drewN | apply below_drew1) | exact HB.out)) hb); clear HB; have HB := n0_; clear n0_; (try clear hb); (try clear hb2); (try clear hk); (try clear hi)))
              go_ret
              exact ⟨by first | rfl | (simp [errW_none, errW_some] <;> rfl) | (simp [*, errW_none, errW_some] <;> rfl), by repeat (first | (with_reducible first | exact HB.out | apply below_alloc | apply pw_below_drewN | apply below_drew1) | exact HB.out)⟩
            · replace c48 := Bool.eq_false_iff.mpr c48
              subst c48
              have H1 : (some false) = some r := by rw [if_neg (show ¬ (false = true) by decide)] at H; exact H
              clear H
              have H := H1
              clear H1
              obtain rfl := Option.some.inj H
              go_wp2_with (first | (go_at_call 14; (with_reducible refine (shacklelaw00_Is.calls .nilIface none a1 4 t188 _ ?side1 ?side2 A47.out).mono ?_); (case side1 => exact ErrTy.below (by repeat (first | (with_reducible first | exact HB.out | apply below_alloc | apply pw_below_drewN | apply below_drew1) | exact HB.out)) hG); (case side2 => exact ErrAt.of_none); rintro e w50 ⟨rfl, hb⟩; have n0_ := Aside0.mk (below_step (by repeat (first | (with_reducible first | exact HB.out | apply below_alloc | apply pw_below_drewN | apply below_drew1) | exact HB.out)) hb); clear HB; have HB := n0_; clear n0_; (try clear hb); (try clear hb2); (try clear hk); (try clear hi)))
              go_ret
              exact ⟨by first | rfl | (simp [errW_none, errW_some] <;> rfl) | (simp [*, errW_none, errW_some] <;> rfl), by repeat (first | (with_reducible first | exact HB.out | apply below_alloc | apply pw_below_drewN | apply below_drew1) | exact HB.out)⟩
  · have H1 : (if q180 < 0 then ((shackleref01_Cut.f k l0 a1 a2).bind fun bt204 => ((shackleref01_Same.f k t176 bt204.1).bind fun t208 => (if (t175 != bt204.2) = true then (some false) else (if t208 = true then (if bt204.2 = true then (if ([] : List Int).length + l0.length < 140737488355328 then ((span_Cut.f (([] : List Int) ++ l0) a1 a2).bind fun bt212 => (if bt212.2.isNone = true then (none) else (if (bt212.2.getD 0) < 0 then (none) else (none)))) else (none)) else ((shacklelaw00_Is.f (some q180) a1 4).bind fun t218 => (if t174 = true then (some t218) else (some false)))) else (some false))))) else ((shackleref01_Cut.f k l0 a1 a2).bind fun bt219 => ((shackleref01_Same.f k t176 bt219.1).bind fun t223 => (if (t175 != bt219.2) = true then (shacklelaw01_SpanCuts.j2 k l0 a1 a2 t174 (some q180) bt219.2 true) else (shacklelaw01_SpanCuts.j2 k l0 a1 a2 t174 (some q180) bt219.2 (!t223)))))) = some r := by rw [if_neg (show ¬ (some q180).isNone = true by simp)] at H; exact H
    clear H
    have H := H1
    clear H1
    try simp only [errW_none, errW_some]
    by_cases c51 : q180 < 0
    · rw [if_pos c51] at H
      have SQq180 := Aside0.mk c51
      clear c51
      replace H := Option.bind_eq_some_iff.mp H
      obtain ⟨⟨t204, t205⟩, A520, H⟩ := H
      replace H : ((shackleref01_Same.f k t176 t204).bind fun t208 => (if (t175 != t205) = true then (some false) else (if t208 = true then (if t205 = true then (if ([] : List Int).length + l0.length < 140737488355328 then ((span_Cut.f (([] : List Int) ++ l0) a1 a2).bind fun bt212 => (if bt212.2.isNone = true then (none) else (if (bt212.2.getD 0) < 0 then (none) else (none)))) else (none)) else ((shacklelaw00_Is.f (some q180) a1 4).bind fun t218 => (if t174 = true then (some t218) else (some false)))) else (some false)))) = some r := H
      have A52 := Aside0.mk A520
      clear A520
      replace H := Option.bind_eq_some_iff.mp H
      obtain ⟨t208, A530, H⟩ := H
      replace H : (if (t175 != t205) = true then (some false) else (if t208 = true then (if t205 = true then (if ([] : List Int).length + l0.length < 140737488355328 then ((span_Cut.f (([] : List Int) ++ l0) a1 a2).bind fun bt212 => (if bt212.2.isNone = true then (none) else (if (bt212.2.getD 0) < 0 then (none) else (none)))) else (none)) else ((shacklelaw00_Is.f (some q180) a1 4).bind fun t218 => (if t174 = true then (some t218) else (some false)))) else (some false))) = some r := H
      have A53 := Aside0.mk A530
      clear A530
      by_cases c54 : (t175 != t205) = true
      · rw [if_pos c54] at H
        have c54b0 : (t175 != t205) = true := c54
        (try (have c54b1 : decide (t175 = t205) = false := by simpa using c54))
        (try (have c54b2 : (t175 == t205) = false := by simpa using c54))
        (try (have c54b3 : ¬ (t175 = t205) := by simpa using c54))
        clear c54
        obtain rfl := Option.some.inj H
        go_enter Tryd.func4, Tryd.ntmps4
        go_wp2_with (first | ((with_reducible refine gate_callee (f := 6) rfl ?_); refine goesL_ (some 20) rfl rfl Tryd.func6 (by kernel_rfl) rfl #[] rfl (by (try simp only [List.map_toArray, List.map_cons, List.map_nil]); first | done | rfl | (simp only [List.length_drop, List.length_take]; rfl)) ?_; (with_reducible refine (shacklelaw01_shown.calls k  t174 _ A4.out).mono ?_); rintro e w55 ⟨rfl, hb⟩; refine ⟨_, rfl, ?_⟩; have n0_ := Aside0.mk (below_step (by repeat (first | (with_reducible first | exact HB.out | apply below_alloc | apply pw_below_drewN | apply below_drew1) | exact HB.out)) hb); clear HB; have HB := n0_; clear n0_; (try clear hb); (try clear hb2); (try clear hk); (try clear hi)) | ((with_reducible refine gate_callee (f := 10) rfl ?_); refine goesL_ (some 26) rfl rfl Tryd.func10 (by kernel_rfl) rfl #[.int .u64 (IntKind.u64.wrap ((l0.length : Int))), .int .u64 a1, .int .u64 a2] rfl (by (try simp only [List.map_toArray, List.map_cons, List.map_nil]); first | done | rfl | (simp only [List.length_drop, List.length_take]; rfl)) ?_; (with_reducible refine (span_In.calls (IntKind.u64.wrap ((l0.length : Int))) a1 a2 t175 _ A5.out).mono ?_); rintro e w' ⟨rfl, ⟨nd, rfl⟩⟩; refine ⟨_, rfl, ?_⟩) | ((with_reducible refine gate_callee (f := 11) rfl ?_); refine goesL_ (some 31) rfl rfl Tryd.func11 (by kernel_rfl) rfl #[.slice A0 l0.length c0, .int .u64 a1, .int .u64 a2] rfl (by (try simp only [List.map_toArray, List.map_cons, List.map_nil]); first | done | rfl | (simp only [List.length_drop, List.length_take]; rfl)) ?_; (with_reducible refine (span_Cut.calls _ _ l0 a1 a2 t176 (some q180) _ ?side1 ?side2 A6.out).mono ?_); (case side1 => repeat (first | exact (Kd.C_below HR0.out (by repeat (first | (with_reducible first | exact HB.out | apply below_alloc | apply pw_below_drewN | apply below_drew1) | exact HB.out))) | (with_reducible refine Kd.C_alloc ?_ _) | (with_reducible refine Kd.C_drewN ?_ _) | (with_reducible refine Kd.C_drew ?_))); (case side2 => exact HC0.out); rintro e w56 ⟨v178, ve1_, rfl, hE1_, ho0, hb⟩; refine ⟨_, rfl, ?_⟩; obtain ⟨gb181, rfl, hge1_, hbx1_⟩ := ErrAt.spot_eq hE1_ SQq180.out; have n0_ := Aside0.mk (Kd.R_lower ho0 (below_size (by repeat (first | (with_reducible first | exact HB.out | apply below_alloc | apply pw_below_drewN | apply below_drew1) | exact HB.out)))); have n1_ := Aside0.mk (hbx1_); have n2_ := Aside0.mk ((Nat.le_trans (below_size (by repeat (first | (with_reducible first | exact HB.out | apply below_alloc | apply pw_below_drewN | apply below_drew1) | exact HB.out))) hge1_ : w.heap.size ≤ gb181)); have n3_ := Aside0.mk ((Nat.le_trans (below_size (by repeat (first | (with_reducible first | exact HB.out | apply below_alloc | apply pw_below_drewN | apply below_drew1) | exact HB.out))) hge1_ : w.heap.size ≤ gb181)); have n4_ := Aside0.mk (below_step (by repeat (first | (with_reducible first | exact HB.out | apply below_alloc | apply pw_below_drewN | apply below_drew1) | exact HB.out)) hb); clear HB; have HO179 := n0_; have BK181 := n1_; have GW181 := n2_; have GE181 := n3_; have HB := n4_; clear n0_ n1_ n2_ n3_ n4_; (try clear hb); (try clear hb2); (try clear hk); (try clear hi); (try clear ho0); (try clear hge1_); (try clear hbx1_); (try simp only [errW_none, errW_some])) | ((with_reducible refine gate_callee (f := 12) rfl ?_); refine goesL_ (some 38) rfl rfl Tryd.func12 (by kernel_rfl) rfl #[.slice A0 l0.length c0, .int .u64 a1, .int .u64 a2] rfl (by (try simp only [List.map_toArray, List.map_cons, List.map_nil]); first | done | rfl | (simp only [List.length_drop, List.length_take]; rfl)) ?_; (with_reducible refine (shackleref01_Cut.calls k _ _ l0 a1 a2 t204 t205 _ ?side1 ?side2 A52.out).mono ?_); (case side1 => repeat (first | exact (Kd.C_below HR0.out HB.out) | (with_reducible refine Kd.C_alloc ?_ _) | (with_reducible refine Kd.C_drewN ?_ _) | (with_reducible refine Kd.C_drew ?_))); (case side2 => exact HC0.out); rintro e w57 ⟨v206, rfl, ho0, hb⟩; refine ⟨_, rfl, ?_⟩; have n0_ := Aside0.mk (Kd.R_elder' (by (with_reducible repeat (first | apply Kd.R_alloc | apply Kd.R_drewN | apply Kd.R_drew)); exact HO179.out) (Kd.R_base ho0) hb); have n1_ := Aside0.mk (Kd.R_lower (Kd.R_new' ho0 (Kd.R_lt (by (with_reducible repeat (first | apply Kd.R_alloc | apply Kd.R_drewN | apply Kd.R_drew)); exact HO179.out))) (below_size (by repeat (first | (with_reducible first | exact HB.out | apply below_alloc | apply pw_below_drewN | apply below_drew1 | refine below_set ?_ GE181.out) | exact HB.out)))); have n2_ := Aside0.mk (blk_below (g := gb181) (o := .cells #[.int .u64 (spAt q180), .iface 40 (.int .i64 (spCode q180))] 54 (0, 0)) (by (with_reducible repeat (first | refine blk_drewN ?_ _ | refine blk_drew ?_ | refine blk_alloc ?_ _)); exact BK181.out) hb); have n3_ := Aside0.mk (below_step (by repeat (first | (with_reducible first | exact HB.out | apply below_alloc | apply pw_below_drewN | apply below_drew1 | refine below_set ?_ GE181.out) | exact HB.out)) hb); clear HO179; clear BK181; clear HB; have HO179 := n0_; have HO207 := n1_; have BK181 := n2_; have HB := n3_; clear n0_ n1_ n2_ n3_; (try clear hb); (try clear hb2); (try clear hk); (try clear hi); (try clear ho0); obtain ⟨Ao58, co58, eo58⟩ := Kd.R_slice HO179.out; subst eo58; obtain ⟨Ao59, co59, eo59⟩ := Kd.R_slice HO207.out; subst eo59) | ((with_reducible refine gate_callee (f := 13) rfl ?_); refine goesL_ (some 43) rfl rfl Tryd.func13 (by kernel_rfl) rfl #[.slice Ao58 t176.length co58, .slice Ao59 t204.length co59] rfl (by (try simp only [List.map_toArray, List.map_cons, List.map_nil]); first | done | rfl | (simp only [List.length_drop, List.length_take]; rfl)) ?_; (with_reducible refine (shackleref01_Same.calls k _ _ t176 _ _ t204 t208 _ ?side1 ?side2 ?side3 ?side4 A53.out).mono ?_); (case side1 => repeat (first | exact (Kd.R_reads' HO179.out).2.2 | (with_reducible refine Kd.C_alloc ?_ _) | (with_reducible refine Kd.C_drewN ?_ _) | (with_reducible refine Kd.C_drew ?_))); (case side2 => exact (Kd.R_reads' HO179.out).2.1); (case side3 => repeat (first | exact (Kd.R_reads' HO207.out).2.2 | (with_reducible refine Kd.C_alloc ?_ _) | (with_reducible refine Kd.C_drewN ?_ _) | (with_reducible refine Kd.C_drew ?_))); (case side4 => exact (Kd.R_reads' HO207.out).2.1); rintro e w' ⟨rfl, ⟨nd, rfl⟩⟩; refine ⟨_, rfl, ?_⟩))
        go_ret
        exact ⟨by first | rfl | (simp [errW_none, errW_some] <;> rfl) | (simp [*, errW_none, errW_some] <;> rfl), by repeat (first | (with_reducible first | exact HB.out | apply below_alloc | apply pw_below_drewN | apply below_drew1 | refine below_set ?_ GE181.out) | exact HB.out)⟩
      · rw [if_neg c54] at H
        have c54b0 : (t175 != t205) = false := by simpa using c54
        (try (have c54b1 : decide (t175 = t205) = true := by simpa using c54))
        (try (have c54b2 : (t175 == t205) = true := by simpa using c54))
        clear c54
        by_cases c60 : t208 = true
        · subst c60
          have H1 : (if t205 = true then (if ([] : List Int).length + l0.length < 140737488355328 then ((span_Cut.f (([] : List Int) ++ l0) a1 a2).bind fun bt212 => (if bt212.2.isNone = true then (none) else (if (bt212.2.getD 0) < 0 then (none) else (none)))) else (none)) else ((shacklelaw00_Is.f (some q180) a1 4).bind fun t218 => (if t174 = true then (some t218) else (some false)))) = some r := by rw [if_pos rfl] at H; exact H
          clear H
          have H := H1
          clear H1
          by_cases c61 : t205 = true
          · subst c61
            have H1 : (if ([] : List Int).length + l0.length < 140737488355328 then ((span_Cut.f (([] : List Int) ++ l0) a1 a2).bind fun bt212 => (if bt212.2.isNone = true then (none) else (if (bt212.2.getD 0) < 0 then (none) else (none)))) else (none)) = some r := by rw [if_pos rfl] at H; exact H
            clear H
            have H := H1
            clear H1
            by_cases c62 : ([] : List Int).length + l0.length < 140737488355328
            · rw [if_pos c62] at H
              have LMc62 := Aside0.mk c62
              clear c62
              obtain ⟨y209, hy209⟩ : ∃ y_ : List Int, y_ = (([] : List Int) ++ l0) := ⟨_, rfl⟩
              replace H : ((span_Cut.f y209 a1 a2).bind fun bt212 => (if bt212.2.isNone = true then (none) else (if (bt212.2.getD 0) < 0 then (none) else (none)))) = some r := by first | (rw [hy209]; with_reducible exact H) | (have H2_ := (Option.bind_some _ _).symm.trans H; rw [hy209]; with_reducible exact H2_) | (have H2_ := (Option.bind_some _ _).symm.trans H; with_reducible exact H2_) | with_reducible exact H | (rw [hy209]; exact H) | exact H
              have Ny209 := Aside0.mk hy209
              clear hy209
              replace H := Option.bind_eq_some_iff.mp H
              obtain ⟨⟨t212, t213⟩, A630, H⟩ := H
              replace H : (if t213.isNone = true then (none) else (if (t213.getD 0) < 0 then (none) else (none))) = some r := H
              have A63 := Aside0.mk A630
              clear A630
              rcases t213 with _ | q216
              · have H1 : (none) = some r := by rw [if_pos (show (none : Option Int).isNone = true by rfl)] at H; exact H
                clear H
                have H := H1
                clear H1
                try simp only [errW_none, errW_some]
                exact absurd H (by simp)
              · have H1 : (if q216 < 0 then (none) else (none)) = some r := by rw [if_neg (show ¬ (some q216).isNone = true by simp)] at H; exact H
                clear H
                have H := H1
                clear H1
                try simp only [errW_none, errW_some]
                by_cases c64 : q216 < 0
                · rw [if_pos c64] at H
                  have SQq216 := Aside0.mk c64
                  clear c64
                  exact absurd H (by simp)
                · rw [if_neg c64] at H
                  have SQq216 := Aside0.mk c64
                  have c64b1 : decide (0 ≤ q216) = true := decide_eq_true (Int.not_lt.1 c64)
                  clear c64
                  exact absurd H (by simp)
            · rw [if_neg c62] at H
              exact absurd H (by simp)
          · replace c61 := Bool.eq_false_iff.mpr c61
            subst c61
            have H1 : ((shacklelaw00_Is.f (some q180) a1 4).bind fun t218 => (if t174 = true then (some t218) else (some false))) = some r := by rw [if_neg (show ¬ (false = true) by decide)] at H; exact H
            clear H
            have H := H1
            clear H1
            replace H := Option.bind_eq_some_iff.mp H
            obtain ⟨t218, A650, H⟩ := H
            replace H : (if t174 = true then (some t218) else (some false)) = some r := H
            have A65 := Aside0.mk A650
            clear A650
            by_cases c66 : t174 = true
            · subst c66
              have H1 : (some t218) = some r := by rw [if_pos rfl] at H; exact H
              clear H
              have H := H1
              clear H1
              obtain rfl := Option.some.inj H
              go_enter Tryd.func4, Tryd.ntmps4
              go_wp2_with (first | ((with_reducible refine gate_callee (f := 6) rfl ?_); refine goesL_ (some 20) rfl rfl Tryd.func6 (by kernel_rfl) rfl #[] rfl (by (try simp only [List.map_toArray, List.map_cons, List.map_nil]); first | done | rfl | (simp only [List.length_drop, List.length_take]; rfl)) ?_; (with_reducible refine (shacklelaw01_shown.calls k  true _ A4.out).mono ?_); rintro e w67 ⟨rfl, hb⟩; refine ⟨_, rfl, ?_⟩; have n0_ := Aside0.mk (below_step (by repeat (first | (with_reducible first | exact HB.out | apply below_alloc | apply pw_below_drewN | apply below_drew1) | exact HB.out)) hb); clear HB; have HB := n0_; clear n0_; (try clear hb); (try clear hb2); (try clear hk); (try clear hi)) | ((with_reducible refine gate_callee (f := 10) rfl ?_); refine goesL_ (some 26) rfl rfl Tryd.func10 (by kernel_rfl) rfl #[.int .u64 (IntKind.u64.wrap ((l0.length : Int))), .int .u64 a1, .int .u64 a2] rfl (by (try simp only [List.map_toArray, List.map_cons, List.map_nil]); first | done | rfl | (simp only [List.length_drop, List.length_take]; rfl)) ?_; (with_reducible refine (span_In.calls (IntKind.u64.wrap ((l0.length : Int))) a1 a2 t175 _ A5.out).mono ?_); rintro e w' ⟨rfl, ⟨nd, rfl⟩⟩; refine ⟨_, rfl, ?_⟩) | ((with_reducible refine gate_callee (f := 11) rfl ?_); refine goesL_ (some 31) rfl rfl Tryd.func11 (by kernel_rfl) rfl #[.slice A0 l0.length c0, .int .u64 a1, .int .u64 a2] rfl (by (try simp only [List.map_toArray, List.map_cons, List.map_nil]); first | done | rfl | (simp only [List.length_drop, List.length_take]; rfl)) ?_; (with_reducible refine (span_Cut.calls _ _ l0 a1 a2 t176 (some q180) _ ?side1 ?side2 A6.out).mono ?_); (case side1 => repeat (first | exact (Kd.C_below HR0.out (by repeat (first | (with_reducible first | exact HB.out | apply below_alloc | apply pw_below_drewN | apply below_drew1) | exact HB.out))) | (with_reducible refine Kd.C_alloc ?_ _) | (with_reducible refine Kd.C_drewN ?_ _) | (with_reducible refine Kd.C_drew ?_))); (case side2 => exact HC0.out); rintro e w68 ⟨v178, ve1_, rfl, hE1_, ho0, hb⟩; refine ⟨_, rfl, ?_⟩; obtain ⟨gb181, rfl, hge1_, hbx1_⟩ := ErrAt.spot_eq hE1_ SQq180.out; have n0_ := Aside0.mk (Kd.R_lower ho0 (below_size (by repeat (first | (with_reducible first | exact HB.out | apply below_alloc | apply pw_below_drewN | apply below_drew1) | exact HB.out)))); have n1_ := Aside0.mk (hbx1_); have n2_ := Aside0.mk ((Nat.le_trans (below_size (by repeat (first | (with_reducible first | exact HB.out | apply below_alloc | apply pw_below_drewN | apply below_drew1) | exact HB.out))) hge1_ : w.heap.size ≤ gb181)); have n3_ := Aside0.mk ((Nat.le_trans (below_size (by repeat (first | (with_reducible first | exact HB.out | apply below_alloc | apply pw_below_drewN | apply below_drew1) | exact HB.out))) hge1_ : w.heap.size ≤ gb181)); have n4_ := Aside0.mk (below_step (by repeat (first | (with_reducible first | exact HB.out | apply below_alloc | apply pw_below_drewN | apply below_drew1) | exact HB.out)) hb); clear HB; have HO179 := n0_; have BK181 := n1_; have GW181 := n2_; have GE181 := n3_; have HB := n4_; clear n0_ n1_ n2_ n3_ n4_; (try clear hb); (try clear hb2); (try clear hk); (try clear hi); (try clear ho0); (try clear hge1_); (try clear hbx1_); (try simp only [errW_none, errW_some])) | ((with_reducible refine gate_callee (f := 12) rfl ?_); refine goesL_ (some 38) rfl rfl Tryd.func12 (by kernel_rfl) rfl #[.slice A0 l0.length c0, .int .u64 a1, .int .u64 a2] rfl (by (try simp only [List.map_toArray, List.map_cons, List.map_nil]); first | done | rfl | (simp only [List.length_drop, List.length_take]; rfl)) ?_; (with_reducible refine (shackleref01_Cut.calls k _ _ l0 a1 a2 t204 false _ ?side1 ?side2 A52.out).mono ?_); (case side1 => repeat (first | exact (Kd.C_below HR0.out HB.out) | (with_reducible refine Kd.C_alloc ?_ _) | (with_reducible refine Kd.C_drewN ?_ _) | (with_reducible refine Kd.C_drew ?_))); (case side2 => exact HC0.out); rintro e w69 ⟨v206, rfl, ho0, hb⟩; refine ⟨_, rfl, ?_⟩; have n0_ := Aside0.mk (Kd.R_elder' (by (with_reducible repeat (first | apply Kd.R_alloc | apply Kd.R_drewN | apply Kd.R_drew)); exact HO179.out) (Kd.R_base ho0) hb); have n1_ := Aside0.mk (Kd.R_lower (Kd.R_new' ho0 (Kd.R_lt (by (with_reducible repeat (first | apply Kd.R_alloc | apply Kd.R_drewN | apply Kd.R_drew)); exact HO179.out))) (below_size (by repeat (first | (with_reducible first | exact HB.out | apply below_alloc | apply pw_below_drewN | apply below_drew1 | refine below_set ?_ GE181.out) | exact HB.out)))); have n2_ := Aside0.mk (blk_below (g := gb181) (o := .cells #[.int .u64 (spAt q180), .iface 40 (.int .i64 (spCode q180))] 54 (0, 0)) (by (with_reducible repeat (first | refine blk_drewN ?_ _ | refine blk_drew ?_ | refine blk_alloc ?_ _)); exact BK181.out) hb); have n3_ := Aside0.mk (below_step (by repeat (first | (with_reducible first | exact HB.out | apply below_alloc | apply pw_below_drewN | apply below_drew1 | refine below_set ?_ GE181.out) | exact HB.out)) hb); clear HO179; clear BK181; clear HB; have HO179 := n0_; have HO207 := n1_; have BK181 := n2_; have HB := n3_; clear n0_ n1_ n2_ n3_; (try clear hb); (try clear hb2); (try clear hk); (try clear hi); (try clear ho0); obtain ⟨Ao70, co70, eo70⟩ := Kd.R_slice HO179.out; subst eo70; obtain ⟨Ao71, co71, eo71⟩ := Kd.R_slice HO207.out; subst eo71) | ((with_reducible refine gate_callee (f := 13) rfl ?_); refine goesL_ (some 43) rfl rfl Tryd.func13 (by kernel_rfl) rfl #[.slice Ao70 t176.length co70, .slice Ao71 t204.length co71] rfl (by (try simp only [List.map_toArray, List.map_cons, List.map_nil]); first | done | rfl | (simp only [List.length_drop, List.length_take]; rfl)) ?_; (with_reducible refine (shackleref01_Same.calls k _ _ t176 _ _ t204 true _ ?side1 ?side2 ?side3 ?side4 A53.out).mono ?_); (case side1 => repeat (first | exact (Kd.R_reads' HO179.out).2.2 | (with_reducible refine Kd.C_alloc ?_ _) | (with_reducible refine Kd.C_drewN ?_ _) | (with_reducible refine Kd.C_drew ?_))); (case side2 => exact (Kd.R_reads' HO179.out).2.1); (case side3 => repeat (first | exact (Kd.R_reads' HO207.out).2.2 | (with_reducible refine Kd.C_alloc ?_ _) | (with_reducible refine Kd.C_drewN ?_ _) | (with_reducible refine Kd.C_drew ?_))); (case side4 => exact (Kd.R_reads' HO207.out).2.1); rintro e w' ⟨rfl, ⟨nd, rfl⟩⟩; refine ⟨_, rfl, ?_⟩) | (go_at_call 14; (with_reducible refine (shacklelaw00_Is.calls (.iface 52 (.pointer (some ⟨gb181, 0, none⟩))) (some q180) a1 4 t218 _ ?side1 ?side2 A65.out).mono ?_); (case side1 => exact ErrTy.below (by repeat (first | (with_reducible first | exact HB.out | apply below_alloc | apply pw_below_drewN | apply below_drew1 | refine below_set ?_ GE181.out) | exact HB.out)) hG); (case side2 => exact (ErrAt.of_spot SQq180.out (Nat.zero_le _) (by (with_reducible repeat (first | refine blk_drewN ?_ _ | refine blk_drew ?_ | refine blk_alloc ?_ _)); exact BK181.out))); rintro e w72 ⟨rfl, hb⟩; have n0_ := Aside0.mk (Kd.R_below (by (with_reducible repeat (first | apply Kd.R_alloc | apply Kd.R_drewN | apply Kd.R_drew)); exact HO179.out) hb); have n1_ := Aside0.mk (Kd.R_below (by (with_reducible repeat (first | apply Kd.R_alloc | apply Kd.R_drewN | apply Kd.R_drew)); exact HO207.out) hb); have n2_ := Aside0.mk (blk_below (g := gb181) (o := .cells #[.int .u64 (spAt q180), .iface 40 (.int .i64 (spCode q180))] 54 (0, 0)) (by (with_reducible repeat (first | refine blk_drewN ?_ _ | refine blk_drew ?_ | refine blk_alloc ?_ _)); exact BK181.out) hb); have n3_ := Aside0.mk (below_step (by repeat (first | (with_reducible first | exact HB.out | apply below_alloc | apply pw_below_drewN | apply below_drew1 | refine below_set ?_ GE181.out) | exact HB.out)) hb); clear HO179; clear HO207; clear BK181; clear HB; have HO179 := n0_; have HO207 := n1_; have BK181 := n2_; have HB := n3_; clear n0_ n1_ n2_ n3_; (try clear hb); (try clear hb2); (try clear hk); (try clear hi)))
              go_ret
              exact ⟨by first | rfl | (simp [errW_none, errW_some] <;> rfl) | (simp [*, errW_none, errW_some] <;> rfl), by repeat (first | (with_reducible first | exact HB.out | apply below_alloc | apply pw_below_drewN | apply below_drew1 | refine below_set ?_ GE181.out) | exact HB.out)⟩
            · replace c66 := Bool.eq_false_iff.mpr c66
              subst c66
              have H1 : (some false) = some r := by rw [if_neg (show ¬ (false = true) by decide)] at H; exact H
              clear H
              have H := H1
              clear H1
              obtain rfl := Option.some.inj H
              go_enter Tryd.func4, Tryd.ntmps4
              go_wp2_with (first | ((with_reducible refine gate_callee (f := 6) rfl ?_); refine goesL_ (some 20) rfl rfl Tryd.func6 (by kernel_rfl) rfl #[] rfl (by (try simp only [List.map_toArray, List.map_cons, List.map_nil]); first | done | rfl | (simp only [List.length_drop, List.length_take]; rfl)) ?_; (with_reducible refine (shacklelaw01_shown.calls k  false _ A4.out).mono ?_); rintro e w73 ⟨rfl, hb⟩; refine ⟨_, rfl, ?_⟩; have n0_ := Aside0.mk (below_step (by repeat (first | (with_reducible first | exact HB.out | apply below_alloc | apply pw_below_drewN | apply below_drew1) | exact HB.out)) hb); clear HB; have HB := n0_; clear n0_; (try clear hb); (try clear hb2); (try clear hk); (try clear hi)) | ((with_reducible refine gate_callee (f := 10) rfl ?_); refine goesL_ (some 26) rfl rfl Tryd.func10 (by kernel_rfl) rfl #[.int .u64 (IntKind.u64.wrap ((l0.length : Int))), .int .u64 a1, .int .u64 a2] rfl (by (try simp only [List.map_toArray, List.map_cons, List.map_nil]); first | done | rfl | (simp only [List.length_drop, List.length_take]; rfl)) ?_; (with_reducible refine (span_In.calls (IntKind.u64.wrap ((l0.length : Int))) a1 a2 t175 _ A5.out).mono ?_); rintro e w' ⟨rfl, ⟨nd, rfl⟩⟩; refine ⟨_, rfl, ?_⟩) | ((with_reducible refine gate_callee (f := 11) rfl ?_); refine goesL_ (some 31) rfl rfl Tryd.func11 (by kernel_rfl) rfl #[.slice A0 l0.length c0, .int .u64 a1, .int .u64 a2] rfl (by (try simp only [List.map_toArray, List.map_cons, List.map_nil]); first | done | rfl | (simp only [List.length_drop, List.length_take]; rfl)) ?_; (with_reducible refine (span_Cut.calls _ _ l0 a1 a2 t176 (some q180) _ ?side1 ?side2 A6.out).mono ?_); (case side1 => repeat (first | exact (Kd.C_below HR0.out (by repeat (first | (with_reducible first | exact HB.out | apply below_alloc | apply pw_below_drewN | apply below_drew1) | exact HB.out))) | (with_reducible refine Kd.C_alloc ?_ _) | (with_reducible refine Kd.C_drewN ?_ _) | (with_reducible refine Kd.C_drew ?_))); (case side2 => exact HC0.out); rintro e w74 ⟨v178, ve1_, rfl, hE1_, ho0, hb⟩; refine ⟨_, rfl, ?_⟩; obtain ⟨gb181, rfl, hge1_, hbx1_⟩ := ErrAt.spot_eq hE1_ SQq180.out; have n0_ := Aside0.mk (Kd.R_lower ho0 (below_size (by repeat (first | (with_reducible first | exact HB.out | apply below_alloc | apply pw_below_drewN | apply below_drew1) | exact HB.out)))); have n1_ := Aside0.mk (hbx1_); have n2_ := Aside0.mk ((Nat.le_trans (below_size (by repeat (first | (with_reducible first | exact HB.out | apply below_alloc | apply pw_below_drewN | apply below_drew1) | exact HB.out))) hge1_ : w.heap.size ≤ gb181)); have n3_ := Aside0.mk ((Nat.le_trans (below_size (by repeat (first | (with_reducible first | exact HB.out | apply below_alloc | apply pw_below_drewN | apply below_drew1) | exact HB.out))) hge1_ : w.heap.size ≤ gb181)); have n4_ := Aside0.mk (below_step (by repeat (first | (with_reducible first | exact HB.out | apply below_alloc | apply pw_below_drewN | apply below_drew1) | exact HB.out)) hb); clear HB; have HO179 := n0_; have BK181 := n1_; have GW181 := n2_; have GE181 := n3_; have HB := n4_; clear n0_ n1_ n2_ n3_ n4_; (try clear hb); (try clear hb2); (try clear hk); (try clear hi); (try clear ho0); (try clear hge1_); (try clear hbx1_); (try simp only [errW_none, errW_some])) | ((with_reducible refine gate_callee (f := 12) rfl ?_); refine goesL_ (some 38) rfl rfl Tryd.func12 (by kernel_rfl) rfl #[.slice A0 l0.length c0, .int .u64 a1, .int .u64 a2] rfl (by (try simp only [List.map_toArray, List.map_cons, List.map_nil]); first | done | rfl | (simp only [List.length_drop, List.length_take]; rfl)) ?_; (with_reducible refine (shackleref01_Cut.calls k _ _ l0 a1 a2 t204 false _ ?side1 ?side2 A52.out).mono ?_); (case side1 => repeat (first | exact (Kd.C_below HR0.out HB.out) | (with_reducible refine Kd.C_alloc ?_ _) | (with_reducible refine Kd.C_drewN ?_ _) | (with_reducible refine Kd.C_drew ?_))); (case side2 => exact HC0.out); rintro e w75 ⟨v206, rfl, ho0, hb⟩; refine ⟨_, rfl, ?_⟩; have n0_ := Aside0.mk (Kd.R_elder' (by (with_reducible repeat (first | apply Kd.R_alloc | apply Kd.R_drewN | apply Kd.R_drew)); exact HO179.out) (Kd.R_base ho0) hb); have n1_ := Aside0.mk (Kd.R_lower (Kd.R_new' ho0 (Kd.R_lt (by (with_reducible repeat (first | apply Kd.R_alloc | apply Kd.R_drewN | apply Kd.R_drew)); exact HO179.out))) (below_size (by repeat (first | (with_reducible first | exact HB.out | apply below_alloc | apply pw_below_drewN | apply below_drew1 | refine below_set ?_ GE181.out) | exact HB.out)))); have n2_ := Aside0.mk (blk_below (g := gb181) (o := .cells #[.int .u64 (spAt q180), .iface 40 (.int .i64 (spCode q180))] 54 (0, 0)) (by (with_reducible repeat (first | refine blk_drewN ?_ _ | refine blk_drew ?_ | refine blk_alloc ?_ _)); exact BK181.out) hb); have n3_ := Aside0.mk (below_step (by repeat (first | (with_reducible first | exact HB.out | apply below_alloc | apply pw_below_drewN | apply below_drew1 | refine below_set ?_ GE181.out) | exact HB.out)) hb); clear HO179; clear BK181; clear HB; have HO179 := n0_; have HO207 := n1_; have BK181 := n2_; have HB := n3_; clear n0_ n1_ n2_ n3_; (try clear hb); (try clear hb2); (try clear hk); (try clear hi); (try clear ho0); obtain ⟨Ao76, co76, eo76⟩ := Kd.R_slice HO179.out; subst eo76; obtain ⟨Ao77, co77, eo77⟩ := Kd.R_slice HO207.out; subst eo77) | ((with_reducible refine gate_callee (f := 13) rfl ?_); refine goesL_ (some 43) rfl rfl Tryd.func13 (by kernel_rfl) rfl #[.slice Ao76 t176.length co76, .slice Ao77 t204.length co77] rfl (by (try simp only [List.map_toArray, List.map_cons, List.map_nil]); first | done | rfl | (simp only [List.length_drop, List.length_take]; rfl)) ?_; (with_reducible refine (shackleref01_Same.calls k _ _ t176 _ _ t204 true _ ?side1 ?side2 ?side3 ?side4 A53.out).mono ?_); (case side1 => repeat (first | exact (Kd.R_reads' HO179.out).2.2 | (with_reducible refine Kd.C_alloc ?_ _) | (with_reducible refine Kd.C_drewN ?_ _) | (with_reducible refine Kd.C_drew ?_))); (case side2 => exact (Kd.R_reads' HO179.out).2.1); (case side3 => repeat (first | exact (Kd.R_reads' HO207.out).2.2 | (with_reducible refine Kd.C_alloc ?_ _) | (with_reducible refine Kd.C_drewN ?_ _) | (with_reducible refine Kd.C_drew ?_))); (case side4 => exact (Kd.R_reads' HO207.out).2.1); rintro e w' ⟨rfl, ⟨nd, rfl⟩⟩; refine ⟨_, rfl, ?_⟩) | (go_at_call 14; (with_reducible refine (shacklelaw00_Is.calls (.iface 52 (.pointer (some ⟨gb181, 0, none⟩))) (some q180) a1 4 t218 _ ?side1 ?side2 A65.out).mono ?_); (case side1 => exact ErrTy.below (by repeat (first | (with_reducible first | exact HB.out | apply below_alloc | apply pw_below_drewN | apply below_drew1 | refine below_set ?_ GE181.out) | exact HB.out)) hG); (case side2 => exact (ErrAt.of_spot SQq180.out (Nat.zero_le _) (by (with_reducible repeat (first | refine blk_drewN ?_ _ | refine blk_drew ?_ | refine blk_alloc ?_ _)); exact BK181.out))); rintro e w78 ⟨rfl, hb⟩; have n0_ := Aside0.mk (Kd.R_below (by (with_reducible repeat (first | apply Kd.R_alloc | apply Kd.R_drewN | apply Kd.R_drew)); exact HO179.out) hb); have n1_ := Aside0.mk (Kd.R_below (by (with_reducible repeat (first | apply Kd.R_alloc | apply Kd.R_drewN | apply Kd.R_drew)); exact HO207.out) hb); have n2_ := Aside0.mk (blk_below (g := gb181) (o := .cells #[.int .u64 (spAt q180), .iface 40 (.int .i64 (spCode q180))] 54 (0, 0)) (by (with_reducible repeat (first | refine blk_drewN ?_ _ | refine blk_drew ?_ | refine blk_alloc ?_ _)); exact BK181.out) hb); have n3_ := Aside0.mk (below_step (by repeat (first | (with_reducible first | exact HB.out | apply below_alloc | apply pw_below_drewN | apply below_drew1 | refine below_set ?_ GE181.out) | exact HB.out)) hb); clear HO179; clear HO207; clear BK181; clear HB; have HO179 := n0_; have HO207 := n1_; have BK181 := n2_; have HB := n3_; clear n0_ n1_ n2_ n3_; (try clear hb); (try clear hb2); (try clear hk); (try clear hi)))
              go_ret
              exact ⟨by first | rfl | (simp [errW_none, errW_some] <;> rfl) | (simp [*, errW_none, errW_some] <;> rfl), by repeat (first | (with_reducible first | exact HB.out | apply below_alloc | apply pw_below_drewN | apply below_drew1 | refine below_set ?_ GE181.out) | exact HB.out)⟩
        · replace c60 := Bool.eq_false_iff.mpr c60
          subst c60
          have H1 : (some false) = some r := by rw [if_neg (show ¬ (false = true) by decide)] at H; exact H
          clear H
          have H := H1
          clear H1
          obtain rfl := Option.some.inj H
          go_enter Tryd.func4, Tryd.ntmps4
          go_wp2_with (first | ((with_reducible refine gate_callee (f := 6) rfl ?_); refine goesL_ (some 20) rfl rfl Tryd.func6 (by kernel_rfl) rfl #[] rfl (by (try simp only [List.map_toArray, List.map_cons, List.map_nil]); first | done | rfl | (simp only [List.length_drop, List.length_take]; rfl)) ?_; (with_reducible refine (shacklelaw01_shown.calls k  t174 _ A4.out).mono ?_); rintro e w79 ⟨rfl, hb⟩; refine ⟨_, rfl, ?_⟩; have n0_ := Aside0.mk (below_step (by repeat (first | (with_reducible first | exact HB.out | apply below_alloc | apply pw_below_drewN | apply below_drew1) | exact HB.out)) hb); clear HB; have HB := n0_; clear n0_; (try clear hb); (try clear hb2); (try clear hk); (try clear hi)) | ((with_reducible refine gate_callee (f := 10) rfl ?_); refine goesL_ (some 26) rfl rfl Tryd.func10 (by kernel_rfl) rfl #[.int .u64 (IntKind.u64.wrap ((l0.length : Int))), .int .u64 a1, .int .u64 a2] rfl (by (try simp only [List.map_toArray, List.map_cons, List.map_nil]); first | done | rfl | (simp only [List.length_drop, List.length_take]; rfl)) ?_; (with_reducible refine (span_In.calls (IntKind.u64.wrap ((l0.length : Int))) a1 a2 t175 _ A5.out).mono ?_); rintro e w' ⟨rfl, ⟨nd, rfl⟩⟩; refine ⟨_, rfl, ?_⟩) | ((with_reducible refine gate_callee (f := 11) rfl ?_); refine goesL_ (some 31) rfl rfl Tryd.func11 (by kernel_rfl) rfl #[.slice A0 l0.length c0, .int .u64 a1, .int .u64 a2] rfl (by (try simp only [List.map_toArray, List.map_cons, List.map_nil]); first | done | rfl | (simp only [List.length_drop, List.length_take]; rfl)) ?_; (with_reducible refine (span_Cut.calls _ _ l0 a1 a2 t176 (some q180) _ ?side1 ?side2 A6.out).mono ?_); (case side1 => repeat (first | exact (Kd.C_below HR0.out (by repeat (first | (with_reducible first | exact HB.out | apply below_alloc | apply pw_below_drewN | apply below_drew1) | exact HB.out))) | (with_reducible refine Kd.C_alloc ?_ _) | (with_reducible refine Kd.C_drewN ?_ _) | (with_reducible refine Kd.C_drew ?_))); (case side2 => exact HC0.out); rintro e w80 ⟨v178, ve1_, rfl, hE1_, ho0, hb⟩; refine ⟨_, rfl, ?_⟩; obtain ⟨gb181, rfl, hge1_, hbx1_⟩ := ErrAt.spot_eq hE1_ SQq180.out; have n0_ := Aside0.mk (Kd.R_lower ho0 (below_size (by repeat (first | (with_reducible first | exact HB.out | apply below_alloc | apply pw_below_drewN | apply below_drew1) | exact HB.out)))); have n1_ := Aside0.mk (hbx1_); have n2_ := Aside0.mk ((Nat.le_trans (below_size (by repeat (first | (with_reducible first | exact HB.out | apply below_alloc | apply pw_below_drewN | apply below_drew1) | exact HB.out))) hge1_ : w.heap.size ≤ gb181)); have n3_ := Aside0.mk ((Nat.le_trans (below_size (by repeat (first | (with_reducible first | exact HB.out | apply below_alloc | apply pw_below_drewN | apply below_drew1) | exact HB.out))) hge1_ : w.heap.size ≤ gb181)); have n4_ := Aside0.mk (below_step (by repeat (first | (with_reducible first | exact HB.out | apply below_alloc | apply pw_below_drewN | apply below_drew1) | exact HB.out)) hb); clear HB; have HO179 := n0_; have BK181 := n1_; have GW181 := n2_; have GE181 := n3_; have HB := n4_; clear n0_ n1_ n2_ n3_ n4_; (try clear hb); (try clear hb2); (try clear hk); (try clear hi); (try clear ho0); (try clear hge1_); (try clear hbx1_); (try simp only [errW_none, errW_some])) | ((with_reducible refine gate_callee (f := 12) rfl ?_); refine goesL_ (some 38) rfl rfl Tryd.func12 (by kernel_rfl) rfl #[.slice A0 l0.length c0, .int .u64 a1, .int .u64 a2] rfl (by (try simp only [List.map_toArray, List.map_cons, List.map_nil]); first | done | rfl | (simp only [List.length_drop, List.length_take]; rfl)) ?_; (with_reducible refine (shackleref01_Cut.calls k _ _ l0 a1 a2 t204 t205 _ ?side1 ?side2 A52.out).mono ?_); (case side1 => repeat (first | exact (Kd.C_below HR0.out HB.out) | (with_reducible refine Kd.C_alloc ?_ _) | (with_reducible refine Kd.C_drewN ?_ _) | (with_reducible refine Kd.C_drew ?_))); (case side2 => exact HC0.out); rintro e w81 ⟨v206, rfl, ho0, hb⟩; refine ⟨_, rfl, ?_⟩; have n0_ := Aside0.mk (Kd.R_elder' (by (with_reducible repeat (first | apply Kd.R_alloc | apply Kd.R_drewN | apply Kd.R_drew)); exact HO179.out) (Kd.R_base ho0) hb); have n1_ := Aside0.mk (Kd.R_lower (Kd.R_new' ho0 (Kd.R_lt (by (with_reducible repeat (first | apply Kd.R_alloc | apply Kd.R_drewN | apply Kd.R_drew)); exact HO179.out))) (below_size (by repeat (first | (with_reducible first | exact HB.out | apply below_alloc | apply pw_below_drewN | apply below_drew1 | refine below_set ?_ GE181.out) | exact HB.out)))); have n2_ := Aside0.mk (blk_below (g := gb181) (o := .cells #[.int .u64 (spAt q180), .iface 40 (.int .i64 (spCode q180))] 54 (0, 0)) (by (with_reducible repeat (first | refine blk_drewN ?_ _ | refine blk_drew ?_ | refine blk_alloc ?_ _)); exact BK181.out) hb); have n3_ := Aside0.mk (below_step (by repeat (first | (with_reducible first | exact HB.out | apply below_alloc | apply pw_below_drewN | apply below_drew1 | refine below_set ?_ GE181.out) | exact HB.out)) hb); clear HO179; clear BK181; clear HB; have HO179 := n0_; have HO207 := n1_; have BK181 := n2_; have HB := n3_; clear n0_ n1_ n2_ n3_; (try clear hb); (try clear hb2); (try clear hk); (try clear hi); (try clear ho0); obtain ⟨Ao82, co82, eo82⟩ := Kd.R_slice HO179.out; subst eo82; obtain ⟨Ao83, co83, eo83⟩ := Kd.R_slice HO207.out; subst eo83) | ((with_reducible refine gate_callee (f := 13) rfl ?_); refine goesL_ (some 43) rfl rfl Tryd.func13 (by kernel_rfl) rfl #[.slice Ao82 t176.length co82, .slice Ao83 t204.length co83] rfl (by (try simp only [List.map_toArray, List.map_cons, List.map_nil]); first | done | rfl | (simp only [List.length_drop, List.length_take]; rfl)) ?_; (with_reducible refine (shackleref01_Same.calls k _ _ t176 _ _ t204 false _ ?side1 ?side2 ?side3 ?side4 A53.out).mono ?_); (case side1 => repeat (first | exact (Kd.R_reads' HO179.out).2.2 | (with_reducible refine Kd.C_alloc ?_ _) | (with_reducible refine Kd.C_drewN ?_ _) | (with_reducible refine Kd.C_drew ?_))); (case side2 => exact (Kd.R_reads' HO179.out).2.1); (case side3 => repeat (first | exact (Kd.R_reads' HO207.out).2.2 | (with_reducible refine Kd.C_alloc ?_ _) | (with_reducible refine Kd.C_drewN ?_ _) | (with_reducible refine Kd.C_drew ?_))); (case side4 => exact (Kd.R_reads' HO207.out).2.1); rintro e w' ⟨rfl, ⟨nd, rfl⟩⟩; refine ⟨_, rfl, ?_⟩))
          go_ret
          exact ⟨by first | rfl | (simp [errW_none, errW_some] <;> rfl) | (simp [*, errW_none, errW_some] <;> rfl), by repeat (first | (with_reducible first | exact HB.out | apply below_alloc | apply pw_below_drewN | apply below_drew1 | refine below_set ?_ GE181.out) | exact HB.out)⟩
    · rw [if_neg c51] at H
      have SQq180 := Aside0.mk c51
      have c51b1 : decide (0 ≤ q180) = true := decide_eq_true (Int.not_lt.1 c51)
      clear c51
      replace H := Option.bind_eq_some_iff.mp H
      obtain ⟨⟨t219, t220⟩, A840, H⟩ := H
      replace H : ((shackleref01_Same.f k t176 t219).bind fun t223 => (if (t175 != t220) = true then (shacklelaw01_SpanCuts.j2 k l0 a1 a2 t174 (some q180) t220 true) else (shacklelaw01_SpanCuts.j2 k l0 a1 a2 t174 (some q180) t220 (!t223)))) = some r := H
      have A84 := Aside0.mk A840
      clear A840
      replace H := Option.bind_eq_some_iff.mp H
      obtain ⟨t223, A850, H⟩ := H
      replace H : (if (t175 != t220) = true then (shacklelaw01_SpanCuts.j2 k l0 a1 a2 t174 (some q180) t220 true) else (shacklelaw01_SpanCuts.j2 k l0 a1 a2 t174 (some q180) t220 (!t223))) = some r := H
      have A85 := Aside0.mk A850
      clear A850
      have HC86 := Aside0.mk H
      clear H
      go_enter Tryd.func4, Tryd.ntmps4
      go_upto_region 6 with (first | ((with_reducible refine gate_callee (f := 6) rfl ?_); refine goesL_ (some 20) rfl rfl Tryd.func6 (by kernel_rfl) rfl #[] rfl (by (try simp only [List.map_toArray, List.map_cons, List.map_nil]); first | done | rfl | (simp only [List.length_drop, List.length_take]; rfl)) ?_; (with_reducible refine (shacklelaw01_shown.calls k  t174 _ A4.out).mono ?_); rintro e w87 ⟨rfl, hb⟩; refine ⟨_, rfl, ?_⟩; have n0_ := Aside0.mk (below_step (by repeat (first | (with_reducible first | exact HB.out | apply below_alloc | apply pw_below_drewN | apply below_drew1) | exact HB.out)) hb); clear HB; have HB := n0_; clear n0_; (try clear hb); (try clear hb2); (try clear hk); (try clear hi)) | ((with_reducible refine gate_callee (f := 10) rfl ?_); refine goesL_ (some 26) rfl rfl Tryd.func10 (by kernel_rfl) rfl #[.int .u64 (IntKind.u64.wrap ((l0.length : Int))), .int .u64 a1, .int .u64 a2] rfl (by (try simp only [List.map_toArray, List.map_cons, List.map_nil]); first | done | rfl | (simp only [List.length_drop, List.length_take]; rfl)) ?_; (with_reducible refine (span_In.calls (IntKind.u64.wrap ((l0.length : Int))) a1 a2 t175 _ A5.out).mono ?_); rintro e w' ⟨rfl, ⟨nd, rfl⟩⟩; refine ⟨_, rfl, ?_⟩) | ((with_reducible refine gate_callee (f := 11) rfl ?_); refine goesL_ (some 31) rfl rfl Tryd.func11 (by kernel_rfl) rfl #[.slice A0 l0.length c0, .int .u64 a1, .int .u64 a2] rfl (by (try simp only [List.map_toArray, List.map_cons, List.map_nil]); first | done | rfl | (simp only [List.length_drop, List.length_take]; rfl)) ?_; (with_reducible refine (span_Cut.calls _ _ l0 a1 a2 t176 (some q180) _ ?side1 ?side2 A6.out).mono ?_); (case side1 => repeat (first | exact (Kd.C_below HR0.out (by repeat (first | (with_reducible first | exact HB.out | apply below_alloc | apply pw_below_drewN | apply below_drew1) | exact HB.out))) | (with_reducible refine Kd.C_alloc ?_ _) | (with_reducible refine Kd.C_drewN ?_ _) | (with_reducible refine Kd.C_drew ?_))); (case side2 => exact HC0.out); rintro e w88 ⟨v178, ve1_, rfl, hE1_, ho0, hb⟩; refine ⟨_, rfl, ?_⟩; obtain rfl := ErrAt.code_eq hE1_ SQq180.out; have n0_ := Aside0.mk (Kd.R_lower ho0 (below_size (by repeat (first | (with_reducible first | exact HB.out | apply below_alloc | apply pw_below_drewN | apply below_drew1) | exact HB.out)))); have n1_ := Aside0.mk (below_step (by repeat (first | (with_reducible first | exact HB.out | apply below_alloc | apply pw_below_drewN | apply below_drew1) | exact HB.out)) hb); clear HB; have HO179 := n0_; have HB := n1_; clear n0_ n1_; (try clear hb); (try clear hb2); (try clear hk); (try clear hi); (try clear ho0); (try simp only [errW_none, errW_some])) | ((with_reducible refine gate_callee (f := 12) rfl ?_); refine goesL_ (some 38) rfl rfl Tryd.func12 (by kernel_rfl) rfl #[.slice A0 l0.length c0, .int .u64 a1, .int .u64 a2] rfl (by (try simp only [List.map_toArray, List.map_cons, List.map_nil]); first | done | rfl | (simp only [List.length_drop, List.length_take]; rfl)) ?_; (with_reducible refine (shackleref01_Cut.calls k _ _ l0 a1 a2 t219 t220 _ ?side1 ?side2 A84.out).mono ?_); (case side1 => repeat (first | exact (Kd.C_below HR0.out HB.out) | (with_reducible refine Kd.C_alloc ?_ _) | (with_reducible refine Kd.C_drewN ?_ _) | (with_reducible refine Kd.C_drew ?_))); (case side2 => exact HC0.out); rintro e w89 ⟨v221, rfl, ho0, hb⟩; refine ⟨_, rfl, ?_⟩; have n0_ := Aside0.mk (Kd.R_elder' (by (with_reducible repeat (first | apply Kd.R_alloc | apply Kd.R_drewN | apply Kd.R_drew)); exact HO179.out) (Kd.R_base ho0) hb); have n1_ := Aside0.mk (Kd.R_lower (Kd.R_new' ho0 (Kd.R_lt (by (with_reducible repeat (first | apply Kd.R_alloc | apply Kd.R_drewN | apply Kd.R_drew)); exact HO179.out))) (below_size (by repeat (first | (with_reducible first | exact HB.out | apply below_alloc | apply pw_below_drewN | apply below_drew1) | exact HB.out)))); have n2_ := Aside0.mk (below_step (by repeat (first | (with_reducible first | exact HB.out | apply below_alloc | apply pw_below_drewN | apply below_drew1) | exact HB.out)) hb); clear HO179; clear HB; have HO179 := n0_; have HO222 := n1_; have HB := n2_; clear n0_ n1_ n2_; (try clear hb); (try clear hb2); (try clear hk); (try clear hi); (try clear ho0); obtain ⟨Ao90, co90, eo90⟩ := Kd.R_slice HO179.out; subst eo90; obtain ⟨Ao91, co91, eo91⟩ := Kd.R_slice HO222.out; subst eo91) | ((with_reducible refine gate_callee (f := 13) rfl ?_); refine goesL_ (some 43) rfl rfl Tryd.func13 (by kernel_rfl) rfl #[.slice Ao90 t176.length co90, .slice Ao91 t219.length co91] rfl (by (try simp only [List.map_toArray, List.map_cons, List.map_nil]); first | done | rfl | (simp only [List.length_drop, List.length_take]; rfl)) ?_; (with_reducible refine (shackleref01_Same.calls k _ _ t176 _ _ t219 t223 _ ?side1 ?side2 ?side3 ?side4 A85.out).mono ?_); (case side1 => repeat (first | exact (Kd.R_reads' HO179.out).2.2 | (with_reducible refine Kd.C_alloc ?_ _) | (with_reducible refine Kd.C_drewN ?_ _) | (with_reducible refine Kd.C_drew ?_))); (case side2 => exact (Kd.R_reads' HO179.out).2.1); (case side3 => repeat (first | exact (Kd.R_reads' HO222.out).2.2 | (with_reducible refine Kd.C_alloc ?_ _) | (with_reducible refine Kd.C_drewN ?_ _) | (with_reducible refine Kd.C_drew ?_))); (case side4 => exact (Kd.R_reads' HO222.out).2.1); rintro e w' ⟨rfl, ⟨nd, rfl⟩⟩; refine ⟨_, rfl, ?_⟩))
      (try simp only [Act.put, List.setIfInBounds_toArray, List.set_cons_zero, List.set_cons_succ])
      go_cut [50] (fun v50 wc => ∃ (kq : Nat) (x50_85 : Bool), v50 = .bool x50_85 ∧ Aside0 (shacklelaw01_SpanCuts.j2 kq l0 a1 a2 t174 (some q180) t220 x50_85 = some r) ∧ Aside0 (kq ≤ k) ∧ Aside0 (Below w.heap.size w wc))
      case first =>
        have H := HC86.out
        clear HC86
        by_cases c92 : (t175 != t220) = true
        · rw [if_pos c92] at H
          have c92b0 : (t175 != t220) = true := c92
          (try (have c92b1 : decide (t175 = t220) = false := by simpa using c92))
          (try (have c92b2 : (t175 == t220) = false := by simpa using c92))
          (try (have c92b3 : ¬ (t175 = t220) := by simpa using c92))
          clear c92
          (first | rw [c92b0] | (simp only [i64_w, i32_w]; rw [c92b0]) | skip)
          have H' := Aside0.mk H
          clear H
          go_wp2
          go_meet
          case rel => exact ⟨_, (true), (by first | rfl | (simp; done) | (simp [*]; done)), H', ⟨by first | omega | exact Nat.le_refl _⟩, ⟨by repeat (first | (with_reducible first | exact HB.out | apply below_alloc | apply pw_below_drewN | apply below_drew1) | exact HB.out)⟩⟩
        · rw [if_neg c92] at H
          have c92b0 : (t175 != t220) = false := by simpa using c92
          (try (have c92b1 : decide (t175 = t220) = true := by simpa using c92))
          (try (have c92b2 : (t175 == t220) = true := by simpa using c92))
          clear c92
          (first | rw [c92b0] | (simp only [i64_w, i32_w]; rw [c92b0]) | skip)
          have H' := Aside0.mk H
          clear H
          go_wp2
          go_meet
          case rel => exact ⟨_, (!t223), (by first | rfl | (simp; done) | (simp [*]; done)), H', ⟨by first | omega | exact Nat.le_refl _⟩, ⟨by repeat (first | (with_reducible first | exact HB.out | apply below_alloc | apply pw_below_drewN | apply below_drew1) | exact HB.out)⟩⟩
      case rest =>
        clear HC86
        try clear c1
        try clear p1
        try clear q1
        try clear hx1
        try clear c2
        try clear p2
        try clear q2
        try clear hx2
        try clear c3
        try clear p3
        try clear q3
        try clear hx3
        try clear hf3
        try clear c4
        try clear c5
        try clear c6
        try clear p6
        try clear c9
        try clear c10
        try clear c11
        try clear c12
        try clear c13
        try clear c15
        try clear c15b0
        try clear c15b1
        try clear c15b2
        try clear c16
        try clear c17
        try clear c18
        try clear q18
        try clear p19
        try clear q19
        try clear hx19
        try clear q21
        try clear c23
        try clear c23b0
        try clear c24
        try clear c24b0
        try clear p25
        try clear q25
        try clear hx25
        try clear hf25
        try clear c30
        try clear c33
        try clear c33b1
        try clear c37
        try clear c37b0
        try clear c38
        try clear c38b0
        try clear p39
        try clear q39
        try clear hx39
        try clear hf39
        try clear c44
        try clear c48
        try clear c51
        try clear c51b1
        try clear c54
        try clear c54b0
        try clear c54b1
        try clear c54b2
        try clear c60
        try clear c61
        try clear c62
        try clear c64
        try clear c64b1
        try clear p64
        try clear c66
        try clear c92
        try clear c92b0
        try clear c92b1
        try clear c92b2
        try clear hx199_0
        try clear hx25_0
        try clear hx39_0
        try clear p1
        try clear p19
        try clear p199
        try clear p2
        try clear p25
        try clear p39
        try clear p6
        try clear q1
        try clear q18
        try clear q180
        try clear q19
        try clear q197
        try clear q199
        try clear q2
        try clear q216
        try clear q25
        try clear q39
        obtain ⟨kq, x50_85, rfl, HA, HJ85, HB⟩ := hcut
        cases kq with
        | zero => exact absurd HA.out (by simp [shacklelaw01_SpanCuts.j2])
        | succ kj85 =>
          have H := HA.out
          clear HA
          simp only [shacklelaw01_SpanCuts.j2] at H
          by_cases c93 : x50_85 = true
          · subst c93
            have H1 : (some false) = some r := by rw [if_pos rfl] at H; exact H
            clear H
            have H := H1
            clear H1
            obtain rfl := Option.some.inj H
            go_wp2
            go_ret
            exact ⟨by first | rfl | (simp [errW_none, errW_some] <;> rfl) | (simp [*, errW_none, errW_some] <;> rfl), by repeat (first | (with_reducible first | exact HB.out | apply below_alloc | apply pw_below_drewN | apply below_drew1) | exact HB.out)⟩
          · replace c93 := Bool.eq_false_iff.mpr c93
            subst c93
            have H1 : (if t220 = true then (if ([] : List Int).length + l0.length < 140737488355328 then ((some (([] : List Int) ++ l0 : List Int)).bind fun y227 => ((span_Cut.f y227 a1 a2).bind fun bt230 => (if bt230.2.isNone = true then (shacklelaw01_SpanCuts.l0 kj85 l0 t174 (some q180) y227 bt230.1 none 0) else (if (bt230.2.getD 0) < 0 then (none) else (shacklelaw01_SpanCuts.l0 kj85 l0 t174 (some q180) y227 bt230.1 (some (bt230.2.getD 0)) 0))))) else (none)) else (if (some q180).isNone = true then ((shacklelaw00_Is.f none a1 4).bind fun t225 => (if t174 = true then (some t225) else (some false))) else (if 0 ≤ ((some q180).getD 0) then ((shacklelaw00_Is.f (some ((some q180).getD 0)) a1 4).bind fun t226 => (if t174 = true then (some t226) else (some false))) else (none)))) = some r := by rw [if_neg (show ¬ (false = true) by decide)] at H; exact H
            clear H
            have H := H1
            clear H1
            by_cases c94 : t220 = true
            · subst c94
              have H1 : (if ([] : List Int).length + l0.length < 140737488355328 then ((some (([] : List Int) ++ l0 : List Int)).bind fun y227 => ((span_Cut.f y227 a1 a2).bind fun bt230 => (if bt230.2.isNone = true then (shacklelaw01_SpanCuts.l0 kj85 l0 t174 (some q180) y227 bt230.1 none 0) else (if (bt230.2.getD 0) < 0 then (none) else (shacklelaw01_SpanCuts.l0 kj85 l0 t174 (some q180) y227 bt230.1 (some (bt230.2.getD 0)) 0))))) else (none)) = some r := by rw [if_pos rfl] at H; exact H
              clear H
              have H := H1
              clear H1
              by_cases c95 : ([] : List Int).length + l0.length < 140737488355328
              · rw [if_pos c95] at H
                have LMc95 := Aside0.mk c95
                clear c95
                obtain ⟨y227, hy227⟩ : ∃ y_ : List Int, y_ = (([] : List Int) ++ l0) := ⟨_, rfl⟩
                replace H : ((span_Cut.f y227 a1 a2).bind fun bt230 => (if bt230.2.isNone = true then (shacklelaw01_SpanCuts.l0 kj85 l0 t174 (some q180) y227 bt230.1 none 0) else (if (bt230.2.getD 0) < 0 then (none) else (shacklelaw01_SpanCuts.l0 kj85 l0 t174 (some q180) y227 bt230.1 (some (bt230.2.getD 0)) 0)))) = some r := by first | (rw [hy227]; with_reducible exact H) | (have H2_ := (Option.bind_some _ _).symm.trans H; rw [hy227]; with_reducible exact H2_) | (have H2_ := (Option.bind_some _ _).symm.trans H; with_reducible exact H2_) | with_reducible exact H | (rw [hy227]; exact H) | exact H
                have Ny227 := Aside0.mk hy227
                clear hy227
                replace H := Option.bind_eq_some_iff.mp H
                obtain ⟨⟨t230, t231⟩, A960, H⟩ := H
                replace H : (if t231.isNone = true then (shacklelaw01_SpanCuts.l0 kj85 l0 t174 (some q180) y227 t230 none 0) else (if (t231.getD 0) < 0 then (none) else (shacklelaw01_SpanCuts.l0 kj85 l0 t174 (some q180) y227 t230 (some (t231.getD 0)) 0))) = some r := H
                have A96 := Aside0.mk A960
                clear A960
                rcases t231 with _ | q234
                · have H1 : (shacklelaw01_SpanCuts.l0 kj85 l0 t174 (some q180) y227 t230 none 0) = some r := by rw [if_pos (show (none : Option Int).isNone = true by rfl)] at H; exact H
                  clear H
                  have H := H1
                  clear H1
                  try simp only [errW_none, errW_some]
                  have H' := Aside0.mk H
                  clear H
                  go_wp2_with (first | ((with_reducible refine gate_builtin (b := .append) (xs := #[.tmp 60, .tmp 61]) rfl ?_); at_builtin; refine Kd.R_append_rows (Kd.int .u8) (w0 := w) w.heap.size rfl (.tmp 60) (.tmp 61) 22 5 (.int .u8 0) 1 rfl Tryd.underlying22 info5 rfl (by decide) (by omega) (.slice none 0 0) ([] : List Int) l0 _ _ _ (fun _ => True) (fun _ => False) rfl rfl ?aO ?aR (fun _ _ h => h) (fun _ h => h.elim) ?aF ?aB ?aS ?aL ?_; (case aR => repeat (first | exact (Kd.C_below HR0.out HB.out) | (with_reducible refine Kd.C_alloc ?_ _) | (with_reducible refine Kd.C_drewN ?_ _) | (with_reducible refine Kd.C_drew ?_))); (case aB => exact (by repeat (first | (with_reducible first | exact HB.out | apply below_alloc | apply pw_below_drewN | apply below_drew1) | exact HB.out))); (case aF => exact (fun _ _ => trivial)); (case aO => exact ((Kd.R_nil _ _ _ _ (fun _ => True)))); (case aS => exact (below_size (by repeat (first | (with_reducible first | exact HB.out | apply below_alloc | apply pw_below_drewN | apply below_drew1) | exact HB.out)))); (case aL => have := LMc95.out; omega); intro v228 w97 ho hb hg hat; rw [← Ny227.out] at ho; have n0_ := Aside0.mk (hb); have n1_ := Aside0.mk (ho); clear HB; have HB := n0_; have HO229 := n1_; clear n0_ n1_; clear ho hb hg hat; obtain ⟨Ao98, co98, eo98⟩ := Kd.R_slice HO229.out; subst eo98) | ((with_reducible refine gate_callee (f := 11) rfl ?_); refine goesL_ (some 67) rfl rfl Tryd.func11 (by kernel_rfl) rfl #[.slice Ao98 y227.length co98, .int .u64 a1, .int .u64 a2] rfl (by (try simp only [List.map_toArray, List.map_cons, List.map_nil]); first | done | rfl | (simp only [List.length_drop, List.length_take]; rfl)) ?_; (with_reducible refine (span_Cut.calls _ _ y227 a1 a2 t230 none _ ?side1 ?side2 A96.out).mono ?_); (case side1 => repeat (first | exact (Kd.R_reads' HO229.out).2.2 | (with_reducible refine Kd.C_alloc ?_ _) | (with_reducible refine Kd.C_drewN ?_ _) | (with_reducible refine Kd.C_drew ?_))); (case side2 => exact (Kd.R_reads' HO229.out).2.1); rintro e w99 ⟨v232, ve1_, rfl, hE1_, ho0, hb⟩; refine ⟨_, rfl, ?_⟩; obtain rfl := ErrAt.none_eq hE1_; have n0_ := Aside0.mk (Kd.R_elder' (by (with_reducible repeat (first | apply Kd.R_alloc | apply Kd.R_drewN | apply Kd.R_drew)); exact HO229.out) (Kd.R_base ho0) hb); have n1_ := Aside0.mk (Kd.R_lower (Kd.R_new' ho0 (Kd.R_lt (by (with_reducible repeat (first | apply Kd.R_alloc | apply Kd.R_drewN | apply Kd.R_drew)); exact HO229.out))) (below_size (by repeat (first | (with_reducible first | exact HB.out | apply below_alloc | apply pw_below_drewN | apply below_drew1) | exact HB.out)))); have n2_ := Aside0.mk (below_step (by repeat (first | (with_reducible first | exact HB.out | apply below_alloc | apply pw_below_drewN | apply below_drew1) | exact HB.out)) hb); clear HO229; clear HB; have HO229 := n0_; have HO233 := n1_; have HB := n2_; clear n0_ n1_ n2_; (try clear hb); (try clear hb2); (try clear hk); (try clear hi); (try clear ho0); (try simp only [errW_none, errW_some])))
                  go_loopg [18] kj85 (fun kq v18 w' => ∃ (x16_2 : List Int) (x18_2 : Int), v18 = .int .i64 x18_2 ∧ Aside0 (shacklelaw01_SpanCuts.l0 kq l0 t174 (some q180) y227 x16_2 (none : Option Int) x18_2 = some r) ∧ Aside0 (kq ≤ kj85) ∧ Aside0 (Kd.R (Kd.int .u8) 5 w' w.heap.size (fun k_ => some k_ ≠ (v232 : Value).ownBlock) (.slice Ao98 y227.length co98) y227) ∧ Aside0 (Kd.R (Kd.int .u8) 5 w' w.heap.size (fun k_ => some k_ ≠ ((.slice Ao98 y227.length co98) : Value).ownBlock) v232 x16_2) ∧ Aside0 (Below w.heap.size w w'))
                  case atStart => exact ⟨(t230), (0), (by first | rfl | (simp; done) | (simp [*]; done)), H', ⟨Nat.le_refl _⟩, ⟨by (with_reducible repeat (first | apply Kd.R_alloc | apply Kd.R_drewN | apply Kd.R_drew)); exact Kd.R_mono HO229.out (fun _ hk => hk.2)⟩, ⟨by (with_reducible repeat (first | apply Kd.R_alloc | apply Kd.R_drewN | apply Kd.R_drew)); exact Kd.R_mono HO233.out (fun _ hk => hk.2)⟩, ⟨by repeat (first | (with_reducible first | exact HB.out | apply below_alloc | apply pw_below_drewN | apply below_drew1) | exact HB.out)⟩⟩
                  case round =>
                    clear H'
                    try clear c1
                    try clear p1
                    try clear q1
                    try clear hx1
                    try clear c2
                    try clear p2
                    try clear q2
                    try clear hx2
                    try clear c3
                    try clear p3
                    try clear q3
                    try clear hx3
                    try clear hf3
                    try clear c4
                    try clear c5
                    try clear c6
                    try clear p6
                    try clear c9
                    try clear c10
                    try clear c11
                    try clear c12
                    try clear c13
                    try clear c15
                    try clear c15b0
                    try clear c15b1
                    try clear c15b2
                    try clear c16
                    try clear c17
                    try clear c18
                    try clear q18
                    try clear p19
                    try clear q19
                    try clear hx19
                    try clear q21
                    try clear c23
                    try clear c23b0
                    try clear q23
                    try clear c24
                    try clear c24b0
                    try clear p25
                    try clear q25
                    try clear hx25
                    try clear hf25
                    try clear c30
                    try clear c33
                    try clear c33b1
                    try clear c37
                    try clear c37b0
                    try clear c38
                    try clear c38b0
                    try clear p39
                    try clear q39
                    try clear hx39
                    try clear hf39
                    try clear c44
                    try clear c48
                    try clear c51
                    try clear c51b1
                    try clear c54
                    try clear c54b0
                    try clear c54b1
                    try clear c54b2
                    try clear c60
                    try clear c61
                    try clear c62
                    try clear c64
                    try clear c64b1
                    try clear p64
                    try clear c66
                    try clear c92
                    try clear c92b0
                    try clear c92b1
                    try clear c92b2
                    try clear c93
                    try clear c94
                    try clear c95
                    try clear hx199_0
                    try clear hx25_0
                    try clear hx39_0
                    try clear p1
                    try clear p19
                    try clear p199
                    try clear p2
                    try clear p25
                    try clear p3
                    try clear p39
                    try clear p6
                    try clear p64
                    try clear q1
                    try clear q18
                    try clear q180
                    try clear q19
                    try clear q197
                    try clear q199
                    try clear q2
                    try clear q21
                    try clear q216
                    try clear q234
                    try clear q25
                    try clear q3
                    try clear q39
                    obtain ⟨x16_2, x18_2, rfl, HA, HK2, HO_15, HO_16, HB⟩ := hrel
                    cases gk with
                    | zero => exact absurd HA.out (by simp [shacklelaw01_SpanCuts.l0])
                    | succ k2 =>
                      have H := HA.out
                      clear HA
                      simp only [shacklelaw01_SpanCuts.l0] at H
                      by_cases c100 : x18_2 < (x16_2.length : Int)
                      · rw [if_pos c100] at H
                        have c100b0 : decide (x18_2 < (x16_2.length : Int)) = true := decide_eq_true c100
                        clear c100
                        by_cases c101 : 0 ≤ x18_2
                        · rw [if_pos c101] at H
                          have c101b0 : decide (0 ≤ x18_2) = true := decide_eq_true c101
                          clear c101
                          obtain ⟨y200, hy200⟩ : ∃ y_ : List Int, y_ = (x16_2.set (x18_2 : Int).toNat (((rd x16_2 x18_2) + 1) % 256)) := ⟨_, rfl⟩
                          replace H : (shacklelaw01_SpanCuts.l0 k2 l0 t174 (some q180) y227 y200 (none : Option Int) (wrap64 (x18_2 + 1))) = some r := by first | (rw [hy200]; with_reducible exact H) | (have H2_ := (Option.bind_some _ _).symm.trans H; rw [hy200]; with_reducible exact H2_) | (have H2_ := (Option.bind_some _ _).symm.trans H; with_reducible exact H2_) | with_reducible exact H | (rw [hy200]; exact H) | exact H
                          have Ny200 := Aside0.mk hy200
                          clear hy200
                          have H' := Aside0.mk H
                          clear H
                          obtain ⟨Ao103, co103, eo103⟩ := Kd.R_slice HO_16.out
                          subst eo103
                          have p199 : 0 ≤ (x18_2 : Int) := of_decide_eq_true (by first | (with_reducible assumption) | assumption)
                          have q199 : x18_2 < (x16_2.length : Int) := of_decide_eq_true (by first | (with_reducible assumption) | assumption)
                          obtain ⟨ad199, e199, hx199_0⟩ := Kd.at_int (Kd.R_reads' HO_16.out).2.2 x18_2 p199 q199
                          cases e199
                          replace p199 := eq_true p199
                          replace q199 := eq_true q199
                          have p102 : 0 ≤ (x18_2 : Int) := of_decide_eq_true (by first | (with_reducible assumption) | assumption)
                          have q102 : (x18_2 : Int) < ((x16_2.length : Int) : Int) := of_decide_eq_true (by first | (with_reducible assumption) | assumption)
                          obtain ⟨go102, co102, eo102, gb102, gl102, cl102, HG102⟩ := Kd.R_form HO_16.out (by omega)
                          (first | cases eo102 | (injection eo102 with ea_ en_ ec_; (first | subst ea_ | (injection ea_ with ea_; subst ea_)); subst ec_; clear en_))
                          have GB102 := Aside0.mk gb102
                          have GG102 := Aside0.mk HG102
                          clear gb102 gl102 HG102
                          (first | simp only [add_plain] at hx199_0 | skip)
                          obtain ⟨hx102_0, hf102_0⟩ := Kd.R_celln 0 HO_16.out (x18_2 : Int) p102 q102
                          replace p102 := eq_true p102
                          replace q102 := eq_true q102
                          have HP104 := Kd.R_putg HO_16.out (x18_2 : Int) (((rd x16_2 x18_2) + 1) % 256)
                          go_wp2_with (first | ((with_reducible refine gate_store (t := 5) (p := 83) rfl ?_); refine store_event (t := 5) (p := 83) (v := ?vo_w105) (w1 := (wr.setCell ⟨go102, (x18_2 : Int).toNat, none⟩ (.int .u8 (((rd x16_2 x18_2) + 1) % 256)))) ?hg ?ho ?hn ?hr ?_; (case ho => rfl); (case hg => rfl); (case hn => rfl); (case hr => first | (go_simp; done) | (go_simp; rfl)); intro w105 hw; have hg : wr.grownBy w105 (some go102) := (by rw [hw]; exact HP104.2); have hp_ : Kd.R (Kd.int .u8) 5 w105 w.heap.size (fun k_ => some k_ ≠ (.slice Ao98 y227.length co98 : Value).ownBlock) (.slice (some ⟨go102, 0, none⟩) x16_2.length co103) y200 := (by rw [hw, Ny200.out]; exact HP104.1); clear HP104; have n0_ := Aside0.mk (Kd.R_after (v := (.slice (some ⟨go102, 0, none⟩) x16_2.length co103)) (v1 := (.slice (some ⟨go102, 0, none⟩) x16_2.length co103)) (ok := (fun _ => True)) (by (with_reducible repeat (first | apply Kd.R_alloc | apply Kd.R_drewN | apply Kd.R_drew)); exact Kd.R_mono HO_15.out (fun _ hk => ⟨trivial, hk⟩)) hg (.inl rfl)); have n1_ := Aside0.mk (hp_); have n2_ := Aside0.mk ((by rw [hw]; exact below_set (HB.out) GB102.out : Below w.heap.size w w105)); clear HO_15; clear HO_16; clear HB; have HO_15 := n0_; have HO_16 := n1_; have HB := n2_; clear n0_ n1_ n2_; clear hg hw hp_))
                          go_roundg k2
                          case measure => have := HJ85.out; have := HK2.out; omega
                          case rel => exact ⟨(y200), (wrap64 (x18_2 + 1)), (by first | rfl | (simp; done) | (simp [*]; done)), H', ⟨by have := HJ85.out; have := HK2.out; omega⟩, ⟨by (with_reducible repeat (first | apply Kd.R_alloc | apply Kd.R_drewN | apply Kd.R_drew)); exact Kd.R_mono HO_15.out (fun _ hk => hk.2)⟩, ⟨by (with_reducible repeat (first | apply Kd.R_alloc | apply Kd.R_drewN | apply Kd.R_drew)); exact HO_16.out⟩, ⟨by repeat (first | (with_reducible first | exact HB.out | apply below_alloc | apply pw_below_drewN | apply below_drew1) | exact HB.out)⟩⟩
                        · rw [if_neg c101] at H
                          exact absurd H (by simp)
                      · rw [if_neg c100] at H
                        have c100b0 : decide (x18_2 < (x16_2.length : Int)) = false := decide_eq_false c100
                        clear c100
                        replace H := Option.bind_eq_some_iff.mp H
                        obtain ⟨t201, A1060, H⟩ := H
                        replace H : (if t174 = true then (if (some q180).isNone = true then (if (none : Option Int).isNone = true then (some t201) else (some false)) else (some false)) else (some false)) = some r := H
                        have A106 := Aside0.mk A1060
                        clear A1060
                        by_cases c107 : t174 = true
                        · subst c107
                          have H1 : (if (some q180).isNone = true then (if (none : Option Int).isNone = true then (some t201) else (some false)) else (some false)) = some r := by rw [if_pos rfl] at H; exact H
                          clear H
                          have H := H1
                          clear H1
                          have H1 : (some false) = some r := by rw [if_neg (show ¬ (some q180).isNone = true by simp)] at H; exact H
                          clear H
                          have H := H1
                          clear H1
                          try simp only [errW_none, errW_some]
                          obtain rfl := Option.some.inj H
                          obtain ⟨Ao108, co108, eo108⟩ := Kd.R_slice HO_16.out
                          subst eo108
                          go_wp2_with (first | ((with_reducible refine gate_callee (f := 13) rfl ?_); refine goesL_ (some 86) rfl rfl Tryd.func13 (by kernel_rfl) rfl #[.slice Ao98 y227.length co98, .slice A0 l0.length c0] rfl (by (try simp only [List.map_toArray, List.map_cons, List.map_nil]); first | done | rfl | (simp only [List.length_drop, List.length_take]; rfl)) ?_; (with_reducible refine (shackleref01_Same.calls k2 _ _ y227 _ _ l0 t201 _ ?side1 ?side2 ?side3 ?side4 A106.out).mono ?_); (case side1 => repeat (first | exact (Kd.R_reads' HO_15.out).2.2 | (with_reducible refine Kd.C_alloc ?_ _) | (with_reducible refine Kd.C_drewN ?_ _) | (with_reducible refine Kd.C_drew ?_))); (case side2 => exact (Kd.R_reads' HO_15.out).2.1); (case side3 => repeat (first | exact (Kd.C_below HR0.out HB.out) | (with_reducible refine Kd.C_alloc ?_ _) | (with_reducible refine Kd.C_drewN ?_ _) | (with_reducible refine Kd.C_drew ?_))); (case side4 => exact HC0.out); rintro e w' ⟨rfl, ⟨nd, rfl⟩⟩; refine ⟨_, rfl, ?_⟩))
                          go_ret
                          exact ⟨by first | rfl | (simp [errW_none, errW_some] <;> rfl) | (simp [*, errW_none, errW_some] <;> rfl), by repeat (first | (with_reducible first | exact HB.out | apply below_alloc | apply pw_below_drewN | apply below_drew1) | exact HB.out)⟩
                        · replace c107 := Bool.eq_false_iff.mpr c107
                          subst c107
                          have H1 : (some false) = some r := by rw [if_neg (show ¬ (false = true) by decide)] at H; exact H
                          clear H
                          have H := H1
                          clear H1
                          obtain rfl := Option.some.inj H
                          obtain ⟨Ao109, co109, eo109⟩ := Kd.R_slice HO_16.out
                          subst eo109
                          go_wp2_with (first | ((with_reducible refine gate_callee (f := 13) rfl ?_); refine goesL_ (some 86) rfl rfl Tryd.func13 (by kernel_rfl) rfl #[.slice Ao98 y227.length co98, .slice A0 l0.length c0] rfl (by (try simp only [List.map_toArray, List.map_cons, List.map_nil]); first | done | rfl | (simp only [List.length_drop, List.length_take]; rfl)) ?_; (with_reducible refine (shackleref01_Same.calls k2 _ _ y227 _ _ l0 t201 _ ?side1 ?side2 ?side3 ?side4 A106.out).mono ?_); (case side1 => repeat (first | exact (Kd.R_reads' HO_15.out).2.2 | (with_reducible refine Kd.C_alloc ?_ _) | (with_reducible refine Kd.C_drewN ?_ _) | (with_reducible refine Kd.C_drew ?_))); (case side2 => exact (Kd.R_reads' HO_15.out).2.1); (case side3 => repeat (first | exact (Kd.C_below HR0.out HB.out) | (with_reducible refine Kd.C_alloc ?_ _) | (with_reducible refine Kd.C_drewN ?_ _) | (with_reducible refine Kd.C_drew ?_))); (case side4 => exact HC0.out); rintro e w' ⟨rfl, ⟨nd, rfl⟩⟩; refine ⟨_, rfl, ?_⟩))
                          go_ret
                          exact ⟨by first | rfl | (simp [errW_none, errW_some] <;> rfl) | (simp [*, errW_none, errW_some] <;> rfl), by repeat (first | (with_reducible first | exact HB.out | apply below_alloc | apply pw_below_drewN | apply below_drew1) | exact HB.out)⟩
                · have H1 : (if q234 < 0 then (none) else (shacklelaw01_SpanCuts.l0 kj85 l0 t174 (some q180) y227 t230 (some q234) 0)) = some r := by rw [if_neg (show ¬ (some q234).isNone = true by simp)] at H; exact H
                  clear H
                  have H := H1
                  clear H1
                  try simp only [errW_none, errW_some]
                  by_cases c110 : q234 < 0
                  · rw [if_pos c110] at H
                    have SQq234 := Aside0.mk c110
                    clear c110
                    exact absurd H (by simp)
                  · rw [if_neg c110] at H
                    have SQq234 := Aside0.mk c110
                    have c110b1 : decide (0 ≤ q234) = true := decide_eq_true (Int.not_lt.1 c110)
                    clear c110
                    have H' := Aside0.mk H
                    clear H
                    go_wp2_with (first | ((with_reducible refine gate_builtin (b := .append) (xs := #[.tmp 60, .tmp 61]) rfl ?_); at_builtin; refine Kd.R_append_rows (Kd.int .u8) (w0 := w) w.heap.size rfl (.tmp 60) (.tmp 61) 22 5 (.int .u8 0) 1 rfl Tryd.underlying22 info5 rfl (by decide) (by omega) (.slice none 0 0) ([] : List Int) l0 _ _ _ (fun _ => True) (fun _ => False) rfl rfl ?aO ?aR (fun _ _ h => h) (fun _ h => h.elim) ?aF ?aB ?aS ?aL ?_; (case aR => repeat (first | exact (Kd.C_below HR0.out HB.out) | (with_reducible refine Kd.C_alloc ?_ _) | (with_reducible refine Kd.C_drewN ?_ _) | (with_reducible refine Kd.C_drew ?_))); (case aB => exact (by repeat (first | (with_reducible first | exact HB.out | apply below_alloc | apply pw_below_drewN | apply below_drew1) | exact HB.out))); (case aF => exact (fun _ _ => trivial)); (case aO => exact ((Kd.R_nil _ _ _ _ (fun _ => True)))); (case aS => exact (below_size (by repeat (first | (with_reducible first | exact HB.out | apply below_alloc | apply pw_below_drewN | apply below_drew1) | exact HB.out)))); (case aL => have := LMc95.out; omega); intro v228 w111 ho hb hg hat; rw [← Ny227.out] at ho; have n0_ := Aside0.mk (hb); have n1_ := Aside0.mk (ho); clear HB; have HB := n0_; have HO229 := n1_; clear n0_ n1_; clear ho hb hg hat; obtain ⟨Ao112, co112, eo112⟩ := Kd.R_slice HO229.out; subst eo112) | ((with_reducible refine gate_callee (f := 11) rfl ?_); refine goesL_ (some 67) rfl rfl Tryd.func11 (by kernel_rfl) rfl #[.slice Ao112 y227.length co112, .int .u64 a1, .int .u64 a2] rfl (by (try simp only [List.map_toArray, List.map_cons, List.map_nil]); first | done | rfl | (simp only [List.length_drop, List.length_take]; rfl)) ?_; (with_reducible refine (span_Cut.calls _ _ y227 a1 a2 t230 (some q234) _ ?side1 ?side2 A96.out).mono ?_); (case side1 => repeat (first | exact (Kd.R_reads' HO229.out).2.2 | (with_reducible refine Kd.C_alloc ?_ _) | (with_reducible refine Kd.C_drewN ?_ _) | (with_reducible refine Kd.C_drew ?_))); (case side2 => exact (Kd.R_reads' HO229.out).2.1); rintro e w113 ⟨v232, ve1_, rfl, hE1_, ho0, hb⟩; refine ⟨_, rfl, ?_⟩; obtain rfl := ErrAt.code_eq hE1_ SQq234.out; have n0_ := Aside0.mk (Kd.R_elder' (by (with_reducible repeat (first | apply Kd.R_alloc | apply Kd.R_drewN | apply Kd.R_drew)); exact HO229.out) (Kd.R_base ho0) hb); have n1_ := Aside0.mk (Kd.R_lower (Kd.R_new' ho0 (Kd.R_lt (by (with_reducible repeat (first | apply Kd.R_alloc | apply Kd.R_drewN | apply Kd.R_drew)); exact HO229.out))) (below_size (by repeat (first | (with_reducible first | exact HB.out | apply below_alloc | apply pw_below_drewN | apply below_drew1) | exact HB.out)))); have n2_ := Aside0.mk (below_step (by repeat (first | (with_reducible first | exact HB.out | apply below_alloc | apply pw_below_drewN | apply below_drew1) | exact HB.out)) hb); clear HO229; clear HB; have HO229 := n0_; have HO233 := n1_; have HB := n2_; clear n0_ n1_ n2_; (try clear hb); (try clear hb2); (try clear hk); (try clear hi); (try clear ho0); (try simp only [errW_none, errW_some])))
                    go_loopg [18] kj85 (fun kq v18 w' => ∃ (x16_2 : List Int) (x18_2 : Int), v18 = .int .i64 x18_2 ∧ Aside0 (shacklelaw01_SpanCuts.l0 kq l0 t174 (some q180) y227 x16_2 (some q234) x18_2 = some r) ∧ Aside0 (kq ≤ kj85) ∧ Aside0 (Kd.R (Kd.int .u8) 5 w' w.heap.size (fun k_ => some k_ ≠ (v232 : Value).ownBlock) (.slice Ao112 y227.length co112) y227) ∧ Aside0 (Kd.R (Kd.int .u8) 5 w' w.heap.size (fun k_ => some k_ ≠ ((.slice Ao112 y227.length co112) : Value).ownBlock) v232 x16_2) ∧ Aside0 (Below w.heap.size w w'))
                    case atStart => exact ⟨(t230), (0), (by first | rfl | (simp; done) | (simp [*]; done)), H', ⟨Nat.le_refl _⟩, ⟨by (with_reducible repeat (first | apply Kd.R_alloc | apply Kd.R_drewN | apply Kd.R_drew)); exact Kd.R_mono HO229.out (fun _ hk => hk.2)⟩, ⟨by (with_reducible repeat (first | apply Kd.R_alloc | apply Kd.R_drewN | apply Kd.R_drew)); exact Kd.R_mono HO233.out (fun _ hk => hk.2)⟩, ⟨by repeat (first | (with_reducible first | exact HB.out | apply below_alloc | apply pw_below_drewN | apply below_drew1) | exact HB.out)⟩⟩
                    case round =>
                      clear H'
                      try clear c1
                      try clear p1
                      try clear q1
                      try clear hx1
                      try clear c2
                      try clear p2
                      try clear q2
                      try clear hx2
                      try clear c3
                      try clear p3
                      try clear q3
                      try clear hx3
                      try clear hf3
                      try clear c4
                      try clear c5
                      try clear c6
                      try clear p6
                      try clear c9
                      try clear c10
                      try clear p10
                      try clear q10
                      try clear hx10
                      try clear hf10
                      try clear c11
                      try clear c12
                      try clear c13
                      try clear c15
                      try clear c15b0
                      try clear c15b1
                      try clear c15b2
                      try clear c16
                      try clear c17
                      try clear c18
                      try clear q18
                      try clear p19
                      try clear q19
                      try clear hx19
                      try clear q21
                      try clear c23
                      try clear c23b0
                      try clear q23
                      try clear c24
                      try clear c24b0
                      try clear p25
                      try clear q25
                      try clear hx25
                      try clear hf25
                      try clear c30
                      try clear c33
                      try clear c33b1
                      try clear c37
                      try clear c37b0
                      try clear c38
                      try clear c38b0
                      try clear p39
                      try clear q39
                      try clear hx39
                      try clear hf39
                      try clear c44
                      try clear c48
                      try clear c51
                      try clear c51b1
                      try clear c54
                      try clear c54b0
                      try clear c54b1
                      try clear c54b2
                      try clear c60
                      try clear c61
                      try clear c62
                      try clear c64
                      try clear c64b1
                      try clear p64
                      try clear c66
                      try clear c92
                      try clear c92b0
                      try clear c92b1
                      try clear c92b2
                      try clear c93
                      try clear c94
                      try clear c95
                      try clear c100
                      try clear c100b0
                      try clear c101
                      try clear c101b0
                      try clear p102
                      try clear q102
                      try clear hx102
                      try clear hf102
                      try clear c107
                      try clear c110
                      try clear c110b1
                      try clear hx102_0
                      try clear hx199_0
                      try clear hx25_0
                      try clear hx39_0
                      try clear p1
                      try clear p102
                      try clear p19
                      try clear p199
                      try clear p2
                      try clear p25
                      try clear p3
                      try clear p39
                      try clear p6
                      try clear p64
                      try clear q1
                      try clear q102
                      try clear q18
                      try clear q180
                      try clear q19
                      try clear q197
                      try clear q199
                      try clear q2
                      try clear q21
                      try clear q216
                      try clear q23
                      try clear q234
                      try clear q25
                      try clear q3
                      try clear q39
                      obtain ⟨x16_2, x18_2, rfl, HA, HK2, HO_15, HO_16, HB⟩ := hrel
                      cases gk with
                      | zero => exact absurd HA.out (by simp [shacklelaw01_SpanCuts.l0])
                      | succ k2 =>
                        have H := HA.out
                        clear HA
                        simp only [shacklelaw01_SpanCuts.l0] at H
                        by_cases c114 : x18_2 < (x16_2.length : Int)
                        · rw [if_pos c114] at H
                          have c114b0 : decide (x18_2 < (x16_2.length : Int)) = true := decide_eq_true c114
                          clear c114
                          by_cases c115 : 0 ≤ x18_2
                          · rw [if_pos c115] at H
                            have c115b0 : decide (0 ≤ x18_2) = true := decide_eq_true c115
                            clear c115
                            obtain ⟨y200, hy200⟩ : ∃ y_ : List Int, y_ = (x16_2.set (x18_2 : Int).toNat (((rd x16_2 x18_2) + 1) % 256)) := ⟨_, rfl⟩
                            replace H : (shacklelaw01_SpanCuts.l0 k2 l0 t174 (some q180) y227 y200 (some q234) (wrap64 (x18_2 + 1))) = some r := by first | (rw [hy200]; with_reducible exact H) | (have H2_ := (Option.bind_some _ _).symm.trans H; rw [hy200]; with_reducible exact H2_) | (have H2_ := (Option.bind_some _ _).symm.trans H; with_reducible exact H2_) | with_reducible exact H | (rw [hy200]; exact H) | exact H
                            have Ny200 := Aside0.mk hy200
                            clear hy200
                            have H' := Aside0.mk H
                            clear H
                            obtain ⟨Ao117, co117, eo117⟩ := Kd.R_slice HO_16.out
                            subst eo117
                            have p199 : 0 ≤ (x18_2 : Int) := of_decide_eq_true (by first | (with_reducible assumption) | assumption)
                            have q199 : x18_2 < (x16_2.length : Int) := of_decide_eq_true (by first | (with_reducible assumption) | assumption)
                            obtain ⟨ad199, e199, hx199_0⟩ := Kd.at_int (Kd.R_reads' HO_16.out).2.2 x18_2 p199 q199
                            cases e199
                            replace p199 := eq_true p199
                            replace q199 := eq_true q199
                            have p116 : 0 ≤ (x18_2 : Int) := of_decide_eq_true (by first | (with_reducible assumption) | assumption)
                            have q116 : (x18_2 : Int) < ((x16_2.length : Int) : Int) := of_decide_eq_true (by first | (with_reducible assumption) | assumption)
                            obtain ⟨go116, co116, eo116, gb116, gl116, cl116, HG116⟩ := Kd.R_form HO_16.out (by omega)
                            (first | cases eo116 | (injection eo116 with ea_ en_ ec_; (first | subst ea_ | (injection ea_ with ea_; subst ea_)); subst ec_; clear en_))
                            have GB116 := Aside0.mk gb116
                            have GG116 := Aside0.mk HG116
                            clear gb116 gl116 HG116
                            (first | simp only [add_plain] at hx199_0 | skip)
                            obtain ⟨hx116_0, hf116_0⟩ := Kd.R_celln 0 HO_16.out (x18_2 : Int) p116 q116
                            replace p116 := eq_true p116
                            replace q116 := eq_true q116
                            have HP118 := Kd.R_putg HO_16.out (x18_2 : Int) (((rd x16_2 x18_2) + 1) % 256)
                            go_wp2_with (first | ((with_reducible refine gate_store (t := 5) (p := 83) rfl ?_); refine store_event (t := 5) (p := 83) (v := ?vo_w119) (w1 := (wr.setCell ⟨go116, (x18_2 : Int).toNat, none⟩ (.int .u8 (((rd x16_2 x18_2) + 1) % 256)))) ?hg ?ho ?hn ?hr ?_; (case ho => rfl); (case hg => rfl); (case hn => rfl); (case hr => first | (go_simp; done) | (go_simp; rfl)); intro w119 hw; have hg : wr.grownBy w119 (some go116) := (by rw [hw]; exact HP118.2); have hp_ : Kd.R (Kd.int .u8) 5 w119 w.heap.size (fun k_ => some k_ ≠ (.slice Ao112 y227.length co112 : Value).ownBlock) (.slice (some ⟨go116, 0, none⟩) x16_2.length co117) y200 := (by rw [hw, Ny200.out]; exact HP118.1); clear HP118; have n0_ := Aside0.mk (Kd.R_after (v := (.slice (some ⟨go116, 0, none⟩) x16_2.length co117)) (v1 := (.slice (some ⟨go116, 0, none⟩) x16_2.length co117)) (ok := (fun _ => True)) (by (with_reducible repeat (first | apply Kd.R_alloc | apply Kd.R_drewN | apply Kd.R_drew)); exact Kd.R_mono HO_15.out (fun _ hk => ⟨trivial, hk⟩)) hg (.inl rfl)); have n1_ := Aside0.mk (hp_); have n2_ := Aside0.mk ((by rw [hw]; exact below_set (HB.out) GB116.out : Below w.heap.size w w119)); clear HO_15; clear HO_16; clear HB; have HO_15 := n0_; have HO_16 := n1_; have HB := n2_; clear n0_ n1_ n2_; clear hg hw hp_))
                            go_roundg k2
                            case measure => have := HJ85.out; have := HK2.out; omega
                            case rel => exact ⟨(y200), (wrap64 (x18_2 + 1)), (by first | rfl | (simp; done) | (simp [*]; done)), H', ⟨by have := HJ85.out; have := HK2.out; omega⟩, ⟨by (with_reducible repeat (first | apply Kd.R_alloc | apply Kd.R_drewN | apply Kd.R_drew)); exact Kd.R_mono HO_15.out (fun _ hk => hk.2)⟩, ⟨by (with_reducible repeat (first | apply Kd.R_alloc | apply Kd.R_drewN | apply Kd.R_drew)); exact HO_16.out⟩, ⟨by repeat (first | (with_reducible first | exact HB.out | apply below_alloc | apply pw_below_drewN | apply below_drew1) | exact HB.out)⟩⟩
                          · rw [if_neg c115] at H
                            exact absurd H (by simp)
                        · rw [if_neg c114] at H
                          have c114b0 : decide (x18_2 < (x16_2.length : Int)) = false := decide_eq_false c114
                          clear c114
                          replace H := Option.bind_eq_some_iff.mp H
                          obtain ⟨t201, A1200, H⟩ := H
                          replace H : (if t174 = true then (if (some q180).isNone = true then (if (some q234).isNone = true then (some t201) else (some false)) else (some false)) else (some false)) = some r := H
                          have A120 := Aside0.mk A1200
                          clear A1200
                          by_cases c121 : t174 = true
                          · subst c121
                            have H1 : (if (some q180).isNone = true then (if (some q234).isNone = true then (some t201) else (some false)) else (some false)) = some r := by rw [if_pos rfl] at H; exact H
                            clear H
                            have H := H1
                            clear H1
                            have H1 : (some false) = some r := by rw [if_neg (show ¬ (some q180).isNone = true by simp)] at H; exact H
                            clear H
                            have H := H1
                            clear H1
                            try simp only [errW_none, errW_some]
                            obtain rfl := Option.some.inj H
                            obtain ⟨Ao122, co122, eo122⟩ := Kd.R_slice HO_16.out
                            subst eo122
                            go_wp2_with (first | ((with_reducible refine gate_callee (f := 13) rfl ?_); refine goesL_ (some 86) rfl rfl Tryd.func13 (by kernel_rfl) rfl #[.slice Ao112 y227.length co112, .slice A0 l0.length c0] rfl (by (try simp only [List.map_toArray, List.map_cons, List.map_nil]); first | done | rfl | (simp only [List.length_drop, List.length_take]; rfl)) ?_; (with_reducible refine (shackleref01_Same.calls k2 _ _ y227 _ _ l0 t201 _ ?side1 ?side2 ?side3 ?side4 A120.out).mono ?_); (case side1 => repeat (first | exact (Kd.R_reads' HO_15.out).2.2 | (with_reducible refine Kd.C_alloc ?_ _) | (with_reducible refine Kd.C_drewN ?_ _) | (with_reducible refine Kd.C_drew ?_))); (case side2 => exact (Kd.R_reads' HO_15.out).2.1); (case side3 => repeat (first | exact (Kd.C_below HR0.out HB.out) | (with_reducible refine Kd.C_alloc ?_ _) | (with_reducible refine Kd.C_drewN ?_ _) | (with_reducible refine Kd.C_drew ?_))); (case side4 => exact HC0.out); rintro e w' ⟨rfl, ⟨nd, rfl⟩⟩; refine ⟨_, rfl, ?_⟩))
                            go_ret
                            exact ⟨by first | rfl | (simp [errW_none, errW_some] <;> rfl) | (simp [*, errW_none, errW_some] <;> rfl), by repeat (first | (with_reducible first | exact HB.out | apply below_alloc | apply pw_below_drewN | apply below_drew1) | exact HB.out)⟩
                          · replace c121 := Bool.eq_false_iff.mpr c121
                            subst c121
                            have H1 : (some false) = some r := by rw [if_neg (show ¬ (false = true) by decide)] at H; exact H
                            clear H
                            have H := H1
                            clear H1
                            obtain rfl := Option.some.inj H
                            obtain ⟨Ao123, co123, eo123⟩ := Kd.R_slice HO_16.out
                            subst eo123
                            go_wp2_with (first | ((with_reducible refine gate_callee (f := 13) rfl ?_); refine goesL_ (some 86) rfl rfl Tryd.func13 (by kernel_rfl) rfl #[.slice Ao112 y227.length co112, .slice A0 l0.length c0] rfl (by (try simp only [List.map_toArray, List.map_cons, List.map_nil]); first | done | rfl | (simp only [List.length_drop, List.length_take]; rfl)) ?_; (with_reducible refine (shackleref01_Same.calls k2 _ _ y227 _ _ l0 t201 _ ?side1 ?side2 ?side3 ?side4 A120.out).mono ?_); (case side1 => repeat (first | exact (Kd.R_reads' HO_15.out).2.2 | (with_reducible refine Kd.C_alloc ?_ _) | (with_reducible refine Kd.C_drewN ?_ _) | (with_reducible refine Kd.C_drew ?_))); (case side2 => exact (Kd.R_reads' HO_15.out).2.1); (case side3 => repeat (first | exact (Kd.C_below HR0.out HB.out) | (with_reducible refine Kd.C_alloc ?_ _) | (with_reducible refine Kd.C_drewN ?_ _) | (with_reducible refine Kd.C_drew ?_))); (case side4 => exact HC0.out); rintro e w' ⟨rfl, ⟨nd, rfl⟩⟩; refine ⟨_, rfl, ?_⟩))
                            go_ret
                            exact ⟨by first | rfl | (simp [errW_none, errW_some] <;> rfl) | (simp [*, errW_none, errW_some] <;> rfl), by repeat (first | (with_reducible first | exact HB.out | apply below_alloc | apply pw_below_drewN | apply below_drew1) | exact HB.out)⟩
              · rw [if_neg c95] at H
                exact absurd H (by simp)
            · replace c94 := Bool.eq_false_iff.mpr c94
              subst c94
              have H1 : (if (some q180).isNone = true then ((shacklelaw00_Is.f none a1 4).bind fun t225 => (if t174 = true then (some t225) else (some false))) else (if 0 ≤ ((some q180).getD 0) then ((shacklelaw00_Is.f (some ((some q180).getD 0)) a1 4).bind fun t226 => (if t174 = true then (some t226) else (some false))) else (none))) = some r := by rw [if_neg (show ¬ (false = true) by decide)] at H; exact H
              clear H
              have H := H1
              clear H1
              have H1 : (if 0 ≤ q180 then ((shacklelaw00_Is.f (some q180) a1 4).bind fun t226 => (if t174 = true then (some t226) else (some false))) else (none)) = some r := by rw [if_neg (show ¬ (some q180).isNone = true by simp)] at H; exact H
              clear H
              have H := H1
              clear H1
              try simp only [errW_none, errW_some]
              by_cases c124 : 0 ≤ q180
              · rw [if_pos c124] at H
                have c124b0 := eq_true c124
                have c124b1 : decide (0 ≤ q180) = true := decide_eq_true c124
                clear c124
                replace H := Option.bind_eq_some_iff.mp H
                obtain ⟨t226, A1250, H⟩ := H
                replace H : (if t174 = true then (some t226) else (some false)) = some r := H
                have A125 := Aside0.mk A1250
                clear A1250
                by_cases c126 : t174 = true
                · subst c126
                  have H1 : (some t226) = some r := by rw [if_pos rfl] at H; exact H
                  clear H
                  have H := H1
                  clear H1
                  obtain rfl := Option.some.inj H
                  go_wp2_with (first | (go_at_call 14; (with_reducible refine (shacklelaw00_Is.calls (.iface 40 (.int .i64 q180)) (some q180) a1 4 t226 _ ?side1 ?side2 A125.out).mono ?_); (case side1 => exact ErrTy.below (by repeat (first | (with_reducible first | exact HB.out | apply below_alloc | apply pw_below_drewN | apply below_drew1) | exact HB.out)) hG); (case side2 => exact (ErrAt.of_code (by first | (with_reducible exact of_decide_eq_true (by assumption)) | exact of_decide_eq_true (by assumption) | decide | omega))); rintro e w127 ⟨rfl, hb⟩; have n0_ := Aside0.mk (below_step (by repeat (first | (with_reducible first | exact HB.out | apply below_alloc | apply pw_below_drewN | apply below_drew1) | exact HB.out)) hb); clear HB; have HB := n0_; clear n0_; (try clear hb); (try clear hb2); (try clear hk); (try clear hi)))
                  go_ret
                  exact ⟨by first | rfl | (simp [errW_none, errW_some] <;> rfl) | (simp [*, errW_none, errW_some] <;> rfl), by repeat (first | (with_reducible first | exact HB.out | apply below_alloc | apply pw_below_drewN | apply below_drew1) | exact HB.out)⟩
                · replace c126 := Bool.eq_false_iff.mpr c126
                  subst c126
                  have H1 : (some false) = some r := by rw [if_neg (show ¬ (false = true) by decide)] at H; exact H
                  clear H
                  have H := H1
                  clear H1
                  obtain rfl := Option.some.inj H
                  go_wp2_with (first | (go_at_call 14; (with_reducible refine (shacklelaw00_Is.calls (.iface 40 (.int .i64 q180)) (some q180) a1 4 t226 _ ?side1 ?side2 A125.out).mono ?_); (case side1 => exact ErrTy.below (by repeat (first | (with_reducible first | exact HB.out | apply below_alloc | apply pw_below_drewN | apply below_drew1) | exact HB.out)) hG); (case side2 => exact (ErrAt.of_code (by first | (with_reducible exact of_decide_eq_true (by assumption)) | exact of_decide_eq_true (by assumption) | decide | omega))); rintro e w128 ⟨rfl, hb⟩; have n0_ := Aside0.mk (below_step (by repeat (first | (with_reducible first | exact HB.out | apply below_alloc | apply pw_below_drewN | apply below_drew1) | exact HB.out)) hb); clear HB; have HB := n0_; clear n0_; (try clear hb); (try clear hb2); (try clear hk); (try clear hi)))
                  go_ret
                  exact ⟨by first | rfl | (simp [errW_none, errW_some] <;> rfl) | (simp [*, errW_none, errW_some] <;> rfl), by repeat (first | (with_reducible first | exact HB.out | apply below_alloc | apply pw_below_drewN | apply below_drew1) | exact HB.out)⟩
              · rw [if_neg c124] at H
                exact absurd H (by simp)

/-- THE ONE PURE STATEMENT of shacklelaw01_SpanCuts: yours. -/
def shacklelaw01_SpanCuts.Pure : Prop := ∀ (l0 : List Int) (a1 : Int) (a2 : Int), (gL (gI .u8)) l0 → (zL 1 zT) l0 → (Lit.int .u64 a1).wf = true → (Lit.int .u64 a2).wf = true → ∃ k, shacklelaw01_SpanCuts.f k l0 a1 a2 = some true

end Go.Proofs.YthhlnhbmjkjmlaaDoor.PSpanCuts
