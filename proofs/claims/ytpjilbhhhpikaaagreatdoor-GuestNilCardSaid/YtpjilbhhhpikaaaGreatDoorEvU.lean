/- A closed function of this program that gives true: from whatever world. No condition but what each theorem says. -/
import Derived.Test.YtpjilbhhhpikaaaGreatDoorEvKS
namespace Go.Ev
set_option linter.unusedVariables false
set_option linter.unusedSimpArgs false
open Go Go.Proofs Go.RowKit
noncomputable section
def ov1 : FuncId → Option (List V → H → Option (V × H)) := fun f => match Nat.beq f 37 with | true => some (sorted76 200) | false => ovP f
def run1 (f : FuncId) (args : List V) (fuel : Nat) : Option (V × H) := callV Tryz.prog ov1 (evC Tryz.prog ov1 (regD Tryz.prog) fuel) f args ⟨0, .e⟩
end
def isTrue : Option (V × H) → Bool
  | some (.bool b, _) => b
  | _ => false
theorem ov1_ok : OvOk Tryz.prog ov1 := by
  intro f g hg
  unfold ov1 at hg
  split at hg
  · rename_i hf
    have hf := Nat.eq_of_beq_eq_true hf
    subst hf
    injection hg with hg
    subst hg
    exact ⟨⟨_, _, Tryz.func37, rfl⟩, fun args h v h' he ρ w args' r hl => sorted_ok 200 args h v h' he ρ w args' r hl⟩
  · exact ovP_ok f g hg
theorem ov1_pure (f : FuncId) (g : List V → Option V) (hg : pureG f = some g) : ov1 f = some (liftP g) := by
  unfold ov1
  split
  · rename_i hf
    have hf := Nat.eq_of_beq_eq_true hf
    subst hf
    cases hg
  · exact ovP_pure f g hg
theorem closed_true {f : FuncId} {fuel : Nat} (h : isTrue (run1 f [] fuel) = true) (w : World) : Calls Tryz.prog f #[] w fun e w' => e = .returned (.bool true) ∧ Below w.heap.size w w' := by
  unfold run1 at h
  generalize hr : callV Tryz.prog ov1 (evC Tryz.prog ov1 (regD Tryz.prog) fuel) f [] ⟨0, .e⟩ = x at h
  cases x with
  | none => cases h
  | some p =>
    obtain ⟨v, h'⟩ := p
    cases v with
    | bool b =>
      have hb : b = true := h
      subst hb
      refine (callV_ok ov1_ok (evC_ok entered ov1_ok (regD_ok mixedOrd) ov1_pure fuel).1 f [] ⟨0, .e⟩ _ h' hr (fun _ => none) w #[] ⟨(fun _ _ h => by cases h), (fun _ _ _ _ h => by cases h), (fun _ _ h => by cases h)⟩ trivial).mono ?_
      rintro e w' ⟨q, ρ', rfl, s, hq⟩
      cases hq
      exact ⟨rfl, s.os, s.tape, s.output, s.size, fun b hb => s.frame b hb (fun _ _ h => by cases h)⟩
    | _ => cases h
end Go.Ev
