/- A closed function of this program that gives true: from whatever world (slices.Sorted over a map's keys and span.Up by their contracts). No condition but what each theorem says. -/
import Derived.Test.YtpjilbhhhpikaaaEvKS
namespace Go.Ev
set_option linter.unusedVariables false
set_option linter.unusedSimpArgs false
open Go Go.Proofs Go.RowKit Go.Proofs.Ytpjilbhhhpikaaa.PSp
noncomputable section
def ovF (F : Int → Int → Option (Int × Option Int)) : List V → H → Option (V × H) := fun args h => match args with
  | [.int .u64 a, .int .u64 b] => match F a b with
    | some (r, none) => some (.tup [.int .u64 r, .inil], h)
    | _ => none
  | _ => none
def ovUp : List V → H → Option (V × H) := ovF (span_Up.f 10)
def ov1 : FuncId → Option (List V → H → Option (V × H)) := fun f => match Nat.beq f 57 with
  | true => some (sorted76 200)
  | false => match Nat.beq f 50 with
    | true => some ovUp
    | false => ovP f
def run1 (f : FuncId) (args : List V) (fuel : Nat) : Option (V × H) := callV Try.prog ov1 (evC Try.prog ov1 (regD Try.prog) fuel) f args ⟨0, .e⟩
end
def isTrue : Option (V × H) → Bool
  | some (.bool b, _) => b
  | _ => false
theorem ovF_ok (F : Int → Int → Option (Int × Option Int)) (fid : FuncId) (hF : ∀ a b x w, F a b = some (x, none) → Calls Try.prog fid #[.int .u64 a, .int .u64 b] w fun e w' => e = .returned (.tuple #[.int .u64 x, .nilIface]) ∧ Below w.heap.size w w')
    (args : List V) (h : H) (v : V) (h' : H) (he : ovF F args h = some (v, h')) (ρ : Env) (w : World) (args' : Array Value) (r : Rel ρ h w) (hl : LRel ρ args args'.toList) :
    Calls Try.prog fid args' w fun e w' => ∃ (q : Value) (ρ' : Env), e = .returned q ∧ Step ρ h w ρ' h' w' ∧ VRel ρ' v q := by
  unfold ovF at he
  split at he
  · rename_i a b
    split at he
    · rename_i x hx
      injection he with he; injection he with e1 e2
      subst e1; subst e2
      obtain ⟨al⟩ := args'
      match al, hl with
      | [c, d], ⟨hc, hd, _⟩ =>
        cases hc; cases hd
        refine (hF a b x w hx).mono ?_
        rintro e w' ⟨rfl, hb⟩
        refine ⟨_, ρ, rfl, Step.below r hb, .tup rfl fun i v c hv hc => ?_⟩
        match i with
        | 0 => simp at hv hc; subst hv; subst hc; exact .int _ _
        | 1 => simp at hv hc; subst hv; subst hc; exact .inil
        | n + 2 => simp at hv
    · cases he
  · cases he
theorem ovUp_ok (args : List V) (h : H) (v : V) (h' : H) (he : ovUp args h = some (v, h')) (ρ : Env) (w : World) (args' : Array Value) (r : Rel ρ h w) (hl : LRel ρ args args'.toList) :
    Calls Try.prog 50 args' w fun e w' => ∃ (q : Value) (ρ' : Env), e = .returned q ∧ Step ρ h w ρ' h' w' ∧ VRel ρ' v q :=
  ovF_ok (span_Up.f 10) _ (fun a b x w hx => span_Up.calls 10 a b x none w hx) args h v h' he ρ w args' r hl
theorem ov1_ok : OvOk Try.prog ov1 := by
  intro f g hg
  unfold ov1 at hg
  split at hg
  · rename_i hf
    have hf := Nat.eq_of_beq_eq_true hf
    subst hf
    injection hg with hg
    subst hg
    exact ⟨⟨_, _, Try.func57, rfl⟩, fun args h v h' he ρ w args' r hl => sorted_ok 200 args h v h' he ρ w args' r hl⟩
  · split at hg
    · rename_i hf
      have hf := Nat.eq_of_beq_eq_true hf
      subst hf
      injection hg with hg
      subst hg
      exact ⟨⟨_, _, Try.func50, rfl⟩, fun args h v h' he ρ w args' r hl => ovUp_ok args h v h' he ρ w args' r hl⟩
    · exact ovP_ok f g hg
theorem ov1_pure (f : FuncId) (g : List V → Option V) (hg : pureG f = some g) : ov1 f = some (liftP g) := by
  unfold ov1
  split
  · rename_i hf
    have hf := Nat.eq_of_beq_eq_true hf
    subst hf
    cases hg
  · split
    · rename_i hf
      have hf := Nat.eq_of_beq_eq_true hf
      subst hf
      cases hg
    · exact ovP_pure f g hg
theorem closed_true {f : FuncId} {fuel : Nat} (h : isTrue (run1 f [] fuel) = true) (w : World) : Calls Try.prog f #[] w fun e w' => e = .returned (.bool true) ∧ Below w.heap.size w w' := by
  unfold run1 at h
  generalize hr : callV Try.prog ov1 (evC Try.prog ov1 (regD Try.prog) fuel) f [] ⟨0, .e⟩ = x at h
  cases x with
  | none => cases h
  | some p =>
    obtain ⟨v, h'⟩ := p
    cases v with
    | bool b =>
      have hb : b = true := h
      subst hb
      refine (callV_ok ov1_ok (evC_ok entered ov1_ok (regD_ok mixedOrd) ov1_pure fuel).1 f [] ⟨0, .e⟩ _ h' hr (fun _ => none) w #[] ⟨(fun _ _ h => by cases h), (fun _ _ _ _ h => by cases h), (fun _ _ h => by cases h)⟩ trivial).mono ?_
      rintro e w' ⟨q, ρ', rfl, s, hq⟩
      cases hq
      exact ⟨rfl, s.os, s.tape, s.output, s.size, fun b hb => s.frame b hb (fun _ _ h => by cases h)⟩
    | _ => cases h
end Go.Ev
