/- The contracts of the functions that look at no memory: tls.up. No condition. -/
import Derived.Test.YtpjilbhhhpikaaaEvS2
namespace Go.Ev
set_option linter.unusedVariables false
set_option linter.unusedSimpArgs false
open Go Go.Proofs Go.RowKit Go.Proofs.Ytpjilbhhhpikaaa.PSp
theorem Step.drawn {ρ : Env} {h : H} {w w' : World} (r : Rel ρ h w) (hb : Below w.heap.size w w') : Step ρ h w ρ h w' :=
  ⟨Ext.refl _ _ _, ⟨fun k e he => by obtain ⟨o, ob, h1, h2, h3⟩ := r.obj k e he; exact ⟨o, ob, h1, (hb.block _ (r.b_lt he)).trans h2, h3⟩, r.inj, r.lt⟩, hb.os, hb.tape, hb.output, hb.size, fun b hb' _ => hb.block b hb', Nat.le_refl _, fun _ _ _ => rfl⟩
theorem pureF2_ok (F : Int → Int → Option Int) (fid : FuncId) (hF : ∀ a b x w, F a b = some x → Calls Try.prog fid #[.int .u64 a, .int .u64 b] w fun e w' => e = .returned (.int .u64 x) ∧ Below w.heap.size w w')
    (args : List V) (h : H) (v : V) (h' : H) (he : liftP (pureF2 F) args h = some (v, h')) (ρ : Env) (w : World) (args' : Array Value) (r : Rel ρ h w) (hl : LRel ρ args args'.toList) :
    Calls Try.prog fid args' w fun e w' => ∃ (q : Value) (ρ' : Env), e = .returned q ∧ Step ρ h w ρ' h' w' ∧ VRel ρ' v q := by
  unfold liftP pureF2 at he
  split at he
  · rename_i u hu
    injection he with he; injection he with e1 e2
    subst e1; subst e2
    split at hu
    · rename_i a b
      split at hu
      · rename_i x hx
        injection hu with hu; subst hu
        obtain ⟨al⟩ := args'
        match al, hl with
        | [c, d], ⟨hc, hd, _⟩ =>
          cases hc; cases hd
          refine (hF a b x w hx).mono ?_
          rintro e w' ⟨rfl, hb⟩
          exact ⟨_, ρ, rfl, Step.drawn r hb, .int _ _⟩
      · cases hu
    · cases hu
  · cases he
theorem up_hF (a b x : Int) (w : World) (hx : tls_up.f a b = some x) : Calls Try.prog 26 #[.int .u64 a, .int .u64 b] w fun e w' => e = .returned (.int .u64 x) ∧ Below w.heap.size w w' := by
  refine (tls_up.calls a b x w hx).mono ?_
  rintro e w' ⟨rfl, hd⟩
  exact ⟨rfl, by first | exact hd | exact hd.below | exact below_drawn0 hd⟩
theorem ovP_ok : OvOk Try.prog ovP := by
  intro f g hg
  unfold ovP pureG at hg
  split at hg
  · rename_i g' hg'
    injection hg with hg; subst hg
    split at hg'
    · rename_i hf
      have hf := Nat.eq_of_beq_eq_true hf
      subst hf
      injection hg' with hg'
      subst hg'
      exact ⟨⟨_, _, Try.func26, rfl⟩, fun args h v h' he ρ w args' r hl => pureF2_ok tls_up.f _ up_hF args h v h' he ρ w args' r hl⟩
    · cases hg'
  · cases hg
end Go.Ev
