/- That a function's call in the machine comes to what the kernel reckoned. No condition but what each theorem says. -/
import Derived.Test.YtpjilbhhhpikaaaGreatEvS
namespace Go.Ev
set_option linter.unusedVariables false
set_option linter.unusedSimpArgs false
open Go
section
variable {P : Program} {ρ : Env} {h : H} {w : World}
def resOf (tmps : Array Value) : ResultVar → Sem Value
  | .tmp t => pure (tmps.getD t undef)
  | .cell a t => do loadVar t (← asAddr (tmps.getD a undef))
theorem load_addr {t : TypeId} {a v : V} {c x : Value} (hv : VRel ρ a c) (he : evLoad P h t a = some v) (hx : (Instr.loadAt t c).run P w = .ok x w) : (do loadVar t (← asAddr c) : Sem Value).run P w = .ok x w := by
  unfold evLoad at he
  split at he
  · cases hv <;> exact hx
  · cases he
theorem resL_sound (r : Rel ρ h w) {N : Nat} {a : T V} {act : Act} (ra : ARel ρ N a act) : ∀ (l : List ResultVar) (vs : List V), resL P a h l = some vs → ∃ qs, (l.mapM (resOf act.tmps)).run P w = .ok qs w ∧ LRel ρ vs qs
  | [], vs, he => by
    injection he with he; subst he
    exact ⟨[], rfl, trivial⟩
  | .tmp t :: l, vs, he => by
    unfold resL at he
    split at he
    · rename_i v hv
      split at he
      · rename_i l' hl
        injection he with he; subst he
        obtain ⟨qs, h1, h2⟩ := resL_sound r ra l l' hl
        refine ⟨act.tmps.getD t undef :: qs, ?_, ra.get t v hv, h2⟩
        rw [List.mapM_cons]
        simp only [resOf, Sem.run_bind, Sem.run_pure, Result.andThen_ok, h1]
      · cases he
    · cases he
  | .cell t ty :: l, vs, he => by
    unfold resL at he
    split at he
    · rename_i p hp
      split at he
      · rename_i v hv
        split at he
        · rename_i l' hl
          injection he with he; subst he
          obtain ⟨qs, h1, h2⟩ := resL_sound r ra l l' hl
          obtain ⟨x, g1, g2⟩ := evLoad_sound (P := P) r (ra.get t p hp) hv
          refine ⟨x :: qs, ?_, g2, h2⟩
          rw [List.mapM_cons]
          have g3 := load_addr (w := w) (ra.get t p hp) hv g1
          rw [Sem.run_bind]
          have : (resOf act.tmps (.cell t ty)).run P w = .ok x w := g3
          rw [this]
          simp only [Sem.run_bind, Sem.run_pure, Result.andThen_ok, h1]
        · cases he
      · cases he
    · cases he
theorem evRes_sound (r : Rel ρ h w) {N : Nat} {a : T V} {act : Act} (ra : ARel ρ N a act) {fn : Func} {v : V} {h' : H} (he : evRes P fn a h = some (v, h')) : h' = h ∧ ∃ q, (results fn act.tmps).run P w = .ok q w ∧ VRel ρ v q := by
  unfold evRes at he
  split at he
  · rename_i l hl
    obtain ⟨qs, h1, h2⟩ := resL_sound r ra _ _ hl
    have hrun : (results fn act.tmps).run P w = .ok (if hh : qs.toArray.size = 1 then qs.toArray[0] else .tuple qs.toArray) w := by
      unfold results
      have hm : (fn.results.mapM (resOf act.tmps)).run P w = .ok qs.toArray w := by
        rw [Array.mapM_eq_mapM_toList]
        simp only [Sem.run_map, h1, Result.andThen_ok]
      show ((fn.results.mapM (resOf act.tmps)) >>= fun vs => pure (if h : vs.size = 1 then vs[0] else .tuple vs) : Sem Value).run P w = _
      rw [Sem.run_bind, hm]
      rfl
    split at he
    · rename_i v'
      injection he with he
      injection he with e1 e2
      subst e1; subst e2
      cases qs with
      | nil => exact h2.elim
      | cons q t =>
        cases t with
        | nil => exact ⟨rfl, q, hrun, h2.1⟩
        | cons _ _ => exact h2.2.elim
    · rename_i hne
      injection he with he
      injection he with e1 e2
      subst e1; subst e2
      refine ⟨rfl, .tuple qs.toArray, ?_, .tup (by simpa using h2.length) fun i u x hu hx => h2.get i u x hu (by simpa using hx)⟩
      rw [hrun, dif_neg]
      intro hs
      have : l.length = 1 := by have := h2.length; simp at hs; omega
      match l, this, hne with
      | [x], _, hne => exact hne x rfl
  · cases he
def exOf : Ex → Exit
  | .normal => .normal
  | .exit id => .exit id
  | .ret => .ret
def CodeOk (P : Program) (run : Run) : Prop := ∀ (N : Nat) (c : Code) (a : T V) (h : H) (e : Ex) (a' : T V) (h' : H), run N c a h = some (e, a', h') →
  ∀ (ρ : Env) (w : World) (act : Act), Rel ρ h w → ARel ρ N a act → ∀ (Q : Exit → Act → World → Prop), (∀ ρ' w' act', Step ρ h w ρ' h' w' → ARel ρ' N a' act' → Q (exOf e) act' w') → c.wp P Q act w
def LoopOk (P : Program) (run : Run) : Prop := ∀ (N : Nat) (c : Code) (a : T V) (h : H) (e : Ex) (a' : T V) (h' : H), run N (.loop c) a h = some (e, a', h') →
  ∀ (ρ : Env) (w : World) (act : Act), Rel ρ h w → ARel ρ N a act → ∀ (Q : Exit → Act → World → Prop), (∀ ρ' w' act', Step ρ h w ρ' h' w' → ARel ρ' N a' act' → Q (exOf e) act' w') →
  ∀ (b : Frame) (k : List Item) (cs : List Frame), ∃ e a' w', Q e a' w' ∧ Arrives P (lone (b.at act (.code c :: .inLoop c :: k)) cs w) b k cs e a' w'
/-- What is asked of the reckoning of regions whose order is drawn. -/
def RdOk (P : Program) (rd : St → Nat → Array Oper → T V → H → Option (T V × H)) : Prop := ∀ (st : St), StG P st → ∀ (N : Nat) (ops : Array Oper) (a : T V) (h : H) (a' : T V) (h' : H), rd st N ops a h = some (a', h') →
  ∀ (ρ : Env) (w : World) (act : Act), Rel ρ h w → ARel ρ N a act → ∀ (id : Nat) (Q : Exit → Act → World → Prop), (∀ ρ' w' act', Step ρ h w ρ' h' w' → ARel ρ' N a' act' → Q .normal act' w') → (Code.region id ops true).wp P Q act w
/-- What is asked of contracts that are handed in. -/
def OvOk (P : Program) (ov : FuncId → Option (List V → H → Option (V × H))) : Prop := ∀ (f : FuncId) (g : List V → H → Option (V × H)), ov f = some g → (∃ fn c, P.funcs[f]? = some fn ∧ fn.body = some c) ∧ ∀ (args : List V) (h : H) (v : V) (h' : H), g args h = some (v, h') →
  ∀ (ρ : Env) (w : World) (args' : Array Value), Rel ρ h w → LRel ρ args args'.toList → Calls P f args' w fun e w' => ∃ (q : Value) (ρ' : Env), e = .returned q ∧ Step ρ h w ρ' h' w' ∧ VRel ρ' v q
theorem callV_body {ov : FuncId → Option (List V → H → Option (V × H))} (ho : OvOk P ov) (run : Run) : CallBody P (callV P ov run) := by
  intro f args h v h' he
  unfold callV at he
  split at he
  · rename_i g hg
    exact (ho f g hg).1
  · split at he
    · rename_i fn hf
      split at he
      · rename_i c hb; exact ⟨fn, c, hf, hb⟩
      · cases he
    · cases he
theorem callV_ok {ov : FuncId → Option (List V → H → Option (V × H))} (ho : OvOk P ov) {run : Run} (hr : CodeOk P run) : CallOk P (callV P ov run) := by
  intro f args h v h' he ρ w args' r hl
  unfold callV at he
  split at he
  · rename_i g hg
    exact (ho f g hg).2 args h v h' he ρ w args' r hl
  · split at he
    · rename_i fn hf
      split at he
      · rename_i c hb
        split at he
        · rename_i hle
          have hle := Nat.le_of_ble_eq_true hle
          rw [T.force_eq] at he
          have hsz : args'.size = args.length := by have := hl.length; simpa using this
          have ra : ARel ρ fn.ntmps (setMany .e 0 args) { tmps := args' ++ Array.replicate (fn.ntmps - args'.size) undef, defers := [] } := by
            refine ⟨rfl, by simp; omega, fun t u hu => ?_⟩
            have hu' : rget [] (setMany .e 0 args) t = some u := by unfold rget; rw [hu]
            rw [rget_app] at hu'
            have hlt : t < args.length := (List.getElem?_eq_some_iff.mp hu').1
            rw [Array.getD_eq_getD_getElem?, Array.getElem?_append_left (by omega), Array.getElem?_eq_getElem (by omega)]
            exact hl.get t u _ hu' (by rw [Array.getElem?_toList]; exact Array.getElem?_eq_getElem (by omega))
          split at he
          · rename_i e a1 h1 hrun
            refine calls_of_wp hf hb (hr fn.ntmps c _ h e a1 h1 hrun ρ w _ r ra _ fun ρ' w' act' s ra' => ?_)
            cases e with
            | normal =>
              obtain ⟨rfl, q, g1, g2⟩ := evRes_sound (P := P) s.rel ra' he
              exact ⟨ra'.defers, q, g1, q, ρ', rfl, s, g2⟩
            | ret =>
              obtain ⟨rfl, q, g1, g2⟩ := evRes_sound (P := P) s.rel ra' he
              exact ⟨ra'.defers, q, g1, q, ρ', rfl, s, g2⟩
            | exit id => cases he
          · cases he
        · cases he
      · cases he
    · cases he
theorem evC_ok (hE : Entered P) {ov : FuncId → Option (List V → H → Option (V × H))} (ho : OvOk P ov) {rd : St → Nat → Array Oper → T V → H → Option (T V × H)} (hrd : RdOk P rd) : ∀ (fuel : Nat), CodeOk P (evC P ov rd fuel) ∧ LoopOk P (evC P ov rd fuel) := by
  intro fuel
  induction fuel with
  | zero => constructor <;> (intro N c a h e a' h' he; cases he)
  | succ fuel ih =>
    obtain ⟨ihA, ihB⟩ := ih
    have hst := stepV_g hE (callV_ok ho ihA) (callV_body ho (evC P ov rd fuel))
    have B : LoopOk P (evC P ov rd (fuel + 1)) := by
      intro N c a h e a' h' he ρ w act r ra Q hQ b k cs
      have he : cSeq (evC P ov rd fuel) N (.loop c) (evC P ov rd fuel N c a h) = some (e, a', h') := he
      cases h1 : evC P ov rd fuel N c a h with
      | none => rw [h1] at he; cases he
      | some t =>
        obtain ⟨e1, a1, hh1⟩ := t
        rw [h1] at he
        cases e1 with
        | normal =>
          have he : evC P ov rd fuel N (.loop c) a1 hh1 = some (e, a', h') := he
          have hc := ihA N c a h .normal a1 hh1 h1 ρ w act r ra (Exit.then (fun act1 w1 => ∃ e a' w', Q e a' w' ∧ Arrives P (lone (b.at act1 (.code c :: .inLoop c :: k)) cs w1) b k cs e a' w') Q) (fun ρ1 w1 act1 s1 ra1 => ihB N c a1 hh1 e a' h' he ρ1 w1 act1 s1.rel ra1 Q (fun ρ2 w2 act2 s2 ra2 => hQ ρ2 w2 act2 (s1.trans s2) ra2) b k cs) b (.inLoop c :: k) cs
          obtain ⟨x, a2, w2, hq, harr⟩ := hc
          cases x with
          | normal =>
            obtain ⟨e3, a3, w3, hq3, harr3⟩ := hq
            exact ⟨e3, a3, w3, hq3, .of_steps (Steps.trans harr (.one step_inLoop)) harr3⟩
          | exit id => exact ⟨_, a2, w2, hq, .pass (x := .inLoop c) rfl (fun _ _ => .inl (by simp)) harr⟩
          | goto l => exact ⟨_, a2, w2, hq, .pass (x := .inLoop c) rfl (fun _ _ => .inl (by simp)) harr⟩
          | ret => exact ⟨_, a2, w2, hq, .pass (x := .inLoop c) rfl (fun _ _ => .inl (by simp)) harr⟩
          | panic ch => exact ⟨_, a2, w2, hq, .pass (x := .inLoop c) rfl (fun _ _ => .inl (by simp)) harr⟩
          | outgrown => exact ⟨_, a2, w2, hq, .pass (x := .inLoop c) rfl (fun _ _ => .inl (by simp)) harr⟩
        | exit id =>
          injection he with he; injection he with e1 e2; injection e2 with e2 e3
          subst e1; subst e2; subst e3
          obtain ⟨x, a2, w2, hq, harr⟩ := ihA N c a h (.exit id) a1 hh1 h1 ρ w act r ra (fun x a2 w2 => x = .exit id ∧ Q x a2 w2) (fun ρ1 w1 act1 s1 ra1 => ⟨rfl, hQ ρ1 w1 act1 s1 ra1⟩) b (.inLoop c :: k) cs
          obtain ⟨rfl, hq⟩ := hq
          exact ⟨_, a2, w2, hq, .pass (x := .inLoop c) rfl (fun _ _ => .inl (by simp)) harr⟩
        | ret =>
          injection he with he; injection he with e1 e2; injection e2 with e2 e3
          subst e1; subst e2; subst e3
          obtain ⟨x, a2, w2, hq, harr⟩ := ihA N c a h .ret a1 hh1 h1 ρ w act r ra (fun x a2 w2 => x = .ret ∧ Q x a2 w2) (fun ρ1 w1 act1 s1 ra1 => ⟨rfl, hQ ρ1 w1 act1 s1 ra1⟩) b (.inLoop c :: k) cs
          obtain ⟨rfl, hq⟩ := hq
          exact ⟨_, a2, w2, hq, .pass (x := .inLoop c) rfl (fun _ _ => .inl (by simp)) harr⟩
    refine ⟨?_, B⟩
    intro N c a h e a' h' he ρ w act r ra Q hQ
    cases c with
    | skip =>
      injection he with he; injection he with e1 e2; injection e2 with e2 e3
      subst e1; subst e2; subst e3
      exact wp_skip (hQ ρ w act (Step.refl r) ra)
    | label l =>
      injection he with he; injection he with e1 e2; injection e2 with e2 e3
      subst e1; subst e2; subst e3
      exact wp_label (hQ ρ w act (Step.refl r) ra)
    | ret =>
      injection he with he; injection he with e1 e2; injection e2 with e2 e3
      subst e1; subst e2; subst e3
      exact wp_ret (hQ ρ w act (Step.refl r) ra)
    | exit id =>
      injection he with he; injection he with e1 e2; injection e2 with e2 e3
      subst e1; subst e2; subst e3
      exact wp_exit (hQ ρ w act (Step.refl r) ra)
    | seq x y =>
      have he : cSeq (evC P ov rd fuel) N y (evC P ov rd fuel N x a h) = some (e, a', h') := he
      cases h1 : evC P ov rd fuel N x a h with
      | none => rw [h1] at he; cases he
      | some t =>
        obtain ⟨e1, a1, hh1⟩ := t
        rw [h1] at he
        refine wp_seq (ihA N x a h e1 a1 hh1 h1 ρ w act r ra _ fun ρ1 w1 act1 s1 ra1 => ?_)
        cases e1 with
        | normal =>
          have he : evC P ov rd fuel N y a1 hh1 = some (e, a', h') := he
          exact ihA N y a1 hh1 e a' h' he ρ1 w1 act1 s1.rel ra1 Q fun ρ2 w2 act2 s2 ra2 => hQ ρ2 w2 act2 (s1.trans s2) ra2
        | exit id =>
          injection he with he; injection he with e1 e2; injection e2 with e2 e3
          subst e1; subst e2; subst e3
          exact hQ ρ1 w1 act1 s1 ra1
        | ret =>
          injection he with he; injection he with e1 e2; injection e2 with e2 e3
          subst e1; subst e2; subst e3
          exact hQ ρ1 w1 act1 s1 ra1
    | cond x y z =>
      have he : cCond (evC P ov rd fuel) N y z a h (evA a x) = some (e, a', h') := he
      cases hv : evA a x with
      | none => rw [hv] at he; cases he
      | some v =>
        rw [hv] at he
        cases v with
        | bool t =>
          have hr := ra.ev x _ hv
          have hx : act.eval x = .bool t := by
            revert hr
            generalize act.eval x = q
            intro hr
            cases hr; rfl
          refine wp_cond hx ?_
          cases t with
          | true => exact ihA N y a h e a' h' he ρ w act r ra Q hQ
          | false => exact ihA N z a h e a' h' he ρ w act r ra Q hQ
        | _ => cases he
    | block id c =>
      have he : cBlock id (evC P ov rd fuel N c a h) = some (e, a', h') := he
      cases h1 : evC P ov rd fuel N c a h with
      | none => rw [h1] at he; cases he
      | some t =>
        obtain ⟨e1, a1, hh1⟩ := t
        rw [h1] at he
        refine wp_block (ihA N c a h e1 a1 hh1 h1 ρ w act r ra _ fun ρ1 w1 act1 s1 ra1 => ?_)
        cases e1 with
        | normal =>
          injection he with he; injection he with e1 e2; injection e2 with e2 e3
          subst e1; subst e2; subst e3
          exact hQ ρ1 w1 act1 s1 ra1
        | exit id' =>
          have he : (match Nat.beq id' id with | true => some (Ex.normal, a1, hh1) | false => some (.exit id', a1, hh1)) = some (e, a', h') := he
          show (if id' = id then Q .normal act1 w1 else Q (.exit id') act1 w1)
          cases hb : Nat.beq id' id with
          | true =>
            rw [hb] at he
            injection he with he; injection he with e1 e2; injection e2 with e2 e3
            subst e1; subst e2; subst e3
            rw [if_pos (Nat.eq_of_beq_eq_true hb)]
            exact hQ ρ1 w1 act1 s1 ra1
          | false =>
            rw [hb] at he
            injection he with he; injection he with e1 e2; injection e2 with e2 e3
            subst e1; subst e2; subst e3
            rw [if_neg (fun hh => by rw [hh, Nat.beq_refl] at hb; cases hb)]
            exact hQ ρ1 w1 act1 s1 ra1
        | ret =>
          injection he with he; injection he with e1 e2; injection e2 with e2 e3
          subst e1; subst e2; subst e3
          exact hQ ρ1 w1 act1 s1 ra1
    | loop c =>
      intro b k cs
      obtain ⟨e1, a1, w1, hq, harr⟩ := B N c a h e a' h' he ρ w act r ra Q hQ b k cs
      exact ⟨e1, a1, w1, hq, .of_steps (.one step_loop) harr⟩
    | region id ops draw =>
      cases draw with
      | false =>
        have he : cReg (regN (stepV P (callV P ov (evC P ov rd fuel))) N ops ops.toList a h) = some (e, a', h') := he
        cases h1 : regN (stepV P (callV P ov (evC P ov rd fuel))) N ops ops.toList a h with
        | none => rw [h1] at he; cases he
        | some t =>
          obtain ⟨a1, hh1⟩ := t
          rw [h1] at he
          injection he with he; injection he with e1 e2; injection e2 with e2 e3
          subst e1; subst e2; subst e3
          refine wp_region ?_
          have := regN_sound (Q := Q) hst.ok (ops := ops) ops.toList 0 a a1 h hh1 ρ w act (fun j o hj => by rw [Nat.zero_add]; rw [← Array.getElem?_toList]; exact hj) h1 r ra hQ
          rw [List.range_eq_range']
          simpa using this
      | true =>
        have he : cReg (rd (stepV P (callV P ov (evC P ov rd fuel))) N ops a h) = some (e, a', h') := he
        cases h1 : rd (stepV P (callV P ov (evC P ov rd fuel))) N ops a h with
        | none => rw [h1] at he; cases he
        | some t =>
          obtain ⟨a1, hh1⟩ := t
          rw [h1] at he
          injection he with he; injection he with e1 e2; injection e2 with e2 e3
          subst e1; subst e2; subst e3
          exact hrd _ hst N ops a h a1 hh1 h1 ρ w act r ra id Q hQ
    | _ => cases he
end
end Go.Ev
