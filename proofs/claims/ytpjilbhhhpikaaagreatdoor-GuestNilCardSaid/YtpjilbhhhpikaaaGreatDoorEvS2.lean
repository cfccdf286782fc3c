/- That a body's run in the machine comes to what the kernel reckoned. No condition but what each theorem says. -/
import Derived.Test.YtpjilbhhhpikaaaGreatDoorEvP
import Derived.Orders
namespace Go.Ev
set_option linter.unusedVariables false
set_option linter.unusedSimpArgs false
open Go
/-- The slots of a frame stand. -/
structure ARel (ρ : Env) (N : Nat) (a : T V) (act : Act) : Prop where
  defers : act.defers = []
  size : act.tmps.size = N
  get : ∀ t v, a.get t = some v → VRel ρ v (act.tmps.getD t undef)
section
variable {P : Program} {ρ : Env} {h : H} {w : World}
theorem ARel.ext {n m : Nat} {ρ' : Env} {N : Nat} {a : T V} {act : Act} (r : ARel ρ N a act) (x : Ext n m ρ ρ') : ARel ρ' N a act := ⟨r.defers, r.size, fun t v hv => (r.get t v hv).ext x⟩
theorem ARel.ev {N : Nat} {a : T V} {act : Act} (r : ARel ρ N a act) (x : Operand) (v : V) (hv : evA a x = some v) : VRel ρ v (act.eval x) := by
  cases x with
  | tmp t => exact r.get t v hv
  | const c => exact constV_rel hv
  | func f =>
    have hv : some (V.func f []) = some v := hv
    injection hv with hv; subst hv
    exact .func rfl fun i v c hv _ => by simp at hv
  | global g => cases hv
theorem ARel.put {N : Nat} {a a' : T V} {act : Act} {o : Oper} {v : V} {q : Value} (r : ARel ρ N a act) (hv : VRel ρ v q) (hp : putA N a o v = some a') : ARel ρ N a' (act.put o.dst q) := by
  unfold putA at hp
  cases hd : o.dst with
  | none =>
    rw [hd] at hp; injection hp with hp; subst hp
    exact r
  | some d =>
    rw [hd] at hp
    simp only [forceV_eq, T.setK_eq] at hp
    split at hp
    · rename_i hle
      have hle : d < N := Nat.le_of_ble_eq_true hle
      injection hp with hp; subst hp
      refine ⟨r.defers, by simp [Act.put, r.size], fun t u hu => ?_⟩
      rw [← T.set_eq, T.get_set] at hu
      simp only [Act.put, Array.getD_eq_getD_getElem?, Array.getElem?_setIfInBounds]
      by_cases c : d = t
      · rw [if_pos c] at hu ⊢
        injection hu with hu; subst hu
        rw [if_pos (by rw [r.size]; omega)]
        exact hv
      · rw [if_neg c] at hu ⊢
        have := r.get t u hu
        rwa [Array.getD_eq_getD_getElem?] at this
    · cases hp
/-- What is asked of the reckoning of one operation. -/
def StOk (P : Program) (st : St) : Prop := ∀ (ev : Operand → Option V) (h : H) (o : Oper) (v : V) (h' : H), st ev h o = some (v, h') →
  ∀ (ρ : Env) (w : World) (act : Act), Rel ρ h w → act.defers = [] → (∀ x, x ∈ o.op.operands → ∀ u, ev x = some u → VRel ρ u (act.eval x)) →
  ∀ (K : Act → World → Prop) (Q : Exit → Act → World → Prop), (∀ ρ' w' q, Step ρ h w ρ' h' w' → VRel ρ' v q → K (act.put o.dst q) w') → o.wp P act w K Q
def valBool : Option Value → Option Bool
  | some (.bool b) => some b
  | _ => none
def vBool : V → Option Bool
  | .bool b => some b
  | _ => none
theorem valBool_eq {v : V} {x : Value} (hr : VRel ρ v x) : valBool (some x) = vBool v := by cases hr <;> rfl
theorem want_sound' {ops : Array Oper} {a : T V} {act : Act} {o : Oper} {b : Bool} (r : ∀ t v, (∃ j w, o.guard = some (j, w) ∧ (ops[j]?).bind (·.dst) = some t) → a.get t = some v → VRel ρ v (act.tmps.getD t undef)) (hw : want ops a o = some b) : Region.wanted o (yielded ops act.tmps) = b := by
  unfold want at hw
  unfold Region.wanted
  cases hg : o.guard with
  | none => rw [hg] at hw; exact Option.some.inj hw
  | some p =>
    obtain ⟨j, wnt⟩ := p
    rw [hg] at hw
    simp only at hw ⊢
    unfold yielded
    cases ht : (ops[j]?).bind (·.dst) with
    | none => rw [ht] at hw; exact Option.some.inj hw
    | some t =>
      rw [ht] at hw
      simp only at hw
      cases hv : a.get t with
      | none => rw [hv] at hw; cases hw
      | some v =>
        rw [hv] at hw
        have hr := r t v ⟨j, wnt, hg, ht⟩ hv
        rw [Array.getD_eq_getD_getElem?] at hr
        simp only [Option.bind_some]
        have key : valBool act.tmps[t]? = vBool v := by
          cases hx : act.tmps[t]? with
          | none =>
            rw [hx] at hr
            exact valBool_eq (x := undef) hr
          | some x =>
            rw [hx] at hr
            exact valBool_eq (x := x) hr
        show (valBool act.tmps[t]? == some wnt) = b
        rw [key]
        cases v <;> first
          | exact Option.some.inj hw
          | (rename_i p; cases p <;> cases wnt <;> exact Option.some.inj hw)
theorem want_sound {N : Nat} {ops : Array Oper} {a : T V} {act : Act} {o : Oper} {b : Bool} (r : ARel ρ N a act) (hw : want ops a o = some b) : Region.wanted o (yielded ops act.tmps) = b := want_sound' (fun t v _ hv => r.get t v hv) hw
theorem regN_sound {st : St} (hst : StOk P st) {N : Nat} {ops : Array Oper} {Q : Exit → Act → World → Prop} : ∀ (l : List Oper) (i : Nat) (a a' : T V) (h h' : H) (ρ : Env) (w : World) (act : Act), (∀ (j : Nat) (o : Oper), l[j]? = some o → ops[i + j]? = some o) → regN st N ops l a h = some (a', h') →
    Rel ρ h w → ARel ρ N a act → (∀ ρ' w' act', Step ρ h w ρ' h' w' → ARel ρ' N a' act' → Q .normal act' w') → wpOps P ops Q (List.range' i l.length) act w
  | [], i, a, a', h, h', ρ, w, act, _, he, r, ra, hQ => by
    injection he with he
    injection he with h1 h2
    subst h1; subst h2
    exact hQ ρ w act (Step.refl r) ra
  | o :: l, i, a, a', h, h', ρ, w, act, hl, he, r, ra, hQ => by
    have ho : ops[i]? = some o := hl 0 o rfl
    have hl' : ∀ (j : Nat) (o' : Oper), l[j]? = some o' → ops[i + 1 + j]? = some o' := fun j o' hj => by rw [show i + 1 + j = i + (j + 1) by omega]; exact hl (j + 1) o' hj
    unfold regN at he
    rw [List.length_cons, List.range'_succ, wpOps_cons]
    unfold wpOp
    simp only [ho]
    split at he
    · rename_i hw
      rw [want_sound ra hw, if_pos rfl]
      split at he
      · rename_i v h1 hs
        split at he
        · rename_i a1 hp
          refine .inl (hst _ _ _ _ _ hs ρ w act r ra.defers (fun x _ u hu => ra.ev x u hu) _ _ fun ρ1 w1 q s1 hv => ?_)
          exact regN_sound hst l (i + 1) a1 a' h1 h' ρ1 w1 _ hl' he s1.rel ((ra.ext s1.ext).put hv hp) fun ρ2 w2 act2 s2 ra2 => hQ ρ2 w2 act2 (s1.trans s2) ra2
        · cases he
      · cases he
    · rename_i hw
      rw [want_sound ra hw]
      simp only [Bool.false_eq_true, if_false]
      split at he
      · rename_i a1 hp
        exact regN_sound hst l (i + 1) a1 a' h h' ρ w _ hl' he r (ra.put undef_rel hp) hQ
      · cases he
    · cases he
/-- What is asked of the reckoning of calls. -/
def CallOk (P : Program) (call : CallF) : Prop := ∀ (f : FuncId) (args : List V) (h : H) (v : V) (h' : H), call f args h = some (v, h') →
  ∀ (ρ : Env) (w : World) (args' : Array Value), Rel ρ h w → LRel ρ args args'.toList →
  Calls P f args' w fun e w' => ∃ (q : Value) (ρ' : Env), e = .returned q ∧ Step ρ h w ρ' h' w' ∧ VRel ρ' v q
/-- Every function that has a body is entered. -/
def Entered (P : Program) : Prop := ∀ fn, fn ∈ P.funcs → (fn.name == "runtime.NumGoroutine") = false
def CallBody (P : Program) (call : CallF) : Prop := ∀ (f : FuncId) (args : List V) (h : H) (v : V) (h' : H), call f args h = some (v, h') → ∃ fn c, P.funcs[f]? = some fn ∧ fn.body = some c
theorem run_callFunc (he : Entered P) {f : FuncId} {fn : Func} {c : Code} (hf : P.funcs[f]? = some fn) (hb : fn.body = some c) (args : Array Value) (w : World) : (callFunc f args).run P w = .ok (.enter f args) w := by
  have hn : (fn.name == "runtime.NumGoroutine") = false := he fn (Array.mem_of_getElem? hf)
  unfold callFunc
  simp only [Sem.run_bind, run_program, Result.andThen_ok, hf, hn, hb, Bool.false_eq_true, if_false, Option.isNone_some, Sem.run_pure]
theorem stepV_ok (hE : Entered P) {call : CallF} (hc : CallOk P call) (hb : CallBody P call) : StOk P (stepV P call) := by
  intro ev h o v h' hs ρ w act r hd hev K Q hK
  unfold stepV stepK at hs
  unfold Oper.wp
  split at hs
  · rename_i f hk
    rw [kindOf_p hk ev h] at hs
    cases hv : evR P ev h o.op with
    | none => rw [hv] at hs; cases hs
    | some u =>
      rw [hv] at hs
      have hs : some (u, h) = some (v, h') := hs
      injection hs with hs; injection hs with h1 h2
      subst h1; subst h2
      obtain ⟨q, g1, g2⟩ := evR_sound (re := act.eval) r hev hv
      rw [g1]
      exact hK ρ w q (Step.refl r) g2
  · rename_i f hk
    rw [kindOf_r hk] at hs
    cases hv : evR P ev h o.op with
    | none => rw [hv] at hs; cases hs
    | some u =>
      rw [hv] at hs
      have hs : some (u, h) = some (v, h') := hs
      injection hs with hs; injection hs with h1 h2
      subst h1; subst h2
      obtain ⟨q, g1, g2⟩ := evR_sound (re := act.eval) r hev hv
      rw [g1]
      exact hK ρ w q (Step.refl r) g2
  · rename_i f hk
    rw [kindOf_e hk] at hs
    cases hv : evE P ev h o.op with
    | none => rw [hv] at hs; cases hs
    | some u =>
      obtain ⟨u, h1⟩ := u
      rw [hv] at hs
      have hs : forceH h1 (fun h' => some (u, h')) = some (v, h') := hs
      have hs : some (u, h1) = some (v, h') := by
        unfold forceH at hs
        simp only [forceN_eq, T.force_eq] at hs
        exact hs
      injection hs with hs; injection hs with e1 e2
      subst e1; subst e2
      obtain ⟨q, w', ρ', g1, g2, g3⟩ := evE_sound (re := act.eval) r hev hv
      rcases g1 with g1 | ⟨g1, rfl⟩
      · rw [g1]; exact hK ρ' w' q g2 g3
      · rw [g1]; exact hK ρ' w' undef g2 g3
  · rename_i f args hk
    obtain ⟨c, hop, hcal, rfl⟩ := kindOf_c hk
    unfold stC at hs
    split at hs
    · rename_i fid caps hf
      split at hs
      · rename_i l hl
        obtain ⟨fn, cd, hfn, hbd⟩ := hb _ _ _ _ _ hs
        have hfr : VRel ρ (.func fid caps) (act.eval f) := hev f (by rw [hop]; simp [Op.operands, Call.operands, hcal]) _ hf
        have hlr := evL_rel (re := act.eval) c.args.toList l (fun x hx => hev x (by rw [hop]; simp only [Op.operands, Call.operands, Array.mem_append]; exact .inr (by simpa using hx))) hl
        obtain ⟨cs, hcs, hlc⟩ : ∃ cs, act.eval f = .func (.func fid) #[] cs ∧ LRel ρ caps cs.toList := by
          revert hfr
          generalize act.eval f = q
          intro hfr
          cases hfr with
          | @func _ _ cs hsz hh => exact ⟨cs, rfl, LRel.of (by simpa using hsz) fun i v c hv hc => hh i v c hv (by simpa using hc)⟩
        have hrun : (execOp act.eval o).run P w = .ok (.enter fid (c.args.map act.eval ++ cs)) w := by
          unfold execOp
          rw [hop]
          dsimp only
          unfold resolve
          rw [hcal]
          dsimp only
          rw [hcs]
          simp only [Deferred.ofValue, Sem.run_bind, Sem.run_pure, Result.andThen_ok, invoke]
          rw [run_callFunc hE hfn hbd]
          simp
        rw [hrun]
        refine (hc _ _ _ _ _ hs ρ w _ r ?_).mono ?_
        · have : (c.args.map act.eval ++ cs).toList = c.args.toList.map act.eval ++ cs.toList := by simp
          rw [this]
          exact hlr.app hlc
        · rintro e w' ⟨q, ρ', rfl, g1, g2⟩
          exact hK ρ' w' q g1 g2
      · cases hs
    · cases hs
  · rename_i x name args hk
    obtain ⟨c, hop, hcal, rfl⟩ := kindOf_i hk
    unfold stI at hs
    split at hs
    · rename_i t u hx
      split at hs
      · rename_i fid hm
        split at hs
        · rename_i l hl
          obtain ⟨fn, cd, hfn, hbd⟩ := hb _ _ _ _ _ hs
          have hxr : VRel ρ (.iface t u) (act.eval x) := hev x (by rw [hop]; simp [Op.operands, Call.operands, hcal]) _ hx
          have hlr := evL_rel (re := act.eval) c.args.toList l (fun y hy => hev y (by rw [hop]; simp only [Op.operands, Call.operands, Array.mem_append]; exact .inr (by simpa using hy))) hl
          obtain ⟨q0, hq0, hur⟩ : ∃ q0, act.eval x = .iface t q0 ∧ VRel ρ u q0 := by
            revert hxr
            generalize act.eval x = q
            intro hxr
            cases hxr with
            | iface hh => exact ⟨_, rfl, hh⟩
          have hmeth : ∀ n, (method (n + 1) t q0 name).run P w = .ok (fid, q0) w := by
            intro n
            unfold evMethod at hm
            split at hm
            · rename_i i hi
              split at hm
              · rename_i mm hfind
                unfold method
                have hti : (typeInfo t).run P w = .ok i w := by simp [typeInfo, hi]
                simp only [Sem.run_bind, hti, Result.andThen_ok, hfind]
                split at hm
                · rename_i f0 e hp hf hu
                  injection hm with hm; subst hm
                  simp only [hp, hf, follow, Sem.run_bind, Sem.run_pure, Result.andThen_ok, receiverAt, run_und hu, Place.get]
                · cases hm
                · rename_i f0 dd hnp hp hf hu
                  injection hm with hm; subst hm
                  simp only [hp, hf, follow, Sem.run_bind, Sem.run_pure, Result.andThen_ok, receiverAt, run_und hu]
                  cases dd <;> first | rfl | exact absurd hu (hnp _ _ hp hf)
                · cases hm
              · cases hm
            · cases hm
          have hrun : (execOp act.eval o).run P w = .ok (.enter fid (#[q0] ++ c.args.map act.eval)) w := by
            unfold execOp
            rw [hop]
            dsimp only
            unfold resolve
            rw [hcal]
            dsimp only
            rw [hq0]
            have hext : (#[Value.iface t q0] ++ c.args.map act.eval).extract 1 (#[Value.iface t q0] ++ c.args.map act.eval).size = c.args.map act.eval := by
              apply Array.toList_inj.mp
              simp
              rw [List.take_of_length_le (by simp)]
            have hget : (#[Value.iface t q0] ++ c.args.map act.eval)[0]? = some (.iface t q0) := by rw [Array.getElem?_append_left (by simp)]; rfl
            simp only [Sem.run_bind, Sem.run_pure, Result.andThen_ok, invoke, hget, hext, callMethod, run_program]
            rw [show P.types.size + Made.depth = (P.types.size + Made.depth - 1) + 1 from (Nat.sub_add_cancel (Nat.le_trans (by decide : 1 ≤ Made.depth) (Nat.le_add_left _ _))).symm, hmeth]
            show (callFunc fid (#[q0] ++ c.args.map act.eval)).run P w = _
            rw [run_callFunc hE hfn hbd]
          rw [hrun]
          refine (hc _ _ _ _ _ hs ρ w _ r ?_).mono ?_
          · have : (#[q0] ++ c.args.map act.eval).toList = q0 :: c.args.toList.map act.eval := by simp
            rw [this]
            exact ⟨hur, hlr⟩
          · rintro e w' ⟨q, ρ', rfl, g1, g2⟩
            exact hK ρ' w' q g1 g2
        · cases hs
      · cases hs
    · cases hs
  · cases hs
/-! ### kinds of operations, for regions whose order is drawn -/
/-- 1: looks at no memory; 2: reads; 3: all others. -/
noncomputable def pureO : Operand → Option (List V → Option V)
  | .func f => pureG f
  | _ => none
noncomputable def cls (P : Program) (o : Op) : Nat := match kindOf P o with
  | .p _ => 1
  | .r _ => 2
  | .c f _ => match pureO f with | some _ => 1 | none => 3
  | _ => 3
/-- A function that looks at no memory, as a contract. -/
noncomputable def liftP (g : List V → Option V) : List V → H → Option (V × H) := fun args h => match g args with | some v => some (v, h) | none => none
noncomputable def ovP : FuncId → Option (List V → H → Option (V × H)) := fun f => match pureG f with | some g => some (liftP g) | none => none
theorem ovP_pure (f : FuncId) (g : List V → Option V) (hg : pureG f = some g) : ovP f = some (liftP g) := by unfold ovP; rw [hg]
structure StG (P : Program) (st : St) : Prop where
  ok : StOk P st
  rd : ∀ (ev : Operand → Option V) h o v h', (∀ f, ev (.func f) = some (.func f [])) → cls P o.op ≠ 3 → st ev h o = some (v, h') → h' = h
  pu : ∀ (ev : Operand → Option V) h o v h', (∀ f, ev (.func f) = some (.func f [])) → cls P o.op = 1 → st ev h o = some (v, h') → ∀ h2, st ev h2 o = some (v, h2)
  al : ∀ ev h o v h' ty, o.op = .alloc ty → st ev h o = some (v, h') → evAlloc P h ty = some (v, h')
theorem stR_eq {h h' : H} {x : Option V} {v : V} (hs : stR h x = some (v, h')) : x = some v ∧ h' = h := by
  cases x with
  | none => cases hs
  | some u =>
    have hs : some (u, h) = some (v, h') := hs
    injection hs with hs; injection hs with h1 h2
    exact ⟨by rw [h1], h2.symm⟩
theorem stE_eq (x : Option (V × H)) : stE x = x := by
  cases x with
  | none => rfl
  | some p =>
    obtain ⟨v, h⟩ := p
    show forceH h (fun h' => some (v, h')) = _
    unfold forceH
    simp only [forceN_eq, T.force_eq]
theorem pure_step {call : CallF} (hp : ∀ f g, pureG f = some g → call f = liftP g) {f : Operand} {g : List V → Option V} (hf : pureO f = some g) {ev : Operand → Option V} (hev : ∀ f, ev (.func f) = some (.func f [])) {h h' : H} {args : List Operand} {v : V} (hs : stC call ev h args (ev f) = some (v, h')) :
    h' = h ∧ ∀ h2, stC call ev h2 args (ev f) = some (v, h2) := by
  cases f with
  | func fid =>
    have hf : pureG fid = some g := hf
    rw [hev fid] at hs ⊢
    unfold stC at hs ⊢
    simp only at hs ⊢
    split at hs
    · rename_i l hl
      rw [hp fid g hf] at hs ⊢
      unfold liftP at hs ⊢
      split at hs
      · rename_i u hu
        injection hs with hs; injection hs with e1 e2
        subst e1; subst e2
        refine ⟨rfl, fun h2 => ?_⟩
        simp only [hl, hu]
      · cases hs
    · cases hs
  | _ => cases hf
theorem stepV_g (hE : Entered P) {call : CallF} (hc : CallOk P call) (hb : CallBody P call) (hp : ∀ f g, pureG f = some g → call f = liftP g) : StG P (stepV P call) := by
  refine ⟨stepV_ok hE hc hb, ?_, ?_, ?_⟩
  · intro ev h o v h' hev hcl hs
    unfold stepV stepK at hs
    unfold cls at hcl
    split at hs
    · exact (stR_eq hs).2
    · exact (stR_eq hs).2
    · rename_i hk; rw [hk] at hcl; exact absurd rfl hcl
    · rename_i f args hk
      rw [hk] at hcl
      simp only at hcl
      cases hf : pureO f with
      | none => rw [hf] at hcl; exact absurd rfl hcl
      | some g => exact (pure_step hp hf hev hs).1
    · rename_i hk; rw [hk] at hcl; exact absurd rfl hcl
    · cases hs
  · intro ev h o v h' hev hcl hs h2
    unfold stepV stepK at hs ⊢
    unfold cls at hcl
    split at hs
    · rw [(stR_eq hs).1]
      rfl
    · rename_i hk; rw [hk] at hcl; cases hcl
    · rename_i hk; rw [hk] at hcl; cases hcl
    · rename_i f args hk
      rw [hk] at hcl
      simp only at hcl
      cases hf : pureO f with
      | none => rw [hf] at hcl; cases hcl
      | some g => exact (pure_step hp hf hev hs).2 h2
    · rename_i hk; rw [hk] at hcl; cases hcl
    · cases hs
  · intro ev h o v h' ty ho hs
    unfold stepV at hs
    rw [ho] at hs
    have hs : stE (evAlloc P h ty) = some (v, h') := hs
    rw [stE_eq] at hs
    exact hs
end
end Go.Ev
/- That a function's call in the machine comes to what the kernel reckoned. No condition but what each theorem says. -/
namespace Go.Ev
set_option linter.unusedVariables false
set_option linter.unusedSimpArgs false
open Go
section
variable {P : Program} {ρ : Env} {h : H} {w : World}
def resOf (tmps : Array Value) : ResultVar → Sem Value
  | .tmp t => pure (tmps.getD t undef)
  | .cell a t => do loadVar t (← asAddr (tmps.getD a undef))
theorem load_addr {t : TypeId} {a v : V} {c x : Value} (hv : VRel ρ a c) (he : evLoad P h t a = some v) (hx : (Instr.loadAt t c).run P w = .ok x w) : (do loadVar t (← asAddr c) : Sem Value).run P w = .ok x w := by
  unfold evLoad at he
  split at he
  · cases hv <;> exact hx
  · cases he
theorem resL_sound (r : Rel ρ h w) {N : Nat} {a : T V} {act : Act} (ra : ARel ρ N a act) : ∀ (l : List ResultVar) (vs : List V), resL P a h l = some vs → ∃ qs, (l.mapM (resOf act.tmps)).run P w = .ok qs w ∧ LRel ρ vs qs
  | [], vs, he => by
    injection he with he; subst he
    exact ⟨[], rfl, trivial⟩
  | .tmp t :: l, vs, he => by
    unfold resL at he
    split at he
    · rename_i v hv
      split at he
      · rename_i l' hl
        injection he with he; subst he
        obtain ⟨qs, h1, h2⟩ := resL_sound r ra l l' hl
        refine ⟨act.tmps.getD t undef :: qs, ?_, ra.get t v hv, h2⟩
        rw [List.mapM_cons]
        simp only [resOf, Sem.run_bind, Sem.run_pure, Result.andThen_ok, h1]
      · cases he
    · cases he
  | .cell t ty :: l, vs, he => by
    unfold resL at he
    split at he
    · rename_i p hp
      split at he
      · rename_i v hv
        split at he
        · rename_i l' hl
          injection he with he; subst he
          obtain ⟨qs, h1, h2⟩ := resL_sound r ra l l' hl
          obtain ⟨x, g1, g2⟩ := evLoad_sound (P := P) r (ra.get t p hp) hv
          refine ⟨x :: qs, ?_, g2, h2⟩
          rw [List.mapM_cons]
          have g3 := load_addr (w := w) (ra.get t p hp) hv g1
          rw [Sem.run_bind]
          have : (resOf act.tmps (.cell t ty)).run P w = .ok x w := g3
          rw [this]
          simp only [Sem.run_bind, Sem.run_pure, Result.andThen_ok, h1]
        · cases he
      · cases he
    · cases he
theorem evRes_sound (r : Rel ρ h w) {N : Nat} {a : T V} {act : Act} (ra : ARel ρ N a act) {fn : Func} {v : V} {h' : H} (he : evRes P fn a h = some (v, h')) : h' = h ∧ ∃ q, (results fn act.tmps).run P w = .ok q w ∧ VRel ρ v q := by
  unfold evRes at he
  split at he
  · rename_i l hl
    obtain ⟨qs, h1, h2⟩ := resL_sound r ra _ _ hl
    have hrun : (results fn act.tmps).run P w = .ok (if hh : qs.toArray.size = 1 then qs.toArray[0] else .tuple qs.toArray) w := by
      unfold results
      have hm : (fn.results.mapM (resOf act.tmps)).run P w = .ok qs.toArray w := by
        rw [Array.mapM_eq_mapM_toList]
        simp only [Sem.run_map, h1, Result.andThen_ok]
      show ((fn.results.mapM (resOf act.tmps)) >>= fun vs => pure (if h : vs.size = 1 then vs[0] else .tuple vs) : Sem Value).run P w = _
      rw [Sem.run_bind, hm]
      rfl
    split at he
    · rename_i v'
      injection he with he
      injection he with e1 e2
      subst e1; subst e2
      cases qs with
      | nil => exact h2.elim
      | cons q t =>
        cases t with
        | nil => exact ⟨rfl, q, hrun, h2.1⟩
        | cons _ _ => exact h2.2.elim
    · rename_i hne
      injection he with he
      injection he with e1 e2
      subst e1; subst e2
      refine ⟨rfl, .tuple qs.toArray, ?_, .tup (by simpa using h2.length) fun i u x hu hx => h2.get i u x hu (by simpa using hx)⟩
      rw [hrun, dif_neg]
      intro hs
      have : l.length = 1 := by have := h2.length; simp at hs; omega
      match l, this, hne with
      | [x], _, hne => exact hne x rfl
  · cases he
def exOf : Ex → Exit
  | .normal => .normal
  | .exit id => .exit id
  | .ret => .ret
def CodeOk (P : Program) (run : Run) : Prop := ∀ (N : Nat) (c : Code) (a : T V) (h : H) (e : Ex) (a' : T V) (h' : H), run N c a h = some (e, a', h') →
  ∀ (ρ : Env) (w : World) (act : Act), Rel ρ h w → ARel ρ N a act → ∀ (Q : Exit → Act → World → Prop), (∀ ρ' w' act', Step ρ h w ρ' h' w' → ARel ρ' N a' act' → Q (exOf e) act' w') → c.wp P Q act w
def LoopOk (P : Program) (run : Run) : Prop := ∀ (N : Nat) (c : Code) (a : T V) (h : H) (e : Ex) (a' : T V) (h' : H), run N (.loop c) a h = some (e, a', h') →
  ∀ (ρ : Env) (w : World) (act : Act), Rel ρ h w → ARel ρ N a act → ∀ (Q : Exit → Act → World → Prop), (∀ ρ' w' act', Step ρ h w ρ' h' w' → ARel ρ' N a' act' → Q (exOf e) act' w') →
  ∀ (b : Frame) (k : List Item) (cs : List Frame), ∃ e a' w', Q e a' w' ∧ Arrives P (lone (b.at act (.code c :: .inLoop c :: k)) cs w) b k cs e a' w'
/-- What is asked of the reckoning of regions whose order is drawn. -/
def RdOk (P : Program) (rd : St → Nat → Array Oper → T V → H → Option (T V × H)) : Prop := ∀ (st : St), StG P st → ∀ (N : Nat) (ops : Array Oper) (a : T V) (h : H) (a' : T V) (h' : H), rd st N ops a h = some (a', h') →
  ∀ (ρ : Env) (w : World) (act : Act), Rel ρ h w → ARel ρ N a act → ∀ (id : Nat) (Q : Exit → Act → World → Prop), (∀ ρ' w' act', Step ρ h w ρ' h' w' → ARel ρ' N a' act' → Q .normal act' w') → (Code.region id ops true).wp P Q act w
/-- What is asked of contracts that are handed in. -/
def OvOk (P : Program) (ov : FuncId → Option (List V → H → Option (V × H))) : Prop := ∀ (f : FuncId) (g : List V → H → Option (V × H)), ov f = some g → (∃ fn c, P.funcs[f]? = some fn ∧ fn.body = some c) ∧ ∀ (args : List V) (h : H) (v : V) (h' : H), g args h = some (v, h') →
  ∀ (ρ : Env) (w : World) (args' : Array Value), Rel ρ h w → LRel ρ args args'.toList → Calls P f args' w fun e w' => ∃ (q : Value) (ρ' : Env), e = .returned q ∧ Step ρ h w ρ' h' w' ∧ VRel ρ' v q
theorem callV_body {ov : FuncId → Option (List V → H → Option (V × H))} (ho : OvOk P ov) (run : Run) : CallBody P (callV P ov run) := by
  intro f args h v h' he
  unfold callV at he
  split at he
  · rename_i g hg
    exact (ho f g hg).1
  · split at he
    · rename_i fn hf
      split at he
      · rename_i c hb; exact ⟨fn, c, hf, hb⟩
      · cases he
    · cases he
theorem callV_ok {ov : FuncId → Option (List V → H → Option (V × H))} (ho : OvOk P ov) {run : Run} (hr : CodeOk P run) : CallOk P (callV P ov run) := by
  intro f args h v h' he ρ w args' r hl
  unfold callV at he
  split at he
  · rename_i g hg
    exact (ho f g hg).2 args h v h' he ρ w args' r hl
  · split at he
    · rename_i fn hf
      split at he
      · rename_i c hb
        split at he
        · rename_i hle
          have hle := Nat.le_of_ble_eq_true hle
          rw [T.force_eq] at he
          have hsz : args'.size = args.length := by have := hl.length; simpa using this
          have ra : ARel ρ fn.ntmps (setMany .e 0 args) { tmps := args' ++ Array.replicate (fn.ntmps - args'.size) undef, defers := [] } := by
            refine ⟨rfl, by simp; omega, fun t u hu => ?_⟩
            have hu' : rget [] (setMany .e 0 args) t = some u := by unfold rget; rw [hu]
            rw [rget_app] at hu'
            have hlt : t < args.length := (List.getElem?_eq_some_iff.mp hu').1
            rw [Array.getD_eq_getD_getElem?, Array.getElem?_append_left (by omega), Array.getElem?_eq_getElem (by omega)]
            exact hl.get t u _ hu' (by rw [Array.getElem?_toList]; exact Array.getElem?_eq_getElem (by omega))
          split at he
          · rename_i e a1 h1 hrun
            refine calls_of_wp hf hb (hr fn.ntmps c _ h e a1 h1 hrun ρ w _ r ra _ fun ρ' w' act' s ra' => ?_)
            cases e with
            | normal =>
              obtain ⟨rfl, q, g1, g2⟩ := evRes_sound (P := P) s.rel ra' he
              exact ⟨ra'.defers, q, g1, q, ρ', rfl, s, g2⟩
            | ret =>
              obtain ⟨rfl, q, g1, g2⟩ := evRes_sound (P := P) s.rel ra' he
              exact ⟨ra'.defers, q, g1, q, ρ', rfl, s, g2⟩
            | exit id => cases he
          · cases he
        · cases he
      · cases he
    · cases he
theorem callV_pure {ov : FuncId → Option (List V → H → Option (V × H))} {run : Run} {f : FuncId} {g : List V → Option V} (hf : ov f = some (liftP g)) : callV P ov run f = liftP g := by
  funext args h
  unfold callV
  rw [hf]
theorem evC_ok (hE : Entered P) {ov : FuncId → Option (List V → H → Option (V × H))} (ho : OvOk P ov) {rd : St → Nat → Array Oper → T V → H → Option (T V × H)} (hrd : RdOk P rd) (hp : ∀ f g, pureG f = some g → ov f = some (liftP g)) : ∀ (fuel : Nat), CodeOk P (evC P ov rd fuel) ∧ LoopOk P (evC P ov rd fuel) := by
  intro fuel
  induction fuel with
  | zero => constructor <;> (intro N c a h e a' h' he; cases he)
  | succ fuel ih =>
    obtain ⟨ihA, ihB⟩ := ih
    have hst := stepV_g hE (callV_ok ho ihA) (callV_body ho (evC P ov rd fuel)) (fun f g hf => callV_pure (hp f g hf))
    have B : LoopOk P (evC P ov rd (fuel + 1)) := by
      intro N c a h e a' h' he ρ w act r ra Q hQ b k cs
      have he : cSeq (evC P ov rd fuel) N (.loop c) (evC P ov rd fuel N c a h) = some (e, a', h') := he
      cases h1 : evC P ov rd fuel N c a h with
      | none => rw [h1] at he; cases he
      | some t =>
        obtain ⟨e1, a1, hh1⟩ := t
        rw [h1] at he
        cases e1 with
        | normal =>
          have he : evC P ov rd fuel N (.loop c) a1 hh1 = some (e, a', h') := he
          have hc := ihA N c a h .normal a1 hh1 h1 ρ w act r ra (Exit.then (fun act1 w1 => ∃ e a' w', Q e a' w' ∧ Arrives P (lone (b.at act1 (.code c :: .inLoop c :: k)) cs w1) b k cs e a' w') Q) (fun ρ1 w1 act1 s1 ra1 => ihB N c a1 hh1 e a' h' he ρ1 w1 act1 s1.rel ra1 Q (fun ρ2 w2 act2 s2 ra2 => hQ ρ2 w2 act2 (s1.trans s2) ra2) b k cs) b (.inLoop c :: k) cs
          obtain ⟨x, a2, w2, hq, harr⟩ := hc
          cases x with
          | normal =>
            obtain ⟨e3, a3, w3, hq3, harr3⟩ := hq
            exact ⟨e3, a3, w3, hq3, .of_steps (Steps.trans harr (.one step_inLoop)) harr3⟩
          | exit id => exact ⟨_, a2, w2, hq, .pass (x := .inLoop c) rfl (fun _ _ => .inl (by simp)) harr⟩
          | goto l => exact ⟨_, a2, w2, hq, .pass (x := .inLoop c) rfl (fun _ _ => .inl (by simp)) harr⟩
          | ret => exact ⟨_, a2, w2, hq, .pass (x := .inLoop c) rfl (fun _ _ => .inl (by simp)) harr⟩
          | panic ch => exact ⟨_, a2, w2, hq, .pass (x := .inLoop c) rfl (fun _ _ => .inl (by simp)) harr⟩
          | outgrown => exact ⟨_, a2, w2, hq, .pass (x := .inLoop c) rfl (fun _ _ => .inl (by simp)) harr⟩
        | exit id =>
          injection he with he; injection he with e1 e2; injection e2 with e2 e3
          subst e1; subst e2; subst e3
          obtain ⟨x, a2, w2, hq, harr⟩ := ihA N c a h (.exit id) a1 hh1 h1 ρ w act r ra (fun x a2 w2 => x = .exit id ∧ Q x a2 w2) (fun ρ1 w1 act1 s1 ra1 => ⟨rfl, hQ ρ1 w1 act1 s1 ra1⟩) b (.inLoop c :: k) cs
          obtain ⟨rfl, hq⟩ := hq
          exact ⟨_, a2, w2, hq, .pass (x := .inLoop c) rfl (fun _ _ => .inl (by simp)) harr⟩
        | ret =>
          injection he with he; injection he with e1 e2; injection e2 with e2 e3
          subst e1; subst e2; subst e3
          obtain ⟨x, a2, w2, hq, harr⟩ := ihA N c a h .ret a1 hh1 h1 ρ w act r ra (fun x a2 w2 => x = .ret ∧ Q x a2 w2) (fun ρ1 w1 act1 s1 ra1 => ⟨rfl, hQ ρ1 w1 act1 s1 ra1⟩) b (.inLoop c :: k) cs
          obtain ⟨rfl, hq⟩ := hq
          exact ⟨_, a2, w2, hq, .pass (x := .inLoop c) rfl (fun _ _ => .inl (by simp)) harr⟩
    refine ⟨?_, B⟩
    intro N c a h e a' h' he ρ w act r ra Q hQ
    cases c with
    | skip =>
      injection he with he; injection he with e1 e2; injection e2 with e2 e3
      subst e1; subst e2; subst e3
      exact wp_skip (hQ ρ w act (Step.refl r) ra)
    | label l =>
      injection he with he; injection he with e1 e2; injection e2 with e2 e3
      subst e1; subst e2; subst e3
      exact wp_label (hQ ρ w act (Step.refl r) ra)
    | ret =>
      injection he with he; injection he with e1 e2; injection e2 with e2 e3
      subst e1; subst e2; subst e3
      exact wp_ret (hQ ρ w act (Step.refl r) ra)
    | exit id =>
      injection he with he; injection he with e1 e2; injection e2 with e2 e3
      subst e1; subst e2; subst e3
      exact wp_exit (hQ ρ w act (Step.refl r) ra)
    | seq x y =>
      have he : cSeq (evC P ov rd fuel) N y (evC P ov rd fuel N x a h) = some (e, a', h') := he
      cases h1 : evC P ov rd fuel N x a h with
      | none => rw [h1] at he; cases he
      | some t =>
        obtain ⟨e1, a1, hh1⟩ := t
        rw [h1] at he
        refine wp_seq (ihA N x a h e1 a1 hh1 h1 ρ w act r ra _ fun ρ1 w1 act1 s1 ra1 => ?_)
        cases e1 with
        | normal =>
          have he : evC P ov rd fuel N y a1 hh1 = some (e, a', h') := he
          exact ihA N y a1 hh1 e a' h' he ρ1 w1 act1 s1.rel ra1 Q fun ρ2 w2 act2 s2 ra2 => hQ ρ2 w2 act2 (s1.trans s2) ra2
        | exit id =>
          injection he with he; injection he with e1 e2; injection e2 with e2 e3
          subst e1; subst e2; subst e3
          exact hQ ρ1 w1 act1 s1 ra1
        | ret =>
          injection he with he; injection he with e1 e2; injection e2 with e2 e3
          subst e1; subst e2; subst e3
          exact hQ ρ1 w1 act1 s1 ra1
    | cond x y z =>
      have he : cCond (evC P ov rd fuel) N y z a h (evA a x) = some (e, a', h') := he
      cases hv : evA a x with
      | none => rw [hv] at he; cases he
      | some v =>
        rw [hv] at he
        cases v with
        | bool t =>
          have hr := ra.ev x _ hv
          have hx : act.eval x = .bool t := by
            revert hr
            generalize act.eval x = q
            intro hr
            cases hr; rfl
          refine wp_cond hx ?_
          cases t with
          | true => exact ihA N y a h e a' h' he ρ w act r ra Q hQ
          | false => exact ihA N z a h e a' h' he ρ w act r ra Q hQ
        | _ => cases he
    | block id c =>
      have he : cBlock id (evC P ov rd fuel N c a h) = some (e, a', h') := he
      cases h1 : evC P ov rd fuel N c a h with
      | none => rw [h1] at he; cases he
      | some t =>
        obtain ⟨e1, a1, hh1⟩ := t
        rw [h1] at he
        refine wp_block (ihA N c a h e1 a1 hh1 h1 ρ w act r ra _ fun ρ1 w1 act1 s1 ra1 => ?_)
        cases e1 with
        | normal =>
          injection he with he; injection he with e1 e2; injection e2 with e2 e3
          subst e1; subst e2; subst e3
          exact hQ ρ1 w1 act1 s1 ra1
        | exit id' =>
          have he : (match Nat.beq id' id with | true => some (Ex.normal, a1, hh1) | false => some (.exit id', a1, hh1)) = some (e, a', h') := he
          show (if id' = id then Q .normal act1 w1 else Q (.exit id') act1 w1)
          cases hb : Nat.beq id' id with
          | true =>
            rw [hb] at he
            injection he with he; injection he with e1 e2; injection e2 with e2 e3
            subst e1; subst e2; subst e3
            rw [if_pos (Nat.eq_of_beq_eq_true hb)]
            exact hQ ρ1 w1 act1 s1 ra1
          | false =>
            rw [hb] at he
            injection he with he; injection he with e1 e2; injection e2 with e2 e3
            subst e1; subst e2; subst e3
            rw [if_neg (fun hh => by rw [hh, Nat.beq_refl] at hb; cases hb)]
            exact hQ ρ1 w1 act1 s1 ra1
        | ret =>
          injection he with he; injection he with e1 e2; injection e2 with e2 e3
          subst e1; subst e2; subst e3
          exact hQ ρ1 w1 act1 s1 ra1
    | loop c =>
      intro b k cs
      obtain ⟨e1, a1, w1, hq, harr⟩ := B N c a h e a' h' he ρ w act r ra Q hQ b k cs
      exact ⟨e1, a1, w1, hq, .of_steps (.one step_loop) harr⟩
    | region id ops draw =>
      cases draw with
      | false =>
        have he : cReg (regN (stepV P (callV P ov (evC P ov rd fuel))) N ops ops.toList a h) = some (e, a', h') := he
        cases h1 : regN (stepV P (callV P ov (evC P ov rd fuel))) N ops ops.toList a h with
        | none => rw [h1] at he; cases he
        | some t =>
          obtain ⟨a1, hh1⟩ := t
          rw [h1] at he
          injection he with he; injection he with e1 e2; injection e2 with e2 e3
          subst e1; subst e2; subst e3
          refine wp_region ?_
          have := regN_sound (Q := Q) hst.ok (ops := ops) ops.toList 0 a a1 h hh1 ρ w act (fun j o hj => by rw [Nat.zero_add]; rw [← Array.getElem?_toList]; exact hj) h1 r ra hQ
          rw [List.range_eq_range']
          simpa using this
      | true =>
        have he : cReg (rd (stepV P (callV P ov (evC P ov rd fuel))) N ops a h) = some (e, a', h') := he
        cases h1 : rd (stepV P (callV P ov (evC P ov rd fuel))) N ops a h with
        | none => rw [h1] at he; cases he
        | some t =>
          obtain ⟨a1, hh1⟩ := t
          rw [h1] at he
          injection he with he; injection he with e1 e2; injection e2 with e2 e3
          subst e1; subst e2; subst e3
          exact hrd _ hst N ops a h a1 hh1 h1 ρ w act r ra id Q hQ
    | _ => cases he
end
end Go.Ev
