/- A function's body, and its calls, reckoned by the kernel. No condition but what each theorem says. -/
import Derived.Test.YtpjilbhhhpikaaaGreatEvE4
namespace Go.Ev
set_option linter.unusedVariables false
set_option linter.unusedSimpArgs false
open Go
noncomputable def forceN {β : Type} (n : Nat) (f : Nat → β) : β := Nat.rec (motive := fun _ => β) (f 0) (fun p _ => f (Nat.succ p)) n
theorem forceN_eq {β : Type} (n : Nat) (f : Nat → β) : forceN n f = f n := by cases n <;> rfl
noncomputable def forceI {β : Type} (n : Int) (f : Int → β) : β := Int.casesOn (motive := fun _ => β) n (fun m => forceN m fun m => f (.ofNat m)) (fun m => forceN m fun m => f (.negSucc m))
theorem forceI_eq {β : Type} (n : Int) (f : Int → β) : forceI n f = f n := by
  cases n with
  | ofNat m => exact forceN_eq m fun m => f (.ofNat m)
  | negSucc m => exact forceN_eq m fun m => f (.negSucc m)
noncomputable def forceV {β : Type} (v : V) (f : V → β) : β :=
  match v with
  | .int k n => forceI n fun n => f (.int k n)
  | .bool b => match b with | true => f (.bool true) | false => f (.bool false)
  | .ptr k g o => forceN k fun k => forceN g fun g => forceN o fun o => f (.ptr k g o)
  | .slice k g o l c => forceN k fun k => forceN g fun g => forceN o fun o => forceN l fun l => match c with
    | none => f (.slice k g o l none)
    | some c => forceN c fun c => f (.slice k g o l (some c))
  | v => f v
theorem forceV_eq {β : Type} (v : V) (f : V → β) : forceV v f = f v := by
  cases v <;> simp only [forceV, forceI_eq, forceN_eq]
  · split <;> rfl
  · split <;> rfl
/-- How a piece of code ends. -/
inductive Ex where
  | normal
  | exit (id : Nat)
  | ret
noncomputable def putA (N : Nat) (a : T V) (o : Oper) (v : V) : Option (T V) :=
  match o.dst with
  | none => some a
  | some d => match Nat.ble (d + 1) N with
    | true => forceV v fun v' => T.setK (d + 1) (some v') a d fun a' => some a'
    | false => none
noncomputable def forceH {β : Type} (h : H) (k : H → β) : β := match h with | ⟨n, t⟩ => forceN n fun n => T.force t fun t => k ⟨n, t⟩
/-- Is an operation carried out? -/
noncomputable def want (ops : Array Oper) (a : T V) (o : Oper) : Option Bool :=
  match o.guard with
  | none => some true
  | some (j, w) => match (ops[j]?).bind (·.dst) with
    | some t => match a.get t with
      | some (.bool b) => match b, w with
        | true, true => some true
        | false, false => some true
        | _, _ => some false
      | some _ => some false
      | none => none
    | none => some false
abbrev St := (Operand → Option V) → H → Oper → Option (V × H)
noncomputable def regN (st : St) (N : Nat) (ops : Array Oper) : List Oper → T V → H → Option (T V × H)
  | [], a, h => some (a, h)
  | o :: r, a, h => match want ops a o with
    | some true => match st (evA a) h o with
      | some (v, h') => match putA N a o v with
        | some a' => regN st N ops r a' h'
        | none => none
      | none => none
    | some false => match putA N a o (.tup []) with
      | some a' => regN st N ops r a' h
      | none => none
    | none => none
def evMethod (P : Program) (t : TypeId) (name : String) : Option FuncId :=
  match P.info? t with
  | some i => match i.methods.find? (·.name == name) with
    | some m => match m.path.toList, m.func, P.underlying t with
      | [], some (f, true), some (.pointer _) => some f
      | [], some (_, false), some (.pointer _) => none
      | [], some (f, false), some _ => some f
      | _, _, _ => none
    | none => none
  | none => none
abbrev CallF := FuncId → List V → H → Option (V × H)
noncomputable def stE : Option (V × H) → Option (V × H)
  | some (v, h') => forceH h' fun h' => some (v, h')
  | none => none
noncomputable def stR (h : H) : Option V → Option (V × H)
  | some v => some (v, h)
  | none => none
noncomputable def stC (call : CallF) (ev : Operand → Option V) (h : H) (args : List Operand) : Option V → Option (V × H)
  | some (.func fid caps) => match evL ev args with
    | some l => call fid (l ++ caps) h
    | none => none
  | _ => none
noncomputable def stI (P : Program) (call : CallF) (ev : Operand → Option V) (h : H) (name : String) (args : List Operand) : Option V → Option (V × H)
  | some (.iface t v) => match evMethod P t name with
    | some fid => match evL ev args with
      | some l => call fid (v :: l) h
      | none => none
    | none => none
  | _ => none
noncomputable def stepK (P : Program) (call : CallF) (ev : Operand → Option V) (h : H) : K → Option (V × H)
  | .p f => stR h (f ev)
  | .r f => stR h (f ev h)
  | .e f => stE (f ev h)
  | .c f args => stC call ev h args (ev f)
  | .i x name args => stI P call ev h name args (ev x)
  | .no => none
noncomputable def stepV (P : Program) (call : CallF) : St := fun ev h o => stepK P call ev h (kindOf P o.op)
noncomputable def resL (P : Program) (a : T V) (h : H) : List ResultVar → Option (List V)
  | [] => some []
  | .tmp t :: r => match a.get t with
    | some v => match resL P a h r with | some l => some (v :: l) | none => none
    | none => none
  | .cell t ty :: r => match a.get t with
    | some p => match evLoad P h ty p with
      | some v => match resL P a h r with | some l => some (v :: l) | none => none
      | none => none
    | none => none
noncomputable def evRes (P : Program) (fn : Func) (a : T V) (h : H) : Option (V × H) :=
  match resL P a h fn.results.toList with
  | some l => match l with
    | [v] => some (v, h)
    | l => some (.tup l, h)
  | none => none
noncomputable def callV (P : Program) (ov : FuncId → Option (List V → H → Option (V × H))) (body : Nat → Code → T V → H → Option (Ex × T V × H)) : CallF := fun f args h =>
  match ov f with
  | some g => g args h
  | none => match P.funcs[f]? with
    | some fn => match fn.body with
      | some c => match Nat.ble args.length fn.ntmps with
        | true => T.force (setMany .e 0 args) fun a0 => match body fn.ntmps c a0 h with
          | some (e, a, h') => match e with
            | .normal => evRes P fn a h'
            | .ret => evRes P fn a h'
            | .exit _ => none
          | none => none
        | false => none
      | none => none
    | none => none
abbrev Run := Nat → Code → T V → H → Option (Ex × T V × H)
noncomputable def cSeq (ih : Run) (N : Nat) (y : Code) : Option (Ex × T V × H) → Option (Ex × T V × H)
  | some (e, a', h') => match e with
    | .normal => ih N y a' h'
    | e => some (e, a', h')
  | none => none
noncomputable def cCond (ih : Run) (N : Nat) (x y : Code) (a : T V) (h : H) : Option V → Option (Ex × T V × H)
  | some (.bool b) => match b with
    | true => ih N x a h
    | false => ih N y a h
  | _ => none
noncomputable def cBlock (id : Nat) : Option (Ex × T V × H) → Option (Ex × T V × H)
  | some (e, a', h') => match e with
    | .exit id' => match Nat.beq id' id with
      | true => some (.normal, a', h')
      | false => some (.exit id', a', h')
    | e => some (e, a', h')
  | none => none
noncomputable def cReg : Option (T V × H) → Option (Ex × T V × H)
  | some (a', h') => some (.normal, a', h')
  | none => none
noncomputable def cRegion (P : Program) (ov : FuncId → Option (List V → H → Option (V × H))) (rd : St → Nat → Array Oper → T V → H → Option (T V × H)) (ih : Run) (N : Nat) (ops : Array Oper) (draw : Bool) (a : T V) (h : H) : Option (Ex × T V × H) :=
  match draw with
  | false => cReg (regN (stepV P (callV P ov ih)) N ops ops.toList a h)
  | true => cReg (rd (stepV P (callV P ov ih)) N ops a h)
noncomputable def evC1 (P : Program) (ov : FuncId → Option (List V → H → Option (V × H))) (rd : St → Nat → Array Oper → T V → H → Option (T V × H)) (ih : Run) : Run := fun N c a h =>
  match c with
  | .skip => some (.normal, a, h)
  | .label _ => some (.normal, a, h)
  | .ret => some (.ret, a, h)
  | .exit id => some (.exit id, a, h)
  | .seq x y => cSeq ih N y (ih N x a h)
  | .cond c x y => cCond ih N x y a h (evA a c)
  | .block id c => cBlock id (ih N c a h)
  | .loop c => cSeq ih N (.loop c) (ih N c a h)
  | .region _ ops draw => cRegion P ov rd ih N ops draw a h
  | _ => none
/-- A piece of code, from here to its end. -/
noncomputable def evC (P : Program) (ov : FuncId → Option (List V → H → Option (V × H))) (rd : St → Nat → Array Oper → T V → H → Option (T V × H)) (fuel : Nat) : Run :=
  Nat.rec (motive := fun _ => Run) (fun _ _ _ _ => none) (fun _ ih => evC1 P ov rd ih) fuel
end Go.Ev
