/- Any operation but a call: reckoned by the kernel; and that the machine's operation comes to the same. No condition but what each theorem says. -/
import Derived.Test.YtpjilbhhhpikaaaGreatEvE3
namespace Go.Ev
set_option linter.unusedVariables false
set_option linter.unusedSimpArgs false
open Go
section
variable {P : Program} {ρ : Env} {h : H} {w : World}
noncomputable def eBox (ev : Operand → Option V) (h : H) (t : TypeId) (x : Operand) : Option (V × H) := match ev x with | some v => evNew h t v | none => none
noncomputable def eBuildSlice (P : Program) (ev : Operand → Option V) (h : H) (t : TypeId) (n : Nat) (parts : Array (Nat × Operand)) : Option (V × H) := match evP ev parts.toList with | some l => evBuildSlice P h t n l | none => none
noncomputable def eMakeMap (h : H) (r : Option Operand) : Option (V × H) := match r with | none => some (evMakeMap h) | some _ => none
noncomputable def eMakeSlice (P : Program) (ev : Operand → Option V) (h : H) (t : TypeId) (l c : Operand) : Option (V × H) :=
  match ev l with
  | some a => match ev c with | some b => evMakeSlice P h t a b | none => none
  | none => none
noncomputable def eStore (P : Program) (ev : Operand → Option V) (h : H) (t : TypeId) (a x : Operand) : Option (V × H) :=
  match ev a with
  | some p => match ev x with
    | some v => match evStore P h t p v with | some h' => some (.tup [], h') | none => none
    | none => none
  | none => none
noncomputable def eMapUpdate (P : Program) (ev : Operand → Option V) (h : H) (t : TypeId) (m k x : Operand) : Option (V × H) :=
  match ev m with
  | some a => match ev k with
    | some b => match ev x with
      | some v => match one v, evMapUpdate P h t a b v with | true, some h' => some (.tup [], h') | _, _ => none
      | none => none
    | none => none
  | none => none
noncomputable def eCall (P : Program) (ev : Operand → Option V) (h : H) (c : Call) : Option (V × H) :=
  match c.callee with
  | .builtin b => match b with
    | .append => match evL ev c.args.toList with
      | some [s, x] => evAppend P h c.argTypes.toList s x
      | _ => none
    | _ => none
  | _ => none
/-- What an operation that makes or changes memory comes to. -/
noncomputable def evE (P : Program) (ev : Operand → Option V) (h : H) (o : Op) : Option (V × H) :=
  match o with
  | .alloc t => evAlloc P h t
  | .box t x => eBox ev h t x
  | .buildSlice t n parts => eBuildSlice P ev h t n parts
  | .makeMap _ r => eMakeMap h r
  | .makeSlice t l c => eMakeSlice P ev h t l c
  | .store t a x => eStore P ev h t a x
  | .mapUpdate t m k x => eMapUpdate P ev h t m k x
  | .call c => eCall P ev h c
  | _ => none
/-- An operation's kind, and what reckons it. -/
inductive K where
  | p (f : (Operand → Option V) → Option V)
  | r (f : (Operand → Option V) → H → Option V)
  | e (f : (Operand → Option V) → H → Option (V × H))
  | c (f : Operand) (args : List Operand)
  | i (x : Operand) (name : String) (args : List Operand)
  | no
noncomputable def kindOf (P : Program) (o : Op) : K :=
  match o with
  | .move x => .p fun ev => ev x
  | .assign x => .p fun ev => ev x
  | .pick c a b => .p fun ev => rPick ev c a b
  | .load t a => .r fun ev h => rLoad P ev h t a
  | .nilCheck x => .p fun ev => rNil ev x
  | .binOp op t x y _ => .r fun ev h => rBin P ev h op t x y
  | .unOp op _ x => .p fun ev => rUn ev op x
  | .convert s d x => .r fun ev h => rConvert P ev h s d x
  | .makeInterface t x => .p fun ev => rIface P ev t x
  | .makeFunc fn first captured => .p fun ev => rFunc ev fn first captured
  | .slice t x lo hi mx => .r fun ev h => rSlice P ev h t x lo hi mx
  | .fieldAddr t x f => .p fun ev => rFieldAddr P ev t x f
  | .field t x f => .p fun ev => rField P ev t x f
  | .indexAddr t x i => .r fun ev h => rIndexAddr P ev h t x i
  | .index t x i => .p fun ev => rIndex P ev t x i
  | .lookup t x i ok => .r fun ev h => rLookup P ev h t x i ok
  | .extract x i => .p fun ev => rExtract ev x i
  | .build t parts => .p fun ev => rBuild P ev t parts
  | .alloc t => .e fun _ h => evAlloc P h t
  | .box t x => .e fun ev h => eBox ev h t x
  | .buildSlice t n parts => .e fun ev h => eBuildSlice P ev h t n parts
  | .makeMap _ r => .e fun _ h => eMakeMap h r
  | .makeSlice t l c => .e fun ev h => eMakeSlice P ev h t l c
  | .store t a x => .e fun ev h => eStore P ev h t a x
  | .mapUpdate t m k x => .e fun ev h => eMapUpdate P ev h t m k x
  | .call c => match c.callee with
    | .builtin b => match b with
      | .append => .e fun ev h => eCall P ev h c
      | _ => .r fun ev h => rCall P ev h c
    | .value f => .c f c.args.toList
    | .invoke x name => .i x name c.args.toList
  | _ => .no
theorem kindOf_p {P : Program} {o : Op} {f : (Operand → Option V) → Option V} (hk : kindOf P o = .p f) (ev : Operand → Option V) (h : H) : f ev = evR P ev h o := by
  unfold kindOf at hk
  split at hk <;> first | (cases hk; done) | (injection hk with hk; subst hk; rfl) | skip
  · split at hk
    · split at hk
      · cases hk
      · cases hk
    · cases hk
    · cases hk
theorem kindOf_r {P : Program} {o : Op} {f : (Operand → Option V) → H → Option V} (hk : kindOf P o = .r f) (ev : Operand → Option V) (h : H) : f ev h = evR P ev h o := by
  unfold kindOf at hk
  split at hk <;> first | (cases hk; done) | (injection hk with hk; subst hk; rfl) | skip
  · split at hk
    · split at hk
      · cases hk
      · injection hk with hk; subst hk; rfl
    · cases hk
    · cases hk
theorem kindOf_e {P : Program} {o : Op} {f : (Operand → Option V) → H → Option (V × H)} (hk : kindOf P o = .e f) (ev : Operand → Option V) (h : H) : f ev h = evE P ev h o := by
  unfold kindOf at hk
  split at hk <;> first | (cases hk; done) | (injection hk with hk; subst hk; rfl) | skip
  · split at hk
    · split at hk
      · injection hk with hk; subst hk; rfl
      · cases hk
    · cases hk
    · cases hk
theorem kindOf_c {P : Program} {o : Op} {f : Operand} {args : List Operand} (hk : kindOf P o = .c f args) : ∃ c, o = .call c ∧ c.callee = .value f ∧ args = c.args.toList := by
  unfold kindOf at hk
  split at hk <;> first | (cases hk; done) | skip
  rename_i c
  split at hk
  · split at hk <;> cases hk
  · rename_i g hc
    injection hk with h1 h2
    subst h1; subst h2
    exact ⟨c, rfl, hc, rfl⟩
  · cases hk
theorem kindOf_i {P : Program} {o : Op} {x : Operand} {name : String} {args : List Operand} (hk : kindOf P o = .i x name args) : ∃ c, o = .call c ∧ c.callee = .invoke x name ∧ args = c.args.toList := by
  unfold kindOf at hk
  split at hk <;> first | (cases hk; done) | skip
  rename_i c
  split at hk
  · split at hk <;> cases hk
  · cases hk
  · rename_i g nm hc
    injection hk with h1 h2 h3
    subst h1; subst h2; subst h3
    exact ⟨c, rfl, hc, rfl⟩
/-- How an operation ends: with a value, or without. -/
def OpDone (P : Program) (s : Sem Next) (w : World) (q : Value) (w' : World) : Prop := s.run P w = .ok (.value q) w' ∨ (s.run P w = .ok .skip w' ∧ q = undef)
theorem Comes1.op {s : Sem Value} {v : V} {h' : H} (hc : Comes1 P ρ h w s v h') : ∃ q w' ρ', OpDone P (do pure (.value (← s)) : Sem Next) w q w' ∧ Step ρ h w ρ' h' w' ∧ VRel ρ' v q := by
  obtain ⟨q, w', ρ', h1, h2, h3⟩ := hc
  exact ⟨q, w', ρ', .inl (by rw [Sem.run_bind, h1]; rfl), h2, h3⟩
theorem undef_rel : VRel ρ (.tup []) undef := .tup rfl fun i v c hv _ => by simp at hv
theorem unit_op {s : Sem Unit} {h' : H} (hc : ∃ w', s.run P w = .ok () w' ∧ Step ρ h w ρ h' w') : ∃ q w' ρ', OpDone P (do s; pure .skip : Sem Next) w q w' ∧ Step ρ h w ρ' h' w' ∧ VRel ρ' (.tup []) q := by
  obtain ⟨w', h1, h2⟩ := hc
  exact ⟨undef, w', ρ, .inr ⟨by rw [Sem.run_bind, h1]; rfl, rfl⟩, h2, undef_rel⟩
set_option maxHeartbeats 1000000 in
theorem evE_sound (r : Rel ρ h w) {ev : Operand → Option V} {re : Operand → Value} {o : Oper} {v : V} {h' : H} (hev : ∀ x, x ∈ o.op.operands → ∀ u, ev x = some u → VRel ρ u (re x)) (he : evE P ev h o.op = some (v, h')) :
    ∃ q w' ρ', OpDone P (execOp re o) w q w' ∧ Step ρ h w ρ' h' w' ∧ VRel ρ' v q := by
  obtain ⟨dst, op, type, pos, after, guard⟩ := o
  simp only at he hev
  unfold evE at he
  unfold execOp
  split at he
  · exact (evAlloc_sound r he).op
  · rename_i t x
    unfold eBox at he
    split at he
    · rename_i u hu
      exact (evNew_sound r (hev x (by simp [Op.operands]) _ hu) he).op
    · cases he
  · rename_i t n parts
    unfold eBuildSlice at he
    split at he
    · rename_i l hl
      have h1 := evP_rel (re := re) parts.toList l (fun p hp => hev p.2 (by simp only [Op.operands, List.mem_toArray, List.mem_map]; exact ⟨p, hp, rfl⟩)) hl
      exact (evBuildSlice_sound (parts' := parts.map fun (i, x) => (i, re x)) r (by simpa using h1) he).op
    · cases he
  · rename_i t rr
    unfold eMakeMap at he
    split at he
    · injection he with he
      injection he with h1 h2
      subst h1; subst h2
      exact (evMakeMap_sound r).op
    · cases he
  · rename_i t l c
    unfold eMakeSlice at he
    split at he
    · rename_i a ha
      split at he
      · rename_i b hb
        exact (evMakeSlice_sound r (hev l (by simp [Op.operands]) _ ha) (hev c (by simp [Op.operands]) _ hb) he).op
      · cases he
    · cases he
  · rename_i t a x
    unfold eStore at he
    split at he
    · rename_i p hp
      split at he
      · rename_i u hu
        split at he
        · rename_i h'' hs
          injection he with he
          injection he with h1 h2
          subst h1; subst h2
          exact unit_op (evStore_sound r (hev a (by simp [Op.operands]) _ hp) (hev x (by simp [Op.operands]) _ hu) hs)
        · cases he
      · cases he
    · cases he
  · rename_i t m k x
    unfold eMapUpdate at he
    split at he
    · rename_i a ha
      split at he
      · rename_i b hb
        split at he
        · rename_i u hu
          split at he
          · rename_i h'' _ hs
            injection he with he
            injection he with h1 h2
            subst h1; subst h2
            exact unit_op (evMapUpdate_sound r (hev m (by simp [Op.operands]) _ ha) (hev k (by simp [Op.operands]) _ hb) (hev x (by simp [Op.operands]) _ hu) hs)
          · cases he
        · cases he
      · cases he
    · cases he
  · rename_i c
    unfold eCall at he
    split at he
    · rename_i b hb
      split at he
      · split at he
        · rename_i s x hl
          have h1 := evL_rel (re := re) c.args.toList [s, x] (fun y hy => hev y (by simp only [Op.operands, Call.operands, Array.mem_append]; exact .inr (by simpa using hy))) hl
          have hres : (resolve re c type).run P w = .ok { target := .builtin .append c.argTypes type (c.args.map fun | .const _ => true | _ => false), args := c.args.map re } w := by
            unfold resolve; rw [hb]; rfl
          obtain ⟨cs, hcs⟩ : ∃ cs, c.args.toList.map re = cs := ⟨_, rfl⟩
          rw [hcs] at h1
          match cs, h1 with
          | [a, b], h1 =>
            obtain ⟨q, w', ρ', g1, g2, g3⟩ := evAppend_sound (P := P) (rt := type) r h1.1 h1.2.1 he
            refine ⟨q, w', ρ', .inl ?_, g2, g3⟩
            have hargs : c.args.map re = #[a, b] := by
              apply Array.toList_inj.mp
              simpa using hcs
            dsimp only
            rw [Sem.run_bind, hres, Result.andThen_ok, hargs]
            show ((do pure (.value (← Builtin.append_ c.argTypes type #[a, b])) : Sem Next)).run P w = _
            rw [Sem.run_bind, g1]
            rfl
        · cases he
      · cases he
    · cases he
  · cases he
end
end Go.Ev
