/- Any operation that changes no memory, by its kind: reckoned by the kernel; and that the machine's operation comes to the same. No condition but what each theorem says. -/
import Derived.Test.YtpjilbhhhpikaaaGreatEvR6
namespace Go.Ev
set_option linter.unusedVariables false
set_option linter.unusedSimpArgs false
open Go
section
variable {P : Program} {ρ : Env} {h : H} {w : World}
def evNil : V → Option V
  | .pnil => none
  | .inil => none
  | .fnil => none
  | v => some v
noncomputable def evBin (P : Program) (h : H) (op : BinOp) (t : TypeId) (c : Bool) (x y : V) : Option V :=
  match x, y with
  | .int k a, .int k' b => match op with
    | .shl => evShift .shl k a b
    | .shr => evShift .shr k a b
    | op => match kindB k k' with
      | true => evInt op k a b
      | false => none
  | x, y => match op with
    | .eql => match evEq P h t c x y with | some b => some (.bool b) | none => none
    | .neq => match evEq P h t c x y with | some b => some (.bool (match b with | true => false | false => true)) | none => none
    | _ => none
theorem guard_int (w : World) {op : BinOp} {t : TypeId} {x y : Operand} {k k' : IntKind} {a b : Int} : (eqGuard op t x y (.int k a) (.int k' b)).run P w = .ok () w := by
  unfold eqGuard
  cases op <;> rfl
theorem evBin_sound (w : World) {op : BinOp} {t : TypeId} {x y v : V} {xo yo : Operand} {a b : Value} (hx : VRel ρ x a) (hy : VRel ρ y b) (he : evBin P h op t (isC xo || isC yo) x y = some v) :
    ∃ q, (do eqGuard op t xo yo a b; binOp op t a b).run P w = .ok q w ∧ VRel ρ v q := by
  unfold evBin at he
  split at he
  · rename_i k n k' m
    cases hx; cases hy
    split at he
    · obtain ⟨q, h1, h2⟩ := evShift_sound (ρ := ρ) (k' := k') (P := P) w t he
      exact ⟨q, by rw [Sem.run_bind, guard_int, Result.andThen_ok, h1], h2⟩
    · obtain ⟨q, h1, h2⟩ := evShift_sound (ρ := ρ) (k' := k') (P := P) w t he
      exact ⟨q, by rw [Sem.run_bind, guard_int, Result.andThen_ok, h1], h2⟩
    · split at he
      · rename_i hk
        obtain rfl := kindB_eq hk
        obtain ⟨q, h1, h2⟩ := evInt_sound (ρ := ρ) (P := P) w t he
        exact ⟨q, by rw [Sem.run_bind, guard_int, Result.andThen_ok, h1], h2⟩
      · cases he
  · split at he
    · split at he
      · rename_i r hr
        injection he with he; subst he
        exact ⟨_, evEq_sound w (.inl rfl) hx hy hr, .bool _⟩
      · cases he
    · split at he
      · rename_i r hr
        injection he with he; subst he
        refine ⟨_, evEq_sound w (.inr rfl) hx hy hr, ?_⟩
        cases r <;> exact .bool _
      · cases he
    · cases he
def maxV : V → V → Option V
  | .int k x, .int k' y => match kindB k k' with | true => some (.int k (match leI y x with | true => x | false => y)) | false => none
  | _, _ => none
def minV : V → V → Option V
  | .int k x, .int k' y => match kindB k k' with | true => some (.int k (match leI x y with | true => x | false => y)) | false => none
  | _, _ => none
def foldV (f : V → V → Option V) (a : V) : List V → Option V
  | [] => some a
  | b :: l => match f a b with | some c => foldV f c l | none => none
def LRel (ρ : Env) : List V → List Value → Prop
  | [], [] => True
  | v :: l, c :: m => VRel ρ v c ∧ LRel ρ l m
  | _, _ => False
theorem LRel.length {l : List V} {m : List Value} (hr : LRel ρ l m) : m.length = l.length := by
  induction l generalizing m with
  | nil => cases m with | nil => rfl | cons _ _ => exact hr.elim
  | cons v l ih => cases m with | nil => exact hr.elim | cons c m => simp [ih hr.2]
theorem LRel.get {l : List V} {m : List Value} (hr : LRel ρ l m) : ∀ (i : Nat) (v : V) (c : Value), l[i]? = some v → m[i]? = some c → VRel ρ v c := by
  induction l generalizing m with
  | nil => intro i v c hv; simp at hv
  | cons u l ih =>
    cases m with
    | nil => exact hr.elim
    | cons d m =>
      intro i v c hv hc
      cases i with
      | zero => simp at hv hc; subst hv; subst hc; exact hr.1
      | succ i => exact ih hr.2 i v c (by simpa using hv) (by simpa using hc)
theorem LRel.of {l : List V} {m : List Value} (hl : m.length = l.length) (hr : ∀ (i : Nat) (v : V) (c : Value), l[i]? = some v → m[i]? = some c → VRel ρ v c) : LRel ρ l m := by
  induction l generalizing m with
  | nil => cases m with | nil => trivial | cons _ _ => cases hl
  | cons u l ih =>
    cases m with
    | nil => cases hl
    | cons d m => exact ⟨hr 0 u d rfl rfl, ih (by simpa using hl) fun i v c hv hc => hr (i + 1) v c (by simpa using hv) (by simpa using hc)⟩
theorem LRel.ext {n m : Nat} {ρ' : Env} (x : Ext n m ρ ρ') {l : List V} {cs : List Value} (hr : LRel ρ l cs) : LRel ρ' l cs := LRel.of hr.length fun i v c hv hc => (hr.get i v c hv hc).ext x
theorem maxV_sound (w : World) {x y v : V} {a b : Value} (hx : VRel ρ x a) (hy : VRel ρ y b) (he : maxV x y = some v) : ∃ q, (Builtin.max2 a b).run P w = .ok q w ∧ VRel ρ v q := by
  unfold maxV at he
  split at he
  · rename_i k n k' m
    split at he
    · rename_i hk
      obtain rfl := kindB_eq hk
      injection he with he; subst he
      cases hx; cases hy
      refine ⟨.int k (if m > n then m else n), rfl, ?_⟩
      rw [leI_eq]
      by_cases c : m ≤ n
      · rw [decide_eq_true c, if_neg (by omega)]; exact .int _ _
      · rw [decide_eq_false c, if_pos (by omega)]; exact .int _ _
    · cases he
  · cases he
theorem minV_sound (w : World) {x y v : V} {a b : Value} (hx : VRel ρ x a) (hy : VRel ρ y b) (he : minV x y = some v) : ∃ q, (Builtin.min2 a b).run P w = .ok q w ∧ VRel ρ v q := by
  unfold minV at he
  split at he
  · rename_i k n k' m
    split at he
    · rename_i hk
      obtain rfl := kindB_eq hk
      injection he with he; subst he
      cases hx; cases hy
      refine ⟨.int k (if m < n then m else n), rfl, ?_⟩
      rw [leI_eq]
      by_cases c : n ≤ m
      · rw [decide_eq_true c, if_neg (by omega)]; exact .int _ _
      · rw [decide_eq_false c, if_pos (by omega)]; exact .int _ _
    · cases he
  · cases he
theorem fold_sound (w : World) {f : V → V → Option V} {g : Value → Value → Sem Value} (hf : ∀ {x y v : V} {a b : Value}, VRel ρ x a → VRel ρ y b → f x y = some v → ∃ q, (g a b).run P w = .ok q w ∧ VRel ρ v q) :
    ∀ (l : List V) (m : List Value) (x v : V) (a : Value), VRel ρ x a → LRel ρ l m → foldV f x l = some v → ∃ q, (m.foldlM g a).run P w = .ok q w ∧ VRel ρ v q
  | [], [], x, v, a, hx, _, he => by injection he with he; subst he; exact ⟨a, rfl, hx⟩
  | [], _ :: _, _, _, _, _, hr, _ => hr.elim
  | _ :: _, [], _, _, _, _, hr, _ => hr.elim
  | y :: l, b :: m, x, v, a, hx, hr, he => by
    unfold foldV at he
    split at he
    · rename_i c hc
      obtain ⟨q, h1, h2⟩ := hf hx hr.1 hc
      obtain ⟨q', h3, h4⟩ := fold_sound w hf l m c v q h2 hr.2 he
      exact ⟨q', by rw [List.foldlM_cons, Sem.run_bind, h1, Result.andThen_ok, h3], h4⟩
    · cases he
/-- Values of operands. -/
noncomputable def evA (a : T V) : Operand → Option V
  | .tmp t => a.get t
  | .const v => constV v
  | .func f => some (.func f [])
  | .global _ => none
def evL (ev : Operand → Option V) : List Operand → Option (List V)
  | [] => some []
  | x :: l => match ev x with
    | some v => match evL ev l with
      | some r => some (v :: r)
      | none => none
    | none => none
def evP (ev : Operand → Option V) : List (Nat × Operand) → Option (List (Nat × V))
  | [] => some []
  | (i, x) :: l => match ev x with
    | some v => match evP ev l with
      | some r => some ((i, v) :: r)
      | none => none
    | none => none
def evO (ev : Operand → Option V) : Option Operand → Option (Option V)
  | none => some none
  | some x => match ev x with | some v => some (some v) | none => none
theorem evL_rel {ev : Operand → Option V} {re : Operand → Value} : ∀ (l : List Operand) (r : List V), (∀ x, x ∈ l → ∀ v, ev x = some v → VRel ρ v (re x)) → evL ev l = some r → LRel ρ r (l.map re)
  | [], r, _, he => by injection he with he; subst he; trivial
  | x :: l, r, hr, he => by
    unfold evL at he
    split at he
    · rename_i v hv
      split at he
      · rename_i r' hr'
        injection he with he; subst he
        exact ⟨hr x (List.mem_cons_self ..) v hv, evL_rel l r' (fun y hy => hr y (List.mem_cons_of_mem _ hy)) hr'⟩
      · cases he
    · cases he
theorem evP_rel {ev : Operand → Option V} {re : Operand → Value} : ∀ (l : List (Nat × Operand)) (r : List (Nat × V)), (∀ p, p ∈ l → ∀ v, ev p.2 = some v → VRel ρ v (re p.2)) → evP ev l = some r → PRel ρ r (l.map fun (i, x) => (i, re x))
  | [], r, _, he => by injection he with he; subst he; trivial
  | (i, x) :: l, r, hr, he => by
    unfold evP at he
    split at he
    · rename_i v hv
      split at he
      · rename_i r' hr'
        injection he with he; subst he
        exact ⟨rfl, hr (i, x) (List.mem_cons_self ..) v hv, evP_rel l r' (fun y hy => hr y (List.mem_cons_of_mem _ hy)) hr'⟩
      · cases he
    · cases he
theorem evO_rel {ev : Operand → Option V} {re : Operand → Value} {o : Option Operand} {r : Option V} (hr : ∀ x, x ∈ o.toArray → ∀ v, ev x = some v → VRel ρ v (re x)) (he : evO ev o = some r) : ORelV ρ r (o.map re) := by
  cases o with
  | none => injection he with he; subst he; trivial
  | some x =>
    cases hv : ev x with
    | none => simp [evO, hv] at he
    | some v => simp [evO, hv] at he; subst he; exact hr x (by simp) v hv
noncomputable def evBuiltin (P : Program) (h : H) (b : Builtin) (ts : Array TypeId) (args : List V) : Option V :=
  match b with
  | .len => match ts[0]?, args with
    | some t, [x] => evLen P h t x
    | _, _ => none
  | .max => match args with
    | x :: l => foldV maxV x l
    | [] => none
  | .min => match args with
    | x :: l => foldV minV x l
    | [] => none
  | _ => none
noncomputable def rPick (ev : Operand → Option V) (c a b : Operand) : Option V :=
  match ev c with
  | some (.bool t) => match t with | true => ev a | false => ev b
  | _ => none
noncomputable def rLoad (P : Program) (ev : Operand → Option V) (h : H) (t : TypeId) (a : Operand) : Option V := match ev a with | some v => evLoad P h t v | none => none
noncomputable def rNil (ev : Operand → Option V) (x : Operand) : Option V := match ev x with | some v => evNil v | none => none
noncomputable def rBin (P : Program) (ev : Operand → Option V) (h : H) (op : BinOp) (t : TypeId) (x y : Operand) : Option V :=
  match ev x with
  | some a => match ev y with
    | some b => evBin P h op t (isC x || isC y) a b
    | none => none
  | none => none
noncomputable def rUn (ev : Operand → Option V) (op : UnOp) (x : Operand) : Option V := match ev x with | some v => evUn op v | none => none
noncomputable def rConvert (P : Program) (ev : Operand → Option V) (h : H) (s d : TypeId) (x : Operand) : Option V := match ev x with | some v => evConvert P h s d v | none => none
noncomputable def rIface (P : Program) (ev : Operand → Option V) (t : TypeId) (x : Operand) : Option V :=
  match ev x with
  | some v => match P.underlying t with
    | some (.interface _) => none
    | some _ => some (.iface t v)
    | none => none
  | none => none
noncomputable def rFunc (ev : Operand → Option V) (fn : Fn) (first captured : Array Operand) : Option V :=
  match fn, first.toList, evL ev captured.toList with
  | .func f, [], some l => some (.func f l)
  | _, _, _ => none
noncomputable def rSlice (P : Program) (ev : Operand → Option V) (h : H) (t : TypeId) (x : Operand) (lo hi mx : Option Operand) : Option V :=
  match ev x with
  | some v => match evO ev lo, evO ev hi, evO ev mx with
    | some l, some u, some m => match m, u with
      | some _, none => none
      | m, u => evSlice P h t v l u m
    | _, _, _ => none
  | none => none
noncomputable def rFieldAddr (P : Program) (ev : Operand → Option V) (t : TypeId) (x : Operand) (f : Nat) : Option V := match ev x with | some v => evFieldAddr P t f v | none => none
noncomputable def rField (P : Program) (ev : Operand → Option V) (t : TypeId) (x : Operand) (f : Nat) : Option V := match ev x with | some v => evField P t f v | none => none
noncomputable def rIndexAddr (P : Program) (ev : Operand → Option V) (h : H) (t : TypeId) (x i : Operand) : Option V :=
  match ev x with
  | some a => match ev i with | some b => evIndexAddr P h t a b | none => none
  | none => none
noncomputable def rIndex (P : Program) (ev : Operand → Option V) (t : TypeId) (x i : Operand) : Option V :=
  match ev x with
  | some a => match ev i with | some b => evIndex P t a b | none => none
  | none => none
noncomputable def rLookup (P : Program) (ev : Operand → Option V) (h : H) (t : TypeId) (x i : Operand) (ok : Bool) : Option V :=
  match ev x with
  | some a => match ev i with | some b => evLookup P h t a b ok | none => none
  | none => none
noncomputable def rExtract (ev : Operand → Option V) (x : Operand) (i : Nat) : Option V := match ev x with | some v => evExtract i v | none => none
noncomputable def rBuild (P : Program) (ev : Operand → Option V) (t : TypeId) (parts : Array (Nat × Operand)) : Option V := match evP ev parts.toList with | some l => evBuild P t l | none => none
noncomputable def rCall (P : Program) (ev : Operand → Option V) (h : H) (c : Call) : Option V :=
  match c.callee with
  | .builtin b => match evL ev c.args.toList with
    | some l => evBuiltin P h b c.argTypes l
    | none => none
  | _ => none
/-- What an operation that changes no memory comes to. -/
noncomputable def evR (P : Program) (ev : Operand → Option V) (h : H) (o : Op) : Option V :=
  match o with
  | .move x => ev x
  | .assign x => ev x
  | .pick c a b => rPick ev c a b
  | .load t a => rLoad P ev h t a
  | .nilCheck x => rNil ev x
  | .binOp op t x y _ => rBin P ev h op t x y
  | .unOp op _ x => rUn ev op x
  | .convert s d x => rConvert P ev h s d x
  | .makeInterface t x => rIface P ev t x
  | .makeFunc fn first captured => rFunc ev fn first captured
  | .slice t x lo hi mx => rSlice P ev h t x lo hi mx
  | .fieldAddr t x f => rFieldAddr P ev t x f
  | .field t x f => rField P ev t x f
  | .indexAddr t x i => rIndexAddr P ev h t x i
  | .index t x i => rIndex P ev t x i
  | .lookup t x i ok => rLookup P ev h t x i ok
  | .extract x i => rExtract ev x i
  | .build t parts => rBuild P ev t parts
  | .call c => rCall P ev h c
  | _ => none
theorem run_pureV (w : World) (s : Sem Value) {q : Value} (hs : s.run P w = .ok q w) : (do pure (.value (← s)) : Sem Next).run P w = .ok (.value q) w := by
  rw [Sem.run_bind, hs]; rfl
set_option maxHeartbeats 1000000 in
theorem evR_sound (r : Rel ρ h w) {ev : Operand → Option V} {re : Operand → Value} {o : Oper} {v : V} (hev : ∀ x, x ∈ o.op.operands → ∀ u, ev x = some u → VRel ρ u (re x)) (he : evR P ev h o.op = some v) :
    ∃ q, (execOp re o).run P w = .ok (.value q) w ∧ VRel ρ v q := by
  obtain ⟨dst, op, type, pos, after, guard⟩ := o
  simp only at he hev
  unfold evR at he
  unfold execOp
  split at he
  · exact ⟨_, rfl, hev _ (by simp [Op.operands]) _ he⟩
  · exact ⟨_, rfl, hev _ (by simp [Op.operands]) _ he⟩
  · rename_i c a b
    unfold rPick at he
    split at he
    · rename_i t hc
      have h1 := hev c (by simp [Op.operands]) _ hc
      have h1' : re c = .bool t := by revert h1; generalize re c = q; intro h1; cases h1; rfl
      split at he
      · exact ⟨re a, by simp [h1', asBool], hev a (by simp [Op.operands]) _ he⟩
      · exact ⟨re b, by simp [h1', asBool], hev b (by simp [Op.operands]) _ he⟩
    · cases he
  · rename_i t a
    unfold rLoad at he
    split at he
    · rename_i u hu
      obtain ⟨q, h1, h2⟩ := evLoad_sound (P := P) r (hev a (by simp [Op.operands]) _ hu) he
      exact ⟨q, run_pureV w _ h1, h2⟩
    · cases he
  · rename_i x
    unfold rNil at he
    split at he
    · rename_i u hu
      have h1 := hev x (by simp [Op.operands]) _ hu
      unfold evNil at he
      split at he <;> first | (cases he; done) | skip
      injection he with he; subst he
      refine ⟨re x, ?_, h1⟩
      dsimp only
      revert h1
      generalize re x = q
      intro h1
      cases h1 <;> first | rfl | (exfalso; simp_all; done)
    · cases he
  · rename_i op t x y yt
    unfold rBin at he
    split at he
    · rename_i a ha
      split at he
      · rename_i b hb
        obtain ⟨q, h1, h2⟩ := evBin_sound (P := P) w (hev x (by simp [Op.operands]) _ ha) (hev y (by simp [Op.operands]) _ hb) he
        exact ⟨q, run_pureV w _ h1, h2⟩
      · cases he
    · cases he
  · rename_i op t x
    unfold rUn at he
    split at he
    · rename_i u hu
      obtain ⟨q, h1, h2⟩ := evUn_sound (P := P) w (hev x (by simp [Op.operands]) _ hu) he
      exact ⟨q, run_pureV w _ h1, h2⟩
    · cases he
  · rename_i s d x
    unfold rConvert at he
    split at he
    · rename_i u hu
      obtain ⟨q, h1, h2⟩ := evConvert_sound (P := P) r (hev x (by simp [Op.operands]) _ hu) he
      exact ⟨q, run_pureV w _ h1, h2⟩
    · cases he
  · rename_i t x
    unfold rIface at he
    split at he
    · rename_i u hu
      split at he
      · cases he
      · rename_i d hnd hd
        injection he with he; subst he
        refine ⟨.iface t (re x), run_pureV w _ ?_, .iface (hev x (by simp [Op.operands]) _ hu)⟩
        unfold Instr.makeInterface
        rw [Sem.run_bind, run_und hd, Result.andThen_ok]
        cases d <;> first | rfl | exact absurd rfl (hnd _)
      · cases he
    · cases he
  · rename_i fn first captured
    unfold rFunc at he
    split at he
    · rename_i f l hf hl
      injection he with he; subst he
      have h1 := evL_rel (re := re) captured.toList l (fun x hx => hev x (by simp [Op.operands]; exact .inr (by simpa using hx))) hl
      have hfirst : first = #[] := by cases first; simp_all
      subst hfirst
      refine ⟨.func (.func f) #[] (captured.map re), run_pureV w _ (by simp [Instr.makeFunc]), .func (by have := h1.length; simpa using this) fun i u c hu hc => h1.get i u c hu (by simpa using hc)⟩
    · cases he
  · rename_i t x lo hi mx
    unfold rSlice at he
    split at he
    · rename_i u hu
      split at he
      · rename_i l uu m h1 h2 h3
        have r1 := evO_rel (re := re) (o := lo) (fun y hy => hev y (by simp only [Op.operands, Array.mem_append]; exact .inl (.inl (.inr hy)))) h1
        have r2 := evO_rel (re := re) (o := hi) (fun y hy => hev y (by simp only [Op.operands, Array.mem_append]; exact .inl (.inr hy))) h2
        have r3 := evO_rel (re := re) (o := mx) (fun y hy => hev y (by simp only [Op.operands, Array.mem_append]; exact .inr hy)) h3
        split at he
        · cases he
        · rename_i hne
          obtain ⟨q, g1, g2⟩ := evSlice_sound (P := P) r r1 r2 r3 (fun hm hu' => by
            cases m with
            | none => exact hm rfl
            | some m => subst hu'; exact hne _ rfl rfl) (hev x (by simp [Op.operands]) _ hu) he
          exact ⟨q, run_pureV w _ g1, g2⟩
      · cases he
    · cases he
  · rename_i t x f
    unfold rFieldAddr at he
    split at he
    · rename_i u hu
      obtain ⟨q, h1, h2⟩ := evFieldAddr_sound (P := P) w (hev x (by simp [Op.operands]) _ hu) he
      exact ⟨q, run_pureV w _ h1, h2⟩
    · cases he
  · rename_i t x f
    unfold rField at he
    split at he
    · rename_i u hu
      obtain ⟨q, h1, h2⟩ := evField_sound (P := P) w (hev x (by simp [Op.operands]) _ hu) he
      exact ⟨q, run_pureV w _ h1, h2⟩
    · cases he
  · rename_i t x i
    unfold rIndexAddr at he
    split at he
    · rename_i a ha
      split at he
      · rename_i b hb
        obtain ⟨q, h1, h2⟩ := evIndexAddr_sound (P := P) r (hev x (by simp [Op.operands]) _ ha) (hev i (by simp [Op.operands]) _ hb) he
        exact ⟨q, run_pureV w _ h1, h2⟩
      · cases he
    · cases he
  · rename_i t x i
    unfold rIndex at he
    split at he
    · rename_i a ha
      split at he
      · rename_i b hb
        obtain ⟨q, h1, h2⟩ := evIndex_sound (P := P) w (hev x (by simp [Op.operands]) _ ha) (hev i (by simp [Op.operands]) _ hb) he
        exact ⟨q, run_pureV w _ h1, h2⟩
      · cases he
    · cases he
  · rename_i t x i ok
    unfold rLookup at he
    split at he
    · rename_i a ha
      split at he
      · rename_i b hb
        obtain ⟨q, h1, h2⟩ := evLookup_sound (P := P) r (hev x (by simp [Op.operands]) _ ha) (hev i (by simp [Op.operands]) _ hb) he
        exact ⟨q, run_pureV w _ h1, h2⟩
      · cases he
    · cases he
  · rename_i x i
    unfold rExtract at he
    split at he
    · rename_i u hu
      obtain ⟨q, h1, h2⟩ := evExtract_sound (P := P) w (hev x (by simp [Op.operands]) _ hu) he
      exact ⟨q, run_pureV w _ h1, h2⟩
    · cases he
  · rename_i t parts
    unfold rBuild at he
    split at he
    · rename_i l hl
      have h1 := evP_rel (re := re) parts.toList l (fun p hp => hev p.2 (by simp only [Op.operands, List.mem_toArray, List.mem_map]; exact ⟨p, hp, rfl⟩)) hl
      obtain ⟨q, g1, g2⟩ := evBuild_sound (P := P) (parts' := parts.map fun (i, x) => (i, re x)) w (by simpa using h1) he
      exact ⟨q, run_pureV w _ g1, g2⟩
    · cases he
  · rename_i c
    unfold rCall at he
    split at he
    · rename_i b hb
      split at he
      · rename_i l hl
        have h1 := evL_rel (re := re) c.args.toList l (fun x hx => hev x (by simp only [Op.operands, Call.operands, Array.mem_append]; exact .inr (by simpa using hx))) hl
        have hres : (resolve re c type).run P w = .ok { target := .builtin b c.argTypes type (c.args.map fun | .const _ => true | _ => false), args := c.args.map re } w := by
          unfold resolve; rw [hb]; rfl
        have go : ∀ q, (builtin b c.argTypes type (c.args.map fun | .const _ => true | _ => false) (c.args.map re)).run P w = .ok (.value q) w → (do let d ← resolve re c type; invoke d.target d.args : Sem Next).run P w = .ok (.value q) w := by
          intro q hq
          rw [Sem.run_bind, hres, Result.andThen_ok]
          exact hq
        unfold evBuiltin at he
        split at he
        · split at he
          · rename_i t x ht
            have hargs : c.args.map re = #[(c.args.map re)[0]'(by have := h1.length; simp at this ⊢; omega)] := by
              have := h1.length
              apply Array.ext
              · simpa using this
              · intro i h1 h2; simp at h2; subst h2; simp
            have hx : VRel ρ x ((c.args.map re)[0]'(by have := h1.length; simp at this ⊢; omega)) := h1.get 0 x _ rfl (by have := h1.length; simp at this ⊢; rw [Array.getElem?_eq_getElem (by omega)]; exact ⟨_, rfl, rfl⟩)
            obtain ⟨q, g1, g2⟩ := evLen_sound (P := P) (ty := type) r ht hx he
            refine ⟨q, go q ?_, g2⟩
            rw [hargs]
            exact run_pureV w _ g1
          · cases he
        · split at he
          · rename_i x l' 
            obtain ⟨cs, hcs⟩ : ∃ cs, c.args.toList.map re = cs := ⟨_, rfl⟩
            rw [hcs] at h1
            cases cs with
            | nil => exact h1.elim
            | cons a m =>
              obtain ⟨q, g1, g2⟩ := fold_sound (P := P) w (fun hx hy he => maxV_sound w hx hy he) l' m x v a h1.1 h1.2 he
              refine ⟨q, go q (run_pureV w _ ?_), g2⟩
              unfold Builtin.max_
              have : (c.args.map re).toList = a :: m := by simpa using hcs
              rw [this]
              exact g1
          · cases he
        · split at he
          · rename_i x l' 
            obtain ⟨cs, hcs⟩ : ∃ cs, c.args.toList.map re = cs := ⟨_, rfl⟩
            rw [hcs] at h1
            cases cs with
            | nil => exact h1.elim
            | cons a m =>
              obtain ⟨q, g1, g2⟩ := fold_sound (P := P) w (fun hx hy he => minV_sound w hx hy he) l' m x v a h1.1 h1.2 he
              refine ⟨q, go q (run_pureV w _ ?_), g2⟩
              unfold Builtin.min_
              have : (c.args.map re).toList = a :: m := by simpa using hcs
              rw [this]
              exact g1
          · cases he
        · cases he
      · cases he
    · cases he
  · cases he
end
end Go.Ev
