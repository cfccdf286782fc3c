/- A region whose order is drawn, reckoned in the order in which it stands; and what is looked at, so that every order comes to the same. No condition but what each theorem says. -/
import Derived.Test.YtpjilbhhhpikaaaGreatDoorEvS2
namespace Go.Ev
set_option linter.unusedVariables false
set_option linter.unusedSimpArgs false
open Go
def bit (b x : Nat) : Bool := Nat.testBit b x
def edgeBits (B : Nat → Nat) : List Edge → Nat
  | [] => 0
  | e :: r => match Region.binds .any e with
    | true => Nat.lor (Nat.lor (Nat.pow 2 e.on) (B e.on)) (edgeBits B r)
    | false => edgeBits B r
theorem edgeBits_spec {B : Nat → Nat} {x : Nat} : ∀ {l : List Edge}, bit (edgeBits B l) x = true → ∃ e, e ∈ l ∧ Region.binds .any e = true ∧ (e.on = x ∨ bit (B e.on) x = true)
  | [], hx => by simp [edgeBits, bit] at hx
  | e :: r, hx => by
    unfold edgeBits at hx
    cases hb : Region.binds .any e with
    | true =>
      rw [hb] at hx
      have hx : (((2 ^ e.on ||| B e.on) ||| edgeBits B r) : Nat).testBit x = true := hx
      rw [Nat.testBit_or, Nat.testBit_or, Nat.testBit_two_pow] at hx
      simp only [Bool.or_eq_true, decide_eq_true_eq] at hx
      rcases hx with (hx | hx) | hx
      · exact ⟨e, List.mem_cons_self .., hb, .inl hx⟩
      · exact ⟨e, List.mem_cons_self .., hb, .inr hx⟩
      · obtain ⟨e', h1, h2, h3⟩ := edgeBits_spec hx
        exact ⟨e', List.mem_cons_of_mem _ h1, h2, h3⟩
    | false =>
      rw [hb] at hx
      obtain ⟨e', h1, h2, h3⟩ := edgeBits_spec hx
      exact ⟨e', List.mem_cons_of_mem _ h1, h2, h3⟩
noncomputable def tabB (t : T Nat) (i : Nat) : Nat := match t.get i with | some b => b | none => 0
noncomputable def mkTab : List Oper → Nat → T Nat → T Nat
  | [], _, t => t
  | o :: r, i, t => mkTab r (i + 1) (t.set i (edgeBits (tabB t) o.after.toList))
noncomputable def mkW : List Oper → Nat → T Nat → Option (T Nat)
  | [], _, w => some w
  | o :: r, i, w => match o.dst with
    | none => mkW r (i + 1) w
    | some d => match w.get d with
      | some _ => none
      | none => mkW r (i + 1) (w.set d i)
noncomputable def tmpOk (B : Nat → Nat) (W : T Nat) (i t : Nat) : Bool :=
  match W.get t with
  | none => true
  | some j => match Nat.blt j i with
    | true => bit (B i) j
    | false => match Nat.blt i j with
      | true => bit (B j) i
      | false => false
noncomputable def opOk (ops : Array Oper) (B : Nat → Nat) (W : T Nat) (i : Nat) (o : Oper) : Bool :=
  o.after.toList.all (fun e => !Region.binds .any e || Nat.blt e.on i) && Nat.beq (B i) (edgeBits B o.after.toList) && (o.looksAt ops).all (tmpOk B W i)
noncomputable def allOk (ops : Array Oper) (B : Nat → Nat) (W : T Nat) : List Oper → Nat → Bool
  | [], _ => true
  | o :: r, i => opOk ops B W i o && allOk ops B W r (i + 1)
/-- What can be told of a region ahead of its run. -/
noncomputable def regInfo (ops : Array Oper) : Option (T Nat) :=
  match mkW ops.toList 0 .e with
  | some W => match allOk ops (tabB (mkTab ops.toList 0 .e)) W ops.toList 0 with
    | true => some (mkTab ops.toList 0 .e)
    | false => none
  | none => none
/-- A variable made ahead of everything. -/
def isF0 (o : Oper) : Bool := match o.op, o.after.toList, o.guard with | .alloc _, [], none => true | _, _, _ => false
def firstF : List Oper → Option Tmp
  | [] => none
  | o :: r => match isF0 o with | true => o.dst | false => firstF r
def sameT : Option Tmp → Option Tmp → Bool
  | some a, some b => Nat.beq a b
  | _, _ => false
/-- The first of them. -/
def isF (ops : Array Oper) (o : Oper) : Bool := match isF0 o with | true => sameT o.dst (firstF ops.toList) | false => false
theorem isF_0 {ops : Array Oper} {o : Oper} (h : isF ops o = true) : isF0 o = true := by
  unfold isF at h
  split at h
  · assumption
  · cases h
noncomputable def runF (st : St) (N : Nat) (ops : Array Oper) (a : T V) (h : H) : Option (T V × H) :=
  match ops.toList.filter (isF ops) with
  | [] => some (a, h)
  | [o] => match st (evA a) h o with
    | some (v, h') => match putA N a o v with
      | some a' => some (a', h')
      | none => none
    | none => none
  | _ => none
/-- One operation's run: which, how many have changed memory ahead of it, the slots and the memory ahead of it, its kind (0: not carried out), its value, the memory behind it. -/
structure Rc where
  i : Nat
  k : Nat
  o : Oper
  a : T V
  h : H
  c : Nat
  v : V
  h' : H
noncomputable def consR' (rc : Rc) : Option (List Rc × T V × H) → Option (List Rc × T V × H)
  | some (l, a, h) => some (rc :: l, a, h)
  | none => none
noncomputable def trD (P : Program) (st : St) (N : Nat) (ops : Array Oper) : List Oper → Nat → Nat → T V → H → Option (List Rc × T V × H)
  | [], _, _, a, h => some ([], a, h)
  | o :: r, i, k, a, h => match isF ops o with
    | true => trD P st N ops r (i + 1) k a h
    | false => match want ops a o with
      | some false => match putA N a o (.tup []) with
        | some a' => consR' ⟨i, k, o, a, h, 0, .tup [], h⟩ (trD P st N ops r (i + 1) k a' h)
        | none => none
      | some true => match st (evA a) h o with
        | some (v, h') => match putA N a o v with
          | some a' => match cls P o.op with
            | 3 => consR' ⟨i, k, o, a, h, 3, v, h'⟩ (trD P st N ops r (i + 1) (k + 1) a' h')
            | c => consR' ⟨i, k, o, a, h, c, v, h⟩ (trD P st N ops r (i + 1) k a' h)
          | none => none
        | none => none
      | none => none
def eqV (x y : V) : Bool :=
  match x, y with
  | .bool a, .bool b => match a, b with | true, true => true | false, false => true | _, _ => false
  | .int k n, .int k' m => kindB k k' && eqI n m
  | .ptr k g o, .ptr k' g' o' => Nat.beq k k' && Nat.beq g g' && Nat.beq o o'
  | .slice k g o l none, .slice k' g' o' l' none => Nat.beq k k' && Nat.beq g g' && Nat.beq o o' && Nat.beq l l'
  | .slice k g o l (some c), .slice k' g' o' l' (some c') => Nat.beq k k' && Nat.beq g g' && Nat.beq o o' && Nat.beq l l' && Nat.beq c c'
  | .map k, .map k' => Nat.beq k k'
  | .pnil, .pnil => true
  | .snil, .snil => true
  | .mnil, .mnil => true
  | .fnil, .fnil => true
  | .inil, .inil => true
  | _, _ => false
noncomputable def eqCells (d : List (Nat × V)) (t : T V) (d' : List (Nat × V)) (t' : T V) : Nat → Bool
  | 0 => true
  | n + 1 => match rget d t n, rget d' t' n with
    | some x, some y => eqV x y && eqCells d t d' t' n
    | _, _ => false
noncomputable def eqW (x y : V) : Bool :=
  match x, y with
  | .agg n d t, .agg n' d' t' => Nat.beq n n' && eqCells d t d' t' n
  | .iface t x, .iface t' y => Nat.beq t t' && eqV x y
  | x, y => eqV x y
noncomputable def sameAt (st : St) (r : Rc) (h2 : H) : Bool :=
  match st (evA r.a) h2 r.o with
  | some (v2, _) => eqW v2 r.v
  | none => false
def chainOk (B : Nat → Nat) : List Rc → Bool
  | [] => true
  | e :: r => match r with
    | [] => true
    | e2 :: _ => bit (B e2.i) e.i && chainOk B r
noncomputable def pairOk (st : St) (B : Nat → Nat) (r e : Rc) : Bool :=
  match Nat.blt e.i r.i with
  | true => match bit (B r.i) e.i with
    | true => true
    | false => sameAt st r e.h
  | false => match bit (B e.i) r.i with
    | true => true
    | false => sameAt st r e.h'
def isE (r : Rc) : Bool := Nat.beq r.c 3
def isRd (r : Rc) : Bool := Nat.beq r.c 2
noncomputable def traceOk (st : St) (B : Nat → Nat) (l : List Rc) : Bool :=
  chainOk B (l.filter isE) && (l.filter isRd).all fun r => (l.filter isE).all fun e => pairOk st B r e
noncomputable def regD (P : Program) (st : St) (N : Nat) (ops : Array Oper) (a : T V) (h : H) : Option (T V × H) :=
  match regInfo ops with
  | some tab => match runF st N ops a h with
    | some (a1, h1) => match trD P st N ops ops.toList 0 0 a1 h1 with
      | some (l, a2, h2) => match traceOk st (tabB tab) l with
        | true => some (a2, h2)
        | false => none
      | none => none
    | none => none
  | none => none
end Go.Ev
/- What is looked at of a region whose order is drawn, told one by one. No condition but what each theorem says. -/
namespace Go.Ev
set_option linter.unusedVariables false
set_option linter.unusedSimpArgs false
open Go
theorem eqV_eq {x y : V} (he : eqV x y = true) : x = y := by
  unfold eqV at he
  split at he
  · split at he <;> first | rfl | cases he
  · simp only [Bool.and_eq_true] at he
    have h2 := he.2
    rw [eqI_eq] at h2
    rw [kindB_eq he.1, eq_of_beq h2]
  · simp only [Bool.and_eq_true] at he
    rw [Nat.eq_of_beq_eq_true he.1.1, Nat.eq_of_beq_eq_true he.1.2, Nat.eq_of_beq_eq_true he.2]
  · simp only [Bool.and_eq_true] at he
    rw [Nat.eq_of_beq_eq_true he.1.1.1, Nat.eq_of_beq_eq_true he.1.1.2, Nat.eq_of_beq_eq_true he.1.2, Nat.eq_of_beq_eq_true he.2]
  · simp only [Bool.and_eq_true] at he
    rw [Nat.eq_of_beq_eq_true he.1.1.1.1, Nat.eq_of_beq_eq_true he.1.1.1.2, Nat.eq_of_beq_eq_true he.1.1.2, Nat.eq_of_beq_eq_true he.1.2, Nat.eq_of_beq_eq_true he.2]
  · rw [Nat.eq_of_beq_eq_true he]
  all_goals first | rfl | cases he
theorem eqCells_spec {d d' : List (Nat × V)} {t t' : T V} : ∀ {n i : Nat}, eqCells d t d' t' n = true → i < n → ∃ v, rget d t i = some v ∧ rget d' t' i = some v
  | 0, _, _, hi => absurd hi (Nat.not_lt_zero _)
  | n + 1, i, he, hi => by
    unfold eqCells at he
    split at he
    · rename_i x y hx hy
      simp only [Bool.and_eq_true] at he
      by_cases c : i = n
      · subst c
        have := eqV_eq he.1
        subst this
        exact ⟨x, hx, hy⟩
      · exact eqCells_spec he.2 (by omega)
    · cases he
theorem eqW_rel {ρ : Env} {x y : V} {c : Value} (he : eqW x y = true) (hr : VRel ρ x c) : VRel ρ y c := by
  unfold eqW at he
  split at he
  · rename_i n d t n' d' t'
    simp only [Bool.and_eq_true] at he
    obtain rfl := Nat.eq_of_beq_eq_true he.1
    cases hr with
    | agg hs hd hh =>
    refine .agg hs (fun i hi => ?_) (fun i v c hv hc => ?_)
    · obtain ⟨v, _, h2⟩ := eqCells_spec he.2 hi
      exact ⟨v, h2⟩
    · have hi : i < n := by rw [← hs]; exact (Array.getElem?_eq_some_iff.mp hc).1
      obtain ⟨v', h1, h2⟩ := eqCells_spec he.2 hi
      rw [h2] at hv; injection hv with hv; subst hv
      exact hh i _ c h1 hc
  · rename_i t x t' y
    simp only [Bool.and_eq_true] at he
    obtain rfl := Nat.eq_of_beq_eq_true he.1
    obtain rfl := eqV_eq he.2
    exact hr
  · rw [← eqV_eq he]; exact hr
theorem mkW_spec : ∀ (l : List Oper) (i : Nat) (w W : T Nat), mkW l i w = some W → (∀ d j, w.get d = some j → W.get d = some j) ∧ (∀ m o d, l[m]? = some o → o.dst = some d → W.get d = some (i + m)) ∧
    (∀ d j, W.get d = some j → w.get d = some j ∨ ∃ m o, l[m]? = some o ∧ o.dst = some d ∧ j = i + m)
  | [], i, w, W, he => by
    injection he with he; subst he
    exact ⟨fun _ _ h => h, fun m o d h => by simp at h, fun _ _ h => .inl h⟩
  | o :: r, i, w, W, he => by
    unfold mkW at he
    split at he
    · rename_i hd
      obtain ⟨h1, h2, h3⟩ := mkW_spec r (i + 1) w W he
      refine ⟨h1, fun m o' d hm hd' => ?_, fun d j hj => ?_⟩
      · cases m with
        | zero => simp at hm; subst hm; rw [hd] at hd'; cases hd'
        | succ m => rw [show i + (m + 1) = i + 1 + m by omega]; exact h2 m o' d (by simpa using hm) hd'
      · rcases h3 d j hj with h | ⟨m, o', q1, q2, q3⟩
        · exact .inl h
        · exact .inr ⟨m + 1, o', by simpa using q1, q2, by omega⟩
    · rename_i d0 hd
      split at he
      · cases he
      · rename_i hw
        obtain ⟨h1, h2, h3⟩ := mkW_spec r (i + 1) (w.set d0 i) W he
        refine ⟨fun d j hj => h1 d j ?_, fun m o' d hm hd' => ?_, fun d j hj => ?_⟩
        · rw [T.get_set, if_neg]
          · exact hj
          · intro e; subst e; rw [hw] at hj; cases hj
        · cases m with
          | zero =>
            simp at hm; subst hm
            rw [hd] at hd'; injection hd' with hd'; subst hd'
            exact h1 _ _ (T.get_set_same _ _ _)
          | succ m => rw [show i + (m + 1) = i + 1 + m by omega]; exact h2 m o' d (by simpa using hm) hd'
        · rcases h3 d j hj with h | ⟨m, o', q1, q2, q3⟩
          · rw [T.get_set] at h
            by_cases c : d0 = d
            · rw [if_pos c] at h; injection h with h
              exact .inr ⟨0, o, rfl, by rw [hd, c], by omega⟩
            · rw [if_neg c] at h; exact .inl h
          · exact .inr ⟨m + 1, o', by simpa using q1, q2, by omega⟩
theorem allOk_spec {ops : Array Oper} {B : Nat → Nat} {W : T Nat} : ∀ (l : List Oper) (i : Nat), allOk ops B W l i = true → ∀ m o, l[m]? = some o → opOk ops B W (i + m) o = true
  | [], _, _, m, o, h => by simp at h
  | o :: r, i, he, m, o', hm => by
    unfold allOk at he
    simp only [Bool.and_eq_true] at he
    cases m with
    | zero => simp at hm; subst hm; exact he.1
    | succ m => rw [show i + (m + 1) = i + 1 + m by omega]; exact allOk_spec r (i + 1) he.2 m o' (by simpa using hm)
theorem tmpOk_spec {B : Nat → Nat} {W : T Nat} {i t j : Nat} (he : tmpOk B W i t = true) (hj : W.get t = some j) : (j < i ∧ bit (B i) j = true) ∨ (i < j ∧ bit (B j) i = true) := by
  unfold tmpOk at he
  rw [hj] at he
  simp only at he
  split at he
  · rename_i h1
    exact .inl ⟨by simpa [Nat.blt_eq] using h1, he⟩
  · split at he
    · rename_i h1
      exact .inr ⟨by simpa [Nat.blt_eq] using h1, he⟩
    · cases he
theorem chainOk_spec {B : Nat → Nat} : ∀ (l : List Rc), chainOk B l = true → ∀ (j : Nat) (e e2 : Rc), l[j]? = some e → l[j + 1]? = some e2 → bit (B e2.i) e.i = true
  | [], _, j, e, e2, h, _ => by simp at h
  | x :: r, he, j, e, e2, h1, h2 => by
    unfold chainOk at he
    split at he
    · simp at h2
    · rename_i e2' r'
      simp only [Bool.and_eq_true] at he
      cases j with
      | zero =>
        simp at h1 h2
        subst h1; subst h2
        exact he.1
      | succ j => exact chainOk_spec _ he.2 j e e2 (by simpa using h1) (by simpa using h2)
section
variable {P : Program} {st : St} {N : Nat} {ops : Array Oper}
theorem putA_get {a a' : T V} {o : Oper} {v : V} (hp : putA N a o v = some a') : (∀ d, o.dst = some d → d < N) ∧ ∀ t u, a'.get t = some u → (o.dst = some t ∧ u = v) ∨ (o.dst ≠ some t ∧ a.get t = some u) := by
  unfold putA at hp
  cases hd : o.dst with
  | none =>
    rw [hd] at hp; injection hp with hp; subst hp
    exact ⟨fun d h => (by cases h), fun t u h => .inr ⟨by simp, h⟩⟩
  | some d =>
    rw [hd] at hp
    simp only [forceV_eq, T.setK_eq] at hp
    split at hp
    · rename_i hle
      injection hp with hp; subst hp
      refine ⟨fun d' h => by injection h with h; subst h; exact Nat.le_of_ble_eq_true hle, fun t u hu => ?_⟩
      rw [← T.set_eq, T.get_set] at hu
      by_cases c : d = t
      · rw [if_pos c] at hu; injection hu with hu
        exact .inl ⟨by rw [c], hu.symm⟩
      · rw [if_neg c] at hu
        exact .inr ⟨by simpa using c, hu⟩
    · cases hp
/-- How one operation was reckoned. -/
def RcOk (P : Program) (st : St) (N : Nat) (ops : Array Oper) (Hs : Nat → H) (rc : Rc) : Prop :=
  rc.h = Hs rc.k ∧ (∀ d, rc.o.dst = some d → d < N) ∧
  ((rc.c = 0 ∧ want ops rc.a rc.o = some false ∧ rc.v = .tup []) ∨
   (rc.c = cls P rc.o.op ∧ rc.c ≠ 3 ∧ want ops rc.a rc.o = some true ∧ st (evA rc.a) rc.h rc.o = some (rc.v, rc.h)) ∨
   (rc.c = 3 ∧ want ops rc.a rc.o = some true ∧ st (evA rc.a) rc.h rc.o = some (rc.v, rc.h') ∧ rc.h' = Hs (rc.k + 1)))
structure TrOk (P : Program) (st : St) (N : Nat) (ops : Array Oper) (l : List Oper) (i k : Nat) (a : T V) (h : H) (tr : List Rc) (af : T V) (hf : H) (Hs : Nat → H) : Prop where
  first : Hs k = h
  last : Hs (k + (tr.filter isE).length) = hf
  cover : ∀ m o, l[m]? = some o → isF ops o = false → ∃ rc, rc ∈ tr ∧ rc.i = i + m ∧ rc.o = o
  mem : ∀ rc, rc ∈ tr → i ≤ rc.i ∧ (∃ m, rc.i = i + m ∧ l[m]? = some rc.o) ∧ isF ops rc.o = false ∧ k ≤ rc.k ∧ RcOk P st N ops Hs rc
  order : ∀ x y, x ∈ tr → y ∈ tr → x.i < y.i → x.k ≤ y.k ∧ (x.c = 3 → x.k < y.k)
  inj : ∀ x y, x ∈ tr → y ∈ tr → x.i = y.i → x = y
  effs : ∀ (j : Nat) (e : Rc), (tr.filter isE)[j]? = some e → e.k = k + j
  kmax : ∀ rc, rc ∈ tr → rc.k ≤ k + (tr.filter isE).length
  slot : ∀ rc, rc ∈ tr → ∀ t u, rc.a.get t = some u → (∃ x, x ∈ tr ∧ x.i < rc.i ∧ x.o.dst = some t ∧ u = x.v) ∨ (a.get t = some u ∧ ∀ x, x ∈ tr → x.i < rc.i → x.o.dst ≠ some t)
  fin : ∀ t u, af.get t = some u → (∃ x, x ∈ tr ∧ x.o.dst = some t ∧ u = x.v) ∨ (a.get t = some u ∧ ∀ x, x ∈ tr → x.o.dst ≠ some t)
theorem TrOk.cons {l : List Oper} {i k k' : Nat} {a a' : T V} {h h1 : H} {tr : List Rc} {af : T V} {hf : H} {Hs : Nat → H} {o : Oper} {rc : Rc} (hi : rc.i = i) (hk : rc.k = k) (ho : rc.o = o) (ha : rc.a = a) (hh : rc.h = h) (hF : isF ops o = false)
    (hp : putA N a o rc.v = some a') (hE : (rc.c = 3 ∧ k' = k + 1) ∨ (rc.c ≠ 3 ∧ k' = k ∧ h1 = h))
    (hrc : (rc.c = 0 ∧ want ops rc.a rc.o = some false ∧ rc.v = .tup []) ∨
      (rc.c = cls P rc.o.op ∧ rc.c ≠ 3 ∧ want ops rc.a rc.o = some true ∧ st (evA rc.a) rc.h rc.o = some (rc.v, rc.h)) ∨
      (rc.c = 3 ∧ want ops rc.a rc.o = some true ∧ st (evA rc.a) rc.h rc.o = some (rc.v, rc.h') ∧ rc.h' = h1))
    (t : TrOk P st N ops l (i + 1) k' a' h1 tr af hf Hs) : ∃ Hs', TrOk P st N ops (o :: l) i k a h (rc :: tr) af hf Hs' := by
  refine ⟨fun j => if j = k then h else Hs j, ?_⟩
  obtain ⟨p1, p2⟩ := putA_get hp
  have hk' : k ≤ k' := by rcases hE with ⟨_, e⟩ | ⟨_, e, _⟩ <;> omega
  have hsame : ∀ j, k' ≤ j → (if j = k then h else Hs j) = Hs j := by
    intro j hj
    by_cases c : j = k
    · rw [if_pos c]
      rcases hE with ⟨_, e⟩ | ⟨_, e, e2⟩
      · omega
      · rw [c, ← e, t.first, e2]
    · rw [if_neg c]
  have hfil : ((rc :: tr).filter isE) = if rc.c = 3 then rc :: tr.filter isE else tr.filter isE := by
    rw [List.filter_cons]
    by_cases c : rc.c = 3
    · rw [if_pos c, if_pos (by unfold isE; rw [c]; rfl)]
    · rw [if_neg c, if_neg]
      unfold isE
      intro hb
      exact c (Nat.eq_of_beq_eq_true hb)
  have memt : ∀ x, x ∈ tr → RcOk P st N ops (fun j => if j = k then h else Hs j) x := by
    intro x hx
    obtain ⟨q1, _, _, q4, q5, q6, q7⟩ := t.mem x hx
    refine ⟨by rw [q5]; exact (hsame _ q4).symm, q6, ?_⟩
    rcases q7 with q | q | ⟨r1, r2, r3, r4⟩
    · exact .inl q
    · exact .inr (.inl q)
    · exact .inr (.inr ⟨r1, r2, r3, by rw [r4]; exact (hsame _ (by omega)).symm⟩)
  constructor
  · exact if_pos rfl
  · rw [hfil]
    have hl := t.last
    rcases hE with ⟨c, e⟩ | ⟨c, e, e2⟩
    · rw [if_pos c, List.length_cons, show k + ((tr.filter isE).length + 1) = k' + (tr.filter isE).length by omega]
      exact (hsame _ (by omega)).trans hl
    · rw [if_neg c, ← e]
      have := (hsame (k' + (tr.filter isE).length) (by omega)).trans hl
      rw [e] at this ⊢
      exact this
  · intro m o' hm hF'
    cases m with
    | zero => simp at hm; subst hm; exact ⟨rc, List.mem_cons_self .., hi, ho⟩
    | succ m =>
      obtain ⟨x, q1, q2, q3⟩ := t.cover m o' (by simpa using hm) hF'
      exact ⟨x, List.mem_cons_of_mem _ q1, by omega, q3⟩
  · intro x hx
    rcases List.mem_cons.mp hx with hx | hx
    · subst hx
      refine ⟨by omega, ⟨0, by omega, by simp [ho]⟩, by rw [ho]; exact hF, by omega, ?_⟩
      refine ⟨by show _ = (if _ = k then h else _); rw [if_pos hk, hh], by rw [ho]; exact p1, ?_⟩
      rcases hrc with q | q | ⟨r1, r2, r3, r4⟩
      · exact .inl q
      · exact .inr (.inl q)
      · refine .inr (.inr ⟨r1, r2, r3, ?_⟩)
        rcases hE with ⟨_, e⟩ | ⟨c, _, _⟩
        · rw [r4, hk, ← e, ← t.first]; exact (hsame _ (Nat.le_refl _)).symm
        · exact absurd r1 c
    · obtain ⟨q1, ⟨m, q2, q3⟩, q4, q5, _⟩ := t.mem x hx
      exact ⟨by omega, ⟨m + 1, by omega, by simpa using q3⟩, q4, by omega, memt x hx⟩
  · intro x y hx hy hlt
    rcases List.mem_cons.mp hx with hx1 | hx1 <;> rcases List.mem_cons.mp hy with hy1 | hy1
    · rw [hx1, hy1] at hlt; omega
    · rw [hx1] at hlt ⊢
      obtain ⟨_, _, _, q5, _⟩ := t.mem y hy1
      refine ⟨by omega, fun c => ?_⟩
      rcases hE with ⟨_, e⟩ | ⟨c', _, _⟩
      · omega
      · exact absurd c c'
    · rw [hy1] at hlt
      obtain ⟨q1, _⟩ := t.mem x hx1
      omega
    · exact t.order x y hx1 hy1 hlt
  · intro x y hx hy he
    rcases List.mem_cons.mp hx with hx1 | hx1 <;> rcases List.mem_cons.mp hy with hy1 | hy1
    · rw [hx1, hy1]
    · rw [hx1] at he
      obtain ⟨q1, _⟩ := t.mem y hy1
      omega
    · rw [hy1] at he
      obtain ⟨q1, _⟩ := t.mem x hx1
      omega
    · exact t.inj x y hx1 hy1 he
  · intro j e he
    rw [hfil] at he
    rcases hE with ⟨c, e'⟩ | ⟨c, e', _⟩
    · rw [if_pos c] at he
      cases j with
      | zero => simp at he; subst he; omega
      | succ j => have := t.effs j e (by simpa using he); omega
    · rw [if_neg c] at he
      have := t.effs j e he; omega
  · intro x hx
    rw [hfil]
    rcases List.mem_cons.mp hx with hx | hx
    · subst hx; omega
    · have := t.kmax x hx
      rcases hE with ⟨c, e'⟩ | ⟨c, e', _⟩
      · rw [if_pos c, List.length_cons]; omega
      · rw [if_neg c]; omega
  · intro x hx tt u hu
    rcases List.mem_cons.mp hx with hx | hx
    · subst hx
      refine .inr ⟨by rw [← ha]; exact hu, fun y hy hlt => ?_⟩
      rcases List.mem_cons.mp hy with hy | hy
      · subst hy; omega
      · obtain ⟨q1, _⟩ := t.mem y hy; omega
    · obtain ⟨q1, _⟩ := t.mem x hx
      rcases t.slot x hx tt u hu with ⟨y, r1, r2, r3, r4⟩ | ⟨r1, r2⟩
      · exact .inl ⟨y, List.mem_cons_of_mem _ r1, r2, r3, r4⟩
      · rcases p2 tt u r1 with ⟨s1, s2⟩ | ⟨s1, s2⟩
        · exact .inl ⟨rc, List.mem_cons_self .., by omega, by rw [ho]; exact s1, s2⟩
        · refine .inr ⟨s2, fun y hy hlt => ?_⟩
          rcases List.mem_cons.mp hy with hy | hy
          · subst hy; rw [ho]; exact s1
          · exact r2 y hy hlt
  · intro tt u hu
    rcases t.fin tt u hu with ⟨y, r1, r2, r3⟩ | ⟨r1, r2⟩
    · exact .inl ⟨y, List.mem_cons_of_mem _ r1, r2, r3⟩
    · rcases p2 tt u r1 with ⟨s1, s2⟩ | ⟨s1, s2⟩
      · exact .inl ⟨rc, List.mem_cons_self .., by rw [ho]; exact s1, s2⟩
      · refine .inr ⟨s2, fun y hy => ?_⟩
        rcases List.mem_cons.mp hy with hy | hy
        · subst hy; rw [ho]; exact s1
        · exact r2 y hy
theorem TrOk.skipF {l : List Oper} {i k : Nat} {a : T V} {h : H} {tr : List Rc} {af : T V} {hf : H} {Hs : Nat → H} {o : Oper} (hF : isF ops o = true) (t : TrOk P st N ops l (i + 1) k a h tr af hf Hs) : TrOk P st N ops (o :: l) i k a h tr af hf Hs := by
  refine ⟨t.first, t.last, ?_, ?_, t.order, t.inj, t.effs, t.kmax, t.slot, t.fin⟩
  · intro m o' hm hF'
    cases m with
    | zero => simp at hm; subst hm; rw [hF] at hF'; cases hF'
    | succ m =>
      obtain ⟨x, q1, q2, q3⟩ := t.cover m o' (by simpa using hm) hF'
      exact ⟨x, q1, by omega, q3⟩
  · intro x hx
    obtain ⟨q1, ⟨m, q2, q3⟩, q4, q5, q6⟩ := t.mem x hx
    exact ⟨by omega, ⟨m + 1, by omega, by simpa using q3⟩, q4, q5, q6⟩
theorem cls_vals (P : Program) (o : Op) : cls P o = 1 ∨ cls P o = 2 ∨ cls P o = 3 := by
  unfold cls
  split
  · exact .inl rfl
  · exact .inr (.inl rfl)
  · split
    · exact .inl rfl
    · exact .inr (.inr rfl)
  · exact .inr (.inr rfl)
theorem consR'_some {rc : Rc} {x : Option (List Rc × T V × H)} {l : List Rc} {a : T V} {h : H} (he : consR' rc x = some (l, a, h)) : ∃ l', x = some (l', a, h) ∧ l = rc :: l' := by
  unfold consR' at he
  split at he
  · injection he with he; injection he with e1 e2; injection e2 with e2 e3
    subst e1; subst e2; subst e3
    exact ⟨_, rfl, rfl⟩
  · cases he
theorem trD_spec (hs : StG P st) : ∀ (l : List Oper) (i k : Nat) (a : T V) (h : H) (tr : List Rc) (af : T V) (hf : H), trD P st N ops l i k a h = some (tr, af, hf) → ∃ Hs, TrOk P st N ops l i k a h tr af hf Hs
  | [], i, k, a, h, tr, af, hf, he => by
    injection he with he; injection he with e1 e2; injection e2 with e2 e3
    subst e1; subst e2; subst e3
    exact ⟨fun _ => h, rfl, rfl, fun m o hm => (by simp at hm), fun _ hx => (by cases hx), fun _ _ hx => (by cases hx), fun _ _ hx => (by cases hx), fun j e hj => (by simp at hj), fun _ hx => (by cases hx), fun _ hx => (by cases hx), fun t u hu => .inr ⟨hu, fun _ hx => (by cases hx)⟩⟩
  | o :: l, i, k, a, h, tr, af, hf, he => by
    unfold trD at he
    split at he
    · rename_i hF
      obtain ⟨Hs, t⟩ := trD_spec hs l (i + 1) k a h tr af hf he
      exact ⟨Hs, t.skipF hF⟩
    · rename_i hF
      split at he
      · rename_i hw
        split at he
        · rename_i a' hp
          obtain ⟨l', h1, rfl⟩ := consR'_some he
          obtain ⟨Hs, t⟩ := trD_spec hs l (i + 1) k a' h l' af hf h1
          exact TrOk.cons (k' := k) (h1 := h) rfl rfl rfl rfl rfl hF hp (.inr ⟨by show (0 : Nat) ≠ 3; decide, rfl, rfl⟩) (.inl ⟨rfl, hw, rfl⟩) t
        · cases he
      · rename_i hw
        split at he
        · rename_i v h2 hst
          split at he
          · rename_i a' hp
            split at he
            · rename_i hc
              obtain ⟨l', h1, rfl⟩ := consR'_some he
              obtain ⟨Hs, t⟩ := trD_spec hs l (i + 1) (k + 1) a' h2 l' af hf h1
              exact TrOk.cons (k' := k + 1) (h1 := h2) rfl rfl rfl rfl rfl hF hp (.inl ⟨rfl, rfl⟩) (.inr (.inr ⟨rfl, hw, hst, rfl⟩)) t
            · rename_i hc
              have hne : cls P o.op ≠ 3 := fun e => hc e
              obtain rfl := hs.rd _ _ _ _ _ (fun _ => rfl) hne hst
              obtain ⟨l', h1, rfl⟩ := consR'_some he
              obtain ⟨Hs, t⟩ := trD_spec hs l (i + 1) k a' h2 l' af hf h1
              exact TrOk.cons (k' := k) (h1 := h2) rfl rfl rfl rfl rfl hF hp (.inr ⟨hne, rfl, rfl⟩) (.inr (.inl ⟨rfl, hne, hw, hst⟩)) t
          · cases he
        · cases he
      · cases he
end
end Go.Ev
/- A region whose order is drawn comes, in every order, to what the kernel reckoned in one. No condition but what each theorem says. -/
namespace Go.Ev
set_option linter.unusedVariables false
set_option linter.unusedSimpArgs false
open Go
theorem two_filter {α : Type} {f : α → Bool} : ∀ {l : List α} {i j : Nat} {x y : α}, l[i]? = some x → f x = true → l[j]? = some y → f y = true → i < j → 2 ≤ (l.filter f).length
  | [], i, j, x, y, h1, _, _, _, _ => by simp at h1
  | z :: l, i, j, x, y, h1, h2, h3, h4, hlt => by
    cases j with
    | zero => omega
    | succ j =>
      have h3 : l[j]? = some y := by simpa using h3
      cases i with
      | zero =>
        simp at h1; subst h1
        rw [List.filter_cons, if_pos h2, List.length_cons]
        have : y ∈ l.filter f := List.mem_filter.mpr ⟨List.mem_of_getElem? h3, h4⟩
        have := List.length_pos_of_mem this
        omega
      | succ i =>
        have := two_filter (l := l) (by simpa using h1) h2 h3 h4 (by omega)
        rw [List.filter_cons]
        split
        · rw [List.length_cons]; omega
        · exact this
section
variable {P : Program}
/-- A block that the run laid ahead of the machine, laid by the machine now. -/
theorem Step.link {ρ0 ρ : Env} {h0 h : H} {w0 w : World} (s : Step ρ0 h0 w0 ρ h w) {id : Nat} {o : O} {ob : Obj} {e : Ent} (hn : ρ id = none) (hg : h.t.get id = some o) (hid : h0.next ≤ id) (hlt : id < h.next) (hb : e.b = w.heap.size)
    (ho : ∀ ρ' : Env, ORel ρ' e o ob) : Step ρ0 h0 w0 (fun j => if j = id then some e else ρ j) h { w with heap := w.heap.push ob } ∧ Ext w.heap.size id ρ (fun j => if j = id then some e else ρ j) := by
  have x : Ext w.heap.size id ρ (fun j => if j = id then some e else ρ j) := Ext.one hn (Nat.le_refl _) (Nat.le_of_eq hb.symm)
  refine ⟨⟨s.ext.trans x s.size hid, ⟨?_, ?_, ?_⟩, s.os, s.tape, s.output, ?_, ?_, s.next, ?_⟩, x⟩
  · intro k e' he
    have he : (if k = id then some e else ρ k) = some e' := he
    by_cases hk : k = id
    · rw [if_pos hk] at he; injection he with he; subst he
      refine ⟨o, ob, by rw [hk]; exact hg, ?_, ho _⟩
      show (w.heap.push ob)[e.b]? = _
      rw [hb, Array.getElem?_push, if_pos rfl]
    · rw [if_neg hk] at he
      obtain ⟨o', ob', h1, h2, h3⟩ := s.rel.obj k e' he
      refine ⟨o', ob', h1, ?_, h3.ext x⟩
      show (w.heap.push ob)[e'.b]? = _
      rw [Array.getElem?_push, if_neg (Nat.ne_of_lt (s.rel.b_lt he))]; exact h2
  · intro k k' e1 e2 h1 h2 hbb
    have h1 : (if k = id then some e else ρ k) = some e1 := h1
    have h2 : (if k' = id then some e else ρ k') = some e2 := h2
    by_cases c1 : k = id <;> by_cases c2 : k' = id
    · rw [c1, c2]
    · rw [if_pos c1] at h1; rw [if_neg c2] at h2; injection h1 with h1; subst h1
      exact absurd (s.rel.b_lt h2) (by rw [← hbb, hb]; exact Nat.lt_irrefl _)
    · rw [if_neg c1] at h1; rw [if_pos c2] at h2; injection h2 with h2; subst h2
      exact absurd (s.rel.b_lt h1) (by rw [hbb, hb]; exact Nat.lt_irrefl _)
    · rw [if_neg c1] at h1; rw [if_neg c2] at h2; exact s.rel.inj _ _ _ _ h1 h2 hbb
  · intro k e' he
    have he : (if k = id then some e else ρ k) = some e' := he
    by_cases c : k = id
    · rw [c]; exact hlt
    · rw [if_neg c] at he; exact s.rel.lt _ _ he
  · show w0.heap.size ≤ (w.heap.push ob).size
    have := s.size
    simp; omega
  · intro b hb' hr
    have h1 := s.frame b hb' hr
    show (w.heap.push ob)[b]? = _
    have := s.size
    rw [Array.getElem?_push, if_neg (by omega)]; exact h1
  · exact s.own
/-- What is known of the variable made ahead of everything, if there is one. -/
structure FOk (P : Program) (N : Nat) (ops : Array Oper) (a0 a1 : T V) (h0 h1 : H) : Prop where
  one : ∀ (i i' : Nat) (o o' : Oper), ops[i]? = some o → isF ops o = true → ops[i']? = some o' → isF ops o' = true → i = i'
  form : ∀ (i : Nat) (o : Oper), ops[i]? = some o → isF ops o = true → ∃ ty z cv n d t, o.op = .alloc ty ∧ o.after.toList = [] ∧ o.guard = none ∧ (zeroValue ty = zeroValue ty) ∧ (∃ it, P.info? ty = some it ∧ it.zero = some z) ∧ constV z = some cv ∧ rowOf cv = some (n, d, t) ∧ h1 = h0.push (.cells ty 0 0 false n d t) ∧ ∀ d', o.dst = some d' → d' < N
  slot : ∀ t u, a1.get t = some u → (∃ (i : Nat) (o : Oper), ops[i]? = some o ∧ isF ops o = true ∧ o.dst = some t ∧ u = .ptr h0.next 0 0) ∨ (a0.get t = some u ∧ ∀ (i : Nat) (o : Oper), ops[i]? = some o → isF ops o = true → o.dst ≠ some t)
  next : h0.next ≤ h1.next
  own : ∀ k, k < h0.next → h1.t.get k = h0.t.get k
theorem runF_spec {st : St} (hs : StG P st) {N : Nat} {ops : Array Oper} {a0 a1 : T V} {h0 h1 : H} (he : runF st N ops a0 h0 = some (a1, h1)) : FOk P N ops a0 a1 h0 h1 := by
  have hmem : ∀ (i : Nat) (o : Oper), ops[i]? = some o → isF ops o = true → o ∈ ops.toList.filter (isF ops) := fun i o h1 h2 => List.mem_filter.mpr ⟨by have := Array.mem_of_getElem? h1; simpa using this, h2⟩
  unfold runF at he
  split at he
  · rename_i hf
    injection he with he; injection he with e1 e2
    subst e1; subst e2
    have hno : ∀ (i : Nat) (o : Oper), ops[i]? = some o → isF ops o = true → False := fun i o h1 h2 => by have := hmem i o h1 h2; rw [hf] at this; cases this
    exact ⟨fun i _ o _ h1 h2 => (hno i o h1 h2).elim, fun i o h1 h2 => (hno i o h1 h2).elim, fun t u hu => .inr ⟨hu, fun i o h1 h2 => (hno i o h1 h2).elim⟩, Nat.le_refl _, fun _ _ => rfl⟩
  · rename_i o0 hf
    split at he
    · rename_i v h' hst
      split at he
      · rename_i a' hp
        injection he with he; injection he with e1 e2
        subst e1; subst e2
        have h00 : o0 ∈ ops.toList.filter (isF ops) := by rw [hf]; exact List.mem_cons_self ..
        have hF0 := isF_0 (List.mem_filter.mp h00).2
        obtain ⟨ty, hop, haf, hgd⟩ : ∃ ty, o0.op = .alloc ty ∧ o0.after.toList = [] ∧ o0.guard = none := by
          unfold isF0 at hF0
          split at hF0
          · rename_i ty h1 h2 h3; exact ⟨ty, h1, h2, h3⟩
          · cases hF0
        have hal := hs.al _ _ _ _ _ ty hop hst
        unfold evAlloc at hal
        split at hal
        · rename_i it hit
          split at hal
          · rename_i z hz
            split at hal
            · rename_i cv hc
              unfold evNew at hal
              split at hal
              · rename_i n d t hr
                injection hal with hal; injection hal with e1 e2
                subst e1; subst e2
                obtain ⟨p1, p2⟩ := putA_get hp
                have same : ∀ (i : Nat) (o : Oper), ops[i]? = some o → isF ops o = true → o = o0 := fun i o h1 h2 => by
                  have := hmem i o h1 h2; rw [hf] at this; simpa using this
                have uniq : ∀ (i i' : Nat) (o o' : Oper), ops[i]? = some o → isF ops o = true → ops[i']? = some o' → isF ops o' = true → i = i' := by
                  intro i i' o o' h1 h2 h3 h4
                  rcases Nat.lt_trichotomy i i' with hlt | hlt | hlt
                  · exfalso
                    have := two_filter (f := isF ops) (l := ops.toList) (by rw [Array.getElem?_toList]; exact h1) h2 (by rw [Array.getElem?_toList]; exact h3) h4 hlt
                    rw [hf] at this; simp at this
                  · exact hlt
                  · exfalso
                    have := two_filter (f := isF ops) (l := ops.toList) (by rw [Array.getElem?_toList]; exact h3) h4 (by rw [Array.getElem?_toList]; exact h1) h2 hlt
                    rw [hf] at this; simp at this
                obtain ⟨i0, hi0⟩ := List.getElem?_of_mem (List.mem_filter.mp h00).1
                rw [Array.getElem?_toList] at hi0
                refine ⟨uniq, fun i o h1 h2 => ?_, fun t' u hu => ?_, Nat.le_succ _, fun k hk => ?_⟩
                · obtain rfl := same i o h1 h2
                  exact ⟨ty, z, cv, n, d, t, hop, haf, hgd, rfl, ⟨it, hit, hz⟩, hc, hr, rfl, p1⟩
                · rcases p2 t' u hu with ⟨q1, q2⟩ | ⟨q1, q2⟩
                  · exact .inl ⟨i0, o0, hi0, (List.mem_filter.mp h00).2, q1, q2⟩
                  · exact .inr ⟨q2, fun i o h1 h2 => by rw [same i o h1 h2]; exact q1⟩
                · show (h0.t.set h0.next _).get k = _
                  rw [T.get_set_ne _ _ (Nat.ne_of_gt hk)]
              · cases hal
            · cases hal
          · cases hal
        · cases hal
      · cases he
    · cases he
  · cases he
end
end Go.Ev
/- A region whose order is drawn comes, in every order, to what the kernel reckoned in one: the proof. No condition but what each theorem says. -/
namespace Go.Ev
set_option linter.unusedVariables false
set_option linter.unusedSimpArgs false
open Go
/-- How a region stands, some of whose operations were carried out. -/
structure Inv (P : Program) (N : Nat) (ops : Array Oper) (B : Nat → Nat) (W : T Nat) (tr : List Rc) (Hs : Nat → H) (a0 : T V) (h0 h1 : H) (ρ0 : Env) (w0 : World) (k : Nat) (ρ : Env) (listed : Array Bool) (act : Act) (w : World) : Prop where
  step : Step ρ0 h0 w0 ρ (Hs k) w
  kle : k ≤ (tr.filter isE).length
  effs : ∀ (j : Nat) (e : Rc), (tr.filter isE)[j]? = some e → (listed.getD e.i false = true ↔ j < k)
  defers : act.defers = []
  size : act.tmps.size = N
  s1 : ∀ x, x ∈ tr → listed.getD x.i false = true → ∀ t, x.o.dst = some t → VRel ρ x.v (act.tmps.getD t undef)
  s2 : ∀ (i : Nat) (o : Oper), ops[i]? = some o → isF ops o = true → listed.getD i false = true → ∀ t, o.dst = some t → VRel ρ (.ptr h0.next 0 0) (act.tmps.getD t undef)
  s3 : ∀ t u, a0.get t = some u → (∀ j, W.get t = some j → listed.getD j false = false) → VRel ρ u (act.tmps.getD t undef)
  gh : ∀ (i : Nat) (o : Oper), ops[i]? = some o → isF ops o = true → listed.getD i false = false → ρ h0.next = none ∧ (Hs k).t.get h0.next = h1.t.get h0.next ∧ h0.next < (Hs k).next
  down : ∀ i, listed.getD i false = true → i < ops.size ∧ ∀ x, bit (B i) x = true → listed.getD x false = true
  lsz : listed.size = ops.size
/-- What is known of a region. -/
structure Info (P : Program) (st : St) (N : Nat) (ops : Array Oper) (B : Nat → Nat) (W : T Nat) (tr : List Rc) (Hs : Nat → H) (a0 a1 af : T V) (h0 h1 hf : H) : Prop where
  g : StG P st
  W1 : ∀ (m : Nat) (o : Oper) (d : Nat), ops[m]? = some o → o.dst = some d → W.get d = some m
  W2 : ∀ d j, W.get d = some j → ∃ o, ops[j]? = some o ∧ o.dst = some d
  ok : ∀ (i : Nat) (o : Oper), ops[i]? = some o → opOk ops B W i o = true
  F : FOk P N ops a0 a1 h0 h1
  t : TrOk P st N ops ops.toList 0 0 a1 h1 tr af hf Hs
  chain : chainOk B (tr.filter isE) = true
  pairs : ∀ r, r ∈ tr → r.c = 2 → ∀ e, e ∈ tr → e.c = 3 → pairOk st B r e = true
section
variable {P : Program} {st : St} {N : Nat} {ops : Array Oper} {B : Nat → Nat} {W : T Nat} {tr : List Rc} {Hs : Nat → H} {a0 a1 af : T V} {h0 h1 hf : H} {ρ0 : Env} {w0 : World}
theorem getD_set {listed : Array Bool} {i : Nat} (hi : i < listed.size) (j : Nat) : (listed.setIfInBounds i true).getD j false = if i = j then true else listed.getD j false := by
  by_cases h : i = j
  · subst h
    simp [Array.getD_eq_getD_getElem?, hi]
  · rw [if_neg h]
    exact getD_set_ne false h
theorem getD_true_false {listed : Array Bool} {i : Nat} (hi : i < listed.size) : listed.getD i true = listed.getD i false := by
  simp [Array.getD_eq_getD_getElem?, Array.getElem?_eq_getElem hi]
variable (I : Info P st N ops B W tr Hs a0 a1 af h0 h1 hf)
include I
theorem Info.edges {i : Nat} {o : Oper} (ho : ops[i]? = some o) : (∀ e, e ∈ o.after.toList → Region.binds .any e = true → e.on < i) ∧ B i = edgeBits B o.after.toList ∧ ∀ t, t ∈ o.looksAt ops → tmpOk B W i t = true := by
  have h := I.ok i o ho
  unfold opOk at h
  simp only [Bool.and_eq_true, List.all_eq_true] at h
  obtain ⟨⟨h1, h2⟩, h3⟩ := h
  refine ⟨fun e he hb => ?_, Nat.eq_of_beq_eq_true h2, h3⟩
  have := h1 e he
  rw [hb] at this
  simpa [Nat.blt_eq] using this
/-- A ready operation's bits are all carried out. -/
theorem Info.bits {k : Nat} {ρ : Env} {listed : Array Bool} {act : Act} {w : World} (v : Inv P N ops B W tr Hs a0 h0 h1 ρ0 w0 k ρ listed act w) {i : Nat} {o : Oper} (ho : ops[i]? = some o) (hr : i ∈ Region.ready .any ops listed) :
    listed.getD i false = false ∧ ∀ x, bit (B i) x = true → listed.getD x false = true := by
  obtain ⟨h1, oj, h2, h3⟩ := mem_ready.mp hr
  have hi : i < ops.size := (Array.getElem?_eq_some_iff.mp ho).1
  rw [ho] at h2; injection h2 with h2; subst h2
  refine ⟨by rw [← getD_true_false (by rw [v.lsz]; exact hi)]; exact h1, fun x hx => ?_⟩
  rw [(I.edges ho).2.1] at hx
  obtain ⟨e, q1, q2, q3⟩ := edgeBits_spec hx
  have hl := h3 e (by simpa using q1) q2
  rcases q3 with q3 | q3
  · rw [← q3]; exact hl
  · exact (v.down _ hl).2 x q3
/-- What an operation looks at stands. -/
theorem Info.looks {k : Nat} {ρ : Env} {listed : Array Bool} {act : Act} {w : World} (v : Inv P N ops B W tr Hs a0 h0 h1 ρ0 w0 k ρ listed act w) {rc : Rc} (hrc : rc ∈ tr) (ho : ops[rc.i]? = some rc.o) (hu : listed.getD rc.i false = false) (hb : ∀ x, bit (B rc.i) x = true → listed.getD x false = true)
    {t : Nat} (ht : t ∈ rc.o.looksAt ops) {u : V} (hg : rc.a.get t = some u) : VRel ρ u (act.tmps.getD t undef) := by
  have htk := (I.edges ho).2.2 t ht
  have hopx : ∀ x, x ∈ tr → ops[x.i]? = some x.o := fun x hx => by
    obtain ⟨_, ⟨m, q2, q3⟩, _⟩ := I.t.mem x hx
    rw [q2, Nat.zero_add, ← Array.getElem?_toList]; exact q3
  rcases I.t.slot rc hrc t u hg with ⟨x, q1, q2, q3, rfl⟩ | ⟨q1, q2⟩
  · rcases tmpOk_spec htk (I.W1 _ _ _ (hopx x q1) q3) with ⟨_, r2⟩ | ⟨r1, _⟩
    · exact v.s1 x q1 (hb _ r2) t q3
    · omega
  · rcases I.F.slot t u q1 with ⟨fi, fo, p1, p2, p3, rfl⟩ | ⟨p1, p2⟩
    · rcases tmpOk_spec htk (I.W1 _ _ _ p1 p3) with ⟨_, r2⟩ | ⟨r1, r2⟩
      · exact v.s2 fi fo p1 p2 (hb _ r2) t p3
      · exfalso
        obtain ⟨_, _, _, _, _, _, _, haf, _⟩ := I.F.form fi fo p1 p2
        rw [(I.edges p1).2.1, haf] at r2
        simp [edgeBits, bit] at r2
    · refine v.s3 t u p1 fun j hj => ?_
      obtain ⟨oj, hoj, hdj⟩ := I.W2 t j hj
      rcases tmpOk_spec htk hj with ⟨r1, _⟩ | ⟨_, r2⟩
      · exfalso
        cases hF : isF ops oj with
        | true => exact p2 j oj hoj hF hdj
        | false =>
          obtain ⟨x, x1, x2, x3⟩ := I.t.cover j oj (by rw [Array.getElem?_toList]; exact hoj) hF
          exact q2 x x1 (by omega) (by rw [x3]; exact hdj)
      · cases hl : listed.getD j false with
        | false => rfl
        | true =>
          have := (v.down j hl).2 _ r2
          rw [hu] at this; cases this
theorem Info.op {x : Rc} (hx : x ∈ tr) : ops[x.i]? = some x.o := by
  obtain ⟨_, ⟨m, q2, q3⟩, _⟩ := I.t.mem x hx
  rw [q2, Nat.zero_add, ← Array.getElem?_toList]; exact q3
/-- The state behind one more operation, but that which makes the variable. -/
theorem Info.after {k k' : Nat} {ρ ρ' : Env} {listed : Array Bool} {act : Act} {w w' : World} (v : Inv P N ops B W tr Hs a0 h0 h1 ρ0 w0 k ρ listed act w) {rc : Rc} (hrc : rc ∈ tr) (hu : listed.getD rc.i false = false) (hb : ∀ x, bit (B rc.i) x = true → listed.getD x false = true)
    {q : Value} (hs : Step ρ (Hs k) w ρ' (Hs k') w') (hq : VRel ρ' rc.v q) (hk : (rc.c = 3 ∧ k' = k + 1 ∧ rc.k = k) ∨ (rc.c ≠ 3 ∧ k' = k)) :
    Inv P N ops B W tr Hs a0 h0 h1 ρ0 w0 k' ρ' (listed.setIfInBounds rc.i true) (act.put rc.o.dst q) w' := by
  have hop := I.op hrc
  have hi : rc.i < ops.size := (Array.getElem?_eq_some_iff.mp hop).1
  have hil : rc.i < listed.size := by rw [v.lsz]; exact hi
  have hdb : ∀ d, rc.o.dst = some d → d < N := (I.t.mem rc hrc).2.2.2.2.2.1
  have put_same : ∀ t, rc.o.dst = some t → (act.put rc.o.dst q).tmps.getD t undef = q := by
    intro t ht
    rw [ht]
    simp only [Act.put, Array.getD_eq_getD_getElem?, Array.getElem?_setIfInBounds, if_true]
    rw [if_pos (by rw [v.size]; exact hdb t ht)]
    rfl
  have put_ne : ∀ t, rc.o.dst ≠ some t → (act.put rc.o.dst q).tmps.getD t undef = act.tmps.getD t undef := by
    intro t ht
    cases hd : rc.o.dst with
    | none => rfl
    | some d =>
      have hne : d ≠ t := fun e => ht (by rw [hd, e])
      simp only [Act.put, Array.getD_eq_getD_getElem?, Array.getElem?_setIfInBounds, if_neg hne]
  have eff_of : ∀ e, e ∈ tr → e.c = 3 → ∃ j, (tr.filter isE)[j]? = some e ∧ e.k = j := by
    intro e he hc
    obtain ⟨j, hj⟩ := List.getElem?_of_mem (List.mem_filter.mpr ⟨he, by unfold isE; rw [hc]; rfl⟩ : e ∈ tr.filter isE)
    exact ⟨j, hj, by have := I.t.effs j e hj; omega⟩
  refine ⟨v.step.trans hs, ?_, ?_, ?_, ?_, ?_, ?_, ?_, ?_, ?_, by simp [v.lsz]⟩
  · rcases hk with ⟨c, rfl, c2⟩ | ⟨_, rfl⟩
    · obtain ⟨j, hj, hjk⟩ := eff_of rc hrc c
      have := (List.getElem?_eq_some_iff.mp hj).1
      omega
    · exact v.kle
  · intro j e he
    have hem : e ∈ tr := (List.mem_filter.mp (List.mem_of_getElem? he)).1
    have hec : e.c = 3 := by have := (List.mem_filter.mp (List.mem_of_getElem? he)).2; exact Nat.eq_of_beq_eq_true this
    have hek : e.k = j := by have := I.t.effs j e he; omega
    rw [getD_set hil]
    by_cases c : rc.i = e.i
    · rw [if_pos c]
      have hre : rc = e := I.t.inj rc e hrc hem c
      subst hre
      rcases hk with ⟨_, rfl, c2⟩ | ⟨c1, _⟩
      · simp; omega
      · exact absurd hec c1
    · rw [if_neg c]
      rcases hk with ⟨c1, rfl, c2⟩ | ⟨_, rfl⟩
      · rw [v.effs j e he]
        constructor
        · intro h; omega
        · intro h
          have : j ≠ k := by
            intro e1
            obtain ⟨j', hj', hjk'⟩ := eff_of rc hrc c1
            have : j' = j := by omega
            rw [this, he] at hj'
            injection hj' with hj'
            exact c (by rw [hj'])
          omega
      · exact v.effs j e he
  · cases hd : rc.o.dst with
    | none => exact v.defers
    | some d => exact v.defers
  · cases hd : rc.o.dst with
    | none => exact v.size
    | some d => simp [Act.put, v.size]
  · intro x hx hl t ht
    rw [getD_set hil] at hl
    by_cases c : rc.i = x.i
    · have := I.t.inj rc x hrc hx c
      subst this
      rw [put_same t ht]; exact hq
    · rw [if_neg c] at hl
      rw [put_ne t]
      · exact (v.s1 x hx hl t ht).ext hs.ext
      · intro e
        have e1 := I.W1 _ _ _ hop e
        have e2 := I.W1 _ _ _ (I.op hx) ht
        rw [e1] at e2; injection e2 with e2; exact c e2
  · intro i o ho hF hl t ht
    rw [getD_set hil] at hl
    have hne : rc.i ≠ i := by
      intro e
      rw [← e, hop] at ho; injection ho with ho
      have := (I.t.mem rc hrc).2.2.1
      rw [ho, hF] at this; cases this
    rw [if_neg hne] at hl
    rw [put_ne t]
    · exact (v.s2 i o ho hF hl t ht).ext hs.ext
    · intro e
      have e1 := I.W1 _ _ _ hop e
      have e2 := I.W1 _ _ _ ho ht
      rw [e1] at e2; injection e2 with e2; exact hne e2
  · intro t u hu' hno
    have hno' : ∀ j, W.get t = some j → listed.getD j false = false := by
      intro j hj
      have := hno j hj
      rw [getD_set hil] at this
      by_cases c : rc.i = j
      · rw [if_pos c] at this; cases this
      · rw [if_neg c] at this; exact this
    rw [put_ne t]
    · exact (v.s3 t u hu' hno').ext hs.ext
    · intro e
      have := hno _ (I.W1 _ _ _ hop e)
      rw [getD_set hil, if_pos rfl] at this; cases this
  · intro i o ho hF hl
    rw [getD_set hil] at hl
    by_cases c : rc.i = i
    · rw [if_pos c] at hl; cases hl
    · rw [if_neg c] at hl
      obtain ⟨g1, g2, hlt⟩ := v.gh i o ho hF hl
      refine ⟨?_, ?_, Nat.lt_of_lt_of_le hlt hs.next⟩
      · cases hn : ρ' h0.next with
        | none => rfl
        | some e =>
          rcases hs.ext.new _ _ hn with ⟨e', he', _⟩ | ⟨_, h2, _⟩
          · rw [g1] at he'; cases he'
          · omega
      · rw [hs.own _ hlt g1]; exact g2
  · intro i hl
    rw [getD_set hil] at hl
    by_cases c : rc.i = i
    · rw [← c]
      refine ⟨hi, fun x hx => ?_⟩
      rw [getD_set hil]
      by_cases c2 : rc.i = x
      · rw [if_pos c2]
      · rw [if_neg c2]; exact hb x hx
    · rw [if_neg c] at hl
      obtain ⟨d1, d2⟩ := v.down i hl
      refine ⟨d1, fun x hx => ?_⟩
      rw [getD_set hil]
      by_cases c2 : rc.i = x
      · rw [if_pos c2]
      · rw [if_neg c2]; exact d2 x hx
end
end Go.Ev
/- A region whose order is drawn comes, in every order, to what the kernel reckoned in one: the end of the proof. No condition but what each theorem says. -/
namespace Go.Ev
set_option linter.unusedVariables false
set_option linter.unusedSimpArgs false
open Go
theorem looks_tmp {ops : Array Oper} {o : Oper} {t : Nat} (h : Operand.tmp t ∈ o.op.operands) : t ∈ o.looksAt ops :=
  List.mem_append_left _ (List.mem_filterMap.2 ⟨.tmp t, by simpa using h, rfl⟩)
theorem countP_lt {α : Type} {p q : α → Bool} (hpq : ∀ x, q x = true → p x = true) : ∀ {l : List α} {x : α}, x ∈ l → p x = true → q x = false → l.countP q < l.countP p
  | y :: l, x, hx, hp, hq => by
    rw [List.countP_cons, List.countP_cons]
    have hle : l.countP q ≤ l.countP p := List.countP_mono_left fun z _ hz => hpq z hz
    rcases List.mem_cons.mp hx with h | h
    · subst h
      rw [if_pos hp, if_neg (by rw [hq]; exact Bool.false_ne_true)]; omega
    · have := countP_lt hpq h hp hq
      by_cases c : q y = true
      · rw [if_pos c, if_pos (hpq y c)]; omega
      · rw [if_neg c]; split <;> omega
section
variable {P : Program} {st : St} {N : Nat} {ops : Array Oper} {B : Nat → Nat} {W : T Nat} {tr : List Rc} {Hs : Nat → H} {a0 a1 af : T V} {h0 h1 hf : H} {ρ0 : Env} {w0 : World}
variable (I : Info P st N ops B W tr Hs a0 a1 af h0 h1 hf)
include I
theorem Info.eff {j : Nat} {e : Rc} (he : (tr.filter isE)[j]? = some e) : e ∈ tr ∧ e.c = 3 ∧ e.k = j := by
  refine ⟨(List.mem_filter.mp (List.mem_of_getElem? he)).1, ?_, ?_⟩
  · have := (List.mem_filter.mp (List.mem_of_getElem? he)).2; exact Nat.eq_of_beq_eq_true this
  · have := I.t.effs j e he; omega
/-- The effects ahead of one whose bits are carried out are carried out. -/
theorem Info.ahead {k : Nat} {ρ : Env} {listed : Array Bool} {act : Act} {w : World} (v : Inv P N ops B W tr Hs a0 h0 h1 ρ0 w0 k ρ listed act w) : ∀ (j : Nat) (e : Rc), (tr.filter isE)[j]? = some e → (∀ x, bit (B e.i) x = true → listed.getD x false = true) → ∀ j', j' < j → ∀ e', (tr.filter isE)[j']? = some e' → listed.getD e'.i false = true
  | 0, _, _, _, j', h, _, _ => absurd h (Nat.not_lt_zero _)
  | j + 1, e, he, hb, j', hlt, e', he' => by
    have hj : j < (tr.filter isE).length := by have := (List.getElem?_eq_some_iff.mp he).1; omega
    have hp : (tr.filter isE)[j]? = some (tr.filter isE)[j] := List.getElem?_eq_getElem hj
    have hl := hb _ (chainOk_spec _ I.chain j _ e hp he)
    by_cases c : j' = j
    · subst c
      rw [hp] at he'; injection he' with he'; rw [← he']; exact hl
    · exact Info.ahead v j _ hp (v.down _ hl).2 j' (by omega) e' he'
/-- An operation that only reads comes to the same wherever it is carried out. -/
theorem Info.stage {k : Nat} {ρ : Env} {listed : Array Bool} {act : Act} {w : World} (v : Inv P N ops B W tr Hs a0 h0 h1 ρ0 w0 k ρ listed act w) {rc : Rc} (hrc : rc ∈ tr) (hu : listed.getD rc.i false = false) (hb : ∀ x, bit (B rc.i) x = true → listed.getD x false = true)
    (hc : rc.c = cls P rc.o.op) (h3 : rc.c ≠ 3) (hst : st (evA rc.a) rc.h rc.o = some (rc.v, rc.h)) : ∃ v2, st (evA rc.a) (Hs k) rc.o = some (v2, Hs k) ∧ ∀ (ρ : Env) (c : Value), VRel ρ v2 c → VRel ρ rc.v c := by
  have hrh : rc.h = Hs rc.k := (I.t.mem rc hrc).2.2.2.2.1
  rcases cls_vals P rc.o.op with c1 | c1 | c1
  · exact ⟨rc.v, I.g.pu _ _ _ _ _ (fun _ => rfl) c1 hst _, fun _ _ h => h⟩
  · have hc2 : rc.c = 2 := hc.trans c1
    have same : ∀ h2, sameAt st rc h2 = true → ∃ v2, st (evA rc.a) h2 rc.o = some (v2, h2) ∧ ∀ (ρ : Env) (c : Value), VRel ρ v2 c → VRel ρ rc.v c := by
      intro h2 hs
      unfold sameAt at hs
      split at hs
      · rename_i v2 h3' hst2
        obtain rfl := I.g.rd _ _ _ _ _ (fun _ => rfl) (by rw [c1]; decide) hst2
        exact ⟨v2, hst2, fun _ _ h => eqW_rel hs h⟩
      · cases hs
    rcases Nat.lt_trichotomy rc.k k with hlt | heq | hgt
    · obtain ⟨e, he⟩ : ∃ e, (tr.filter isE)[k - 1]? = some e := ⟨_, List.getElem?_eq_getElem (by have := v.kle; omega)⟩
      obtain ⟨e1, e2, e3⟩ := I.eff he
      have hel : listed.getD e.i false = true := (v.effs _ e he).mpr (by omega)
      have hp := I.pairs rc hrc hc2 e e1 e2
      have hlt2 : rc.i < e.i := by
        rcases Nat.lt_trichotomy rc.i e.i with h | h | h
        · exact h
        · have := I.t.inj rc e hrc e1 h; rw [this, e2] at hc2; omega
        · have := (I.t.order e rc e1 hrc h).2 e2; omega
      unfold pairOk at hp
      split at hp
      · rename_i hb2; have : e.i < rc.i := by simpa [Nat.blt_eq] using hb2
        omega
      · split at hp
        · rename_i hbit
          have := (v.down _ hel).2 _ hbit
          rw [hu] at this; cases this
        · have heh : e.h' = Hs k := by
            obtain ⟨_, _, _, _, _, _, q⟩ := I.t.mem e e1
            rcases q with ⟨q, _⟩ | ⟨_, q, _⟩ | ⟨_, _, _, q⟩
            · rw [e2] at q; cases q
            · exact absurd e2 q
            · rw [q, e3]; congr 1; omega
          rw [heh] at hp
          exact same _ hp
    · rw [← heq, ← hrh]; exact ⟨rc.v, hst, fun _ _ h => h⟩
    · obtain ⟨e, he⟩ : ∃ e, (tr.filter isE)[k]? = some e := ⟨_, List.getElem?_eq_getElem (by have := I.t.kmax rc hrc; omega)⟩
      obtain ⟨e1, e2, e3⟩ := I.eff he
      have hel : listed.getD e.i false = false := by
        cases hl : listed.getD e.i false with
        | false => rfl
        | true => have := (v.effs _ e he).mp hl; omega
      have hp := I.pairs rc hrc hc2 e e1 e2
      have hlt2 : e.i < rc.i := by
        rcases Nat.lt_trichotomy e.i rc.i with h | h | h
        · exact h
        · have := I.t.inj e rc e1 hrc h; rw [← this, e2] at hc2; omega
        · have := (I.t.order rc e hrc e1 h).1; omega
      unfold pairOk at hp
      split at hp
      · split at hp
        · rename_i hbit
          have := hb _ hbit
          rw [hel] at this; cases this
        · have heh : e.h = Hs k := by rw [(I.t.mem e e1).2.2.2.2.1, e3]
          rw [heh] at hp
          exact same _ hp
      · rename_i hb2
        have : ¬ e.i < rc.i := fun h => by
          have h' : Nat.blt e.i rc.i = true := by rw [Nat.blt_eq]; exact h
          rw [h'] at hb2; cases hb2
        omega
  · exact absurd (hc.trans c1) h3
theorem Info.evs {k : Nat} {ρ : Env} {listed : Array Bool} {act : Act} {w : World} (v : Inv P N ops B W tr Hs a0 h0 h1 ρ0 w0 k ρ listed act w) {rc : Rc} (hrc : rc ∈ tr) (hu : listed.getD rc.i false = false) (hb : ∀ x, bit (B rc.i) x = true → listed.getD x false = true) :
    ∀ x, x ∈ rc.o.op.operands → ∀ u, evA rc.a x = some u → VRel ρ u (act.eval x) := by
  intro x hx u hu'
  cases x with
  | tmp t => exact I.looks v hrc (I.op hrc) hu hb (looks_tmp hx) hu'
  | const c => exact constV_rel hu'
  | func f =>
    have hu' : some (V.func f []) = some u := hu'
    injection hu' with hu'; subst hu'
    exact .func rfl fun i v c hv _ => by simp at hv
  | global g => cases hu'
/-- One more operation, but that which makes the variable. -/
theorem Info.one {k : Nat} {ρ : Env} {listed : Array Bool} {act : Act} {w : World} (v : Inv P N ops B W tr Hs a0 h0 h1 ρ0 w0 k ρ listed act w) {rc : Rc} (hrc : rc ∈ tr) (hu : listed.getD rc.i false = false) (hb : ∀ x, bit (B rc.i) x = true → listed.getD x false = true)
    {K : Act → World → Prop} {Q : Exit → Act → World → Prop} (hK : ∀ k' ρ' act' w', Inv P N ops B W tr Hs a0 h0 h1 ρ0 w0 k' ρ' (listed.setIfInBounds rc.i true) act' w' → K act' w') : wpOp P ops Q rc.i K act w := by
  have hwant : ∀ b, want ops rc.a rc.o = some b → Region.wanted rc.o (yielded ops act.tmps) = b := by
    intro b hw
    refine want_sound' (fun t u hg hget => I.looks v hrc (I.op hrc) hu hb ?_ hget) hw
    obtain ⟨j, wn, hg, hd⟩ := hg
    unfold Oper.looksAt
    rw [hg]
    exact List.mem_append_right _ (by simp [hd])
  unfold wpOp
  rw [I.op hrc]
  simp only
  obtain ⟨_, _, _, _, hrh, _, q⟩ := I.t.mem rc hrc
  rcases q with ⟨c0, hw, hv⟩ | ⟨hc, h3, hw, hst⟩ | ⟨c3, hw, hst, hh'⟩
  · rw [hwant _ hw]
    simp only [Bool.false_eq_true, if_false]
    exact hK k ρ _ w (I.after v hrc hu hb (Step.refl v.step.rel) (by rw [hv]; exact undef_rel) (.inr ⟨by rw [c0]; decide, rfl⟩))
  · rw [hwant _ hw, if_pos rfl]
    obtain ⟨v2, hst2, hv2⟩ := I.stage v hrc hu hb hc h3 hst
    exact .inl (I.g.ok _ _ _ _ _ hst2 ρ w act v.step.rel v.defers (I.evs v hrc hu hb) K Q fun ρ' w' q hs hq => hK k ρ' _ w' (I.after v hrc hu hb hs (hv2 _ _ hq) (.inr ⟨h3, rfl⟩)))
  · rw [hwant _ hw, if_pos rfl]
    obtain ⟨j, hj⟩ := List.getElem?_of_mem (List.mem_filter.mpr ⟨hrc, by unfold isE; rw [c3]; rfl⟩ : rc ∈ tr.filter isE)
    obtain ⟨_, _, hjk⟩ := I.eff hj
    have hkk : rc.k = k := by
      have h1 : ¬ j < k := fun h => by have := (v.effs j rc hj).mpr h; rw [hu] at this; cases this
      rcases Nat.lt_or_ge k j with h2 | h2
      · exfalso
        have hkl : k < (tr.filter isE).length := by have := (List.getElem?_eq_some_iff.mp hj).1; omega
        have hl := I.ahead v j rc hj hb k h2 _ (List.getElem?_eq_getElem hkl)
        have := (v.effs k _ (List.getElem?_eq_getElem hkl)).mp hl
        omega
      · omega
    rw [hrh, hkk, hh', hkk] at hst
    exact .inl (I.g.ok _ _ _ _ _ hst ρ w act v.step.rel v.defers (I.evs v hrc hu hb) K Q fun ρ' w' q hs hq => hK (k + 1) ρ' _ w' (I.after v hrc hu hb hs hq (.inl ⟨c3, rfl, hkk⟩)))
/-- The variable that is made ahead of everything, made now. -/
theorem Info.var {k : Nat} {ρ : Env} {listed : Array Bool} {act : Act} {w : World} (v : Inv P N ops B W tr Hs a0 h0 h1 ρ0 w0 k ρ listed act w) {i : Nat} {o : Oper} (ho : ops[i]? = some o) (hF : isF ops o = true) (hu : listed.getD i false = false) (hb : ∀ x, bit (B i) x = true → listed.getD x false = true)
    {K : Act → World → Prop} {Q : Exit → Act → World → Prop} (hK : ∀ k' ρ' act' w', Inv P N ops B W tr Hs a0 h0 h1 ρ0 w0 k' ρ' (listed.setIfInBounds i true) act' w' → K act' w') : wpOp P ops Q i K act w := by
  obtain ⟨ty, z, cv, n, d, t, hop, haf, hgd, _, ⟨it, hit, hz⟩, hcv, hrow, hh1, hdb⟩ := I.F.form i o ho hF
  obtain ⟨g1, g2, g3⟩ := v.gh i o ho hF hu
  have hi : i < ops.size := (Array.getElem?_eq_some_iff.mp ho).1
  have hil : i < listed.size := by rw [v.lsz]; exact hi
  unfold wpOp
  rw [ho]
  simp only
  have hw : Region.wanted o (yielded ops act.tmps) = true := by unfold Region.wanted; rw [hgd]
  rw [hw, if_pos rfl]
  refine .inl ?_
  have hrun : (execOp act.eval o).run P w = .ok (.value (.pointer (some ⟨w.heap.size, 0, none⟩))) { w with heap := w.heap.push (.cells z.cells ty) } := by
    unfold execOp
    rw [hop]
    dsimp only
    have hzv : (zeroValue ty).run P w = .ok z w := by simp [zeroValue, typeInfo, hit, hz]
    simp [Instr.alloc, hzv, newVar, newRow]
  unfold Oper.wp
  rw [hrun]
  have hget : (Hs k).t.get h0.next = some (.cells ty 0 0 false n d t) := by rw [g2, hh1]; exact T.get_set_same _ _ _
  obtain ⟨hs, hx⟩ := Step.link (e := ⟨w.heap.size, 0, 0, n, 0, false⟩) (ob := .cells z.cells ty) v.step g1 hget (Nat.le_refl _) g3 rfl (fun ρ' => by
    obtain ⟨r1, r2⟩ := rowOf_rel (ρ := ρ') (constV_rel hcv) hrow
    refine ⟨rfl, rfl, rfl, z.cells, (0, 0), rfl, by rw [r1]; exact (Nat.zero_add _).symm, Nat.le_refl _, fun i hi hf => absurd hf.2 (Nat.not_lt_zero _), fun i hi => ?_⟩
    obtain ⟨u, y, q1, q2, q3⟩ := r2 i hi
    exact ⟨u, y, q1, by rw [Nat.zero_add]; exact q2, q3⟩)
  show K (act.put o.dst (.pointer (some ⟨w.heap.size, 0, none⟩))) { w with heap := w.heap.push (.cells z.cells ty) }
  refine hK k (fun j => if j = h0.next then some ⟨w.heap.size, 0, 0, n, 0, false⟩ else ρ j) _ _ ?_
  have put_same : ∀ t', o.dst = some t' → (act.put o.dst (.pointer (some ⟨w.heap.size, 0, none⟩))).tmps.getD t' undef = .pointer (some ⟨w.heap.size, 0, none⟩) := by
    intro t' ht
    rw [ht]
    simp only [Act.put, Array.getD_eq_getD_getElem?, Array.getElem?_setIfInBounds, if_true]
    rw [if_pos (by rw [v.size]; exact hdb t' ht)]
    rfl
  have put_ne : ∀ t', o.dst ≠ some t' → (act.put o.dst (.pointer (some ⟨w.heap.size, 0, none⟩))).tmps.getD t' undef = act.tmps.getD t' undef := by
    intro t' ht
    cases hd : o.dst with
    | none => rfl
    | some d' =>
      have hne : d' ≠ t' := fun e => ht (by rw [hd, e])
      simp only [Act.put, Array.getD_eq_getD_getElem?, Array.getElem?_setIfInBounds, if_neg hne]
  have hno : ∀ x, x ∈ tr → x.i ≠ i := by
    intro x hx e
    have h2 := I.op hx
    rw [e, ho] at h2; injection h2 with h2
    have := (I.t.mem x hx).2.2.1
    rw [← h2, hF] at this; cases this
  refine ⟨hs, v.kle, ?_, ?_, ?_, ?_, ?_, ?_, ?_, ?_, by simp [v.lsz]⟩
  · intro j e he
    rw [getD_set hil, if_neg (Ne.symm (hno e (I.eff he).1))]
    exact v.effs j e he
  · cases hd : o.dst with
    | none => exact v.defers
    | some d => exact v.defers
  · cases hd : o.dst with
    | none => exact v.size
    | some d => simp [Act.put, v.size]
  · intro x hx' hl t' ht
    rw [getD_set hil, if_neg (Ne.symm (hno x hx'))] at hl
    rw [put_ne t']
    · exact (v.s1 x hx' hl t' ht).ext hx
    · intro e
      have e1 := I.W1 _ _ _ ho e
      have e2 := I.W1 _ _ _ (I.op hx') ht
      rw [e1] at e2; injection e2 with e2; exact hno x hx' e2.symm
  · intro i' o' ho' hF' hl t' ht
    have hii := I.F.one i i' o o' ho hF ho' hF'
    subst hii
    rw [ho] at ho'; injection ho' with ho'; subst ho'
    rw [put_same t' ht]
    exact VRel.ptr (e := ⟨w.heap.size, 0, 0, n, 0, false⟩) (if_pos rfl) rfl
  · intro t' u hu' hnw
    have hno' : ∀ j, W.get t' = some j → listed.getD j false = false := by
      intro j hj
      have := hnw j hj
      rw [getD_set hil] at this
      by_cases c : i = j
      · rw [if_pos c] at this; cases this
      · rw [if_neg c] at this; exact this
    rw [put_ne t']
    · exact (v.s3 t' u hu' hno').ext hx
    · intro e
      have := hnw _ (I.W1 _ _ _ ho e)
      rw [getD_set hil, if_pos rfl] at this; cases this
  · intro i' o' ho' hF' hl
    have hii := I.F.one i i' o o' ho hF ho' hF'
    subst hii
    rw [getD_set hil, if_pos rfl] at hl; cases hl
  · intro i' hl
    rw [getD_set hil] at hl
    by_cases c : i = i'
    · rw [← c]
      refine ⟨hi, fun x hx' => ?_⟩
      rw [getD_set hil]
      by_cases c2 : i = x
      · rw [if_pos c2]
      · rw [if_neg c2]; exact hb x hx'
    · rw [if_neg c] at hl
      obtain ⟨d1, d2⟩ := v.down i' hl
      refine ⟨d1, fun x hx' => ?_⟩
      rw [getD_set hil]
      by_cases c2 : i = x
      · rw [if_pos c2]
      · rw [if_neg c2]; exact d2 x hx'
/-- All were carried out. -/
theorem Info.done {k : Nat} {ρ : Env} {listed : Array Bool} {act : Act} {w : World} (v : Inv P N ops B W tr Hs a0 h0 h1 ρ0 w0 k ρ listed act w) (hall : ∀ i, i < ops.size → listed.getD i false = true) : Step ρ0 h0 w0 ρ hf w ∧ ARel ρ N af act := by
  have hlt : ∀ x, x ∈ tr → x.i < ops.size := fun x hx => (Array.getElem?_eq_some_iff.mp (I.op hx)).1
  have hk : k = (tr.filter isE).length := by
    rcases Nat.lt_or_ge k (tr.filter isE).length with h | h
    · exfalso
      have he : (tr.filter isE)[k]? = some (tr.filter isE)[k] := List.getElem?_eq_getElem h
      have := (v.effs k _ he).mp (hall _ (hlt _ (I.eff he).1))
      omega
    · exact Nat.le_antisymm v.kle h
  have hlast := I.t.last
  rw [Nat.zero_add, ← hk] at hlast
  refine ⟨by rw [← hlast]; exact v.step, v.defers, v.size, fun t u hu => ?_⟩
  rcases I.t.fin t u hu with ⟨x, q1, q2, rfl⟩ | ⟨q1, q2⟩
  · exact v.s1 x q1 (hall _ (hlt x q1)) t q2
  · rcases I.F.slot t u q1 with ⟨fi, fo, p1, p2, p3, rfl⟩ | ⟨p1, p2⟩
    · exact v.s2 fi fo p1 p2 (hall _ (Array.getElem?_eq_some_iff.mp p1).1) t p3
    · refine v.s3 t u p1 fun j hj => ?_
      exfalso
      obtain ⟨oj, hoj, hdj⟩ := I.W2 t j hj
      cases hF : isF ops oj with
      | true => exact p2 j oj hoj hF hdj
      | false =>
        obtain ⟨x, x1, x2, x3⟩ := I.t.cover j oj (by rw [Array.getElem?_toList]; exact hoj) hF
        exact q2 x x1 (by rw [x3]; exact hdj)
theorem Info.main {Q : Exit → Act → World → Prop} (hQ : ∀ ρ' w' act', Step ρ0 h0 w0 ρ' hf w' → ARel ρ' N af act' → Q .normal act' w') : ∀ (fuel : Nat) (k : Nat) (ρ : Env) (listed : Array Bool) (act : Act) (w : World), Inv P N ops B W tr Hs a0 h0 h1 ρ0 w0 k ρ listed act w → (List.range ops.size).countP (fun j => !listed.getD j false) ≤ fuel → wpAny P .any ops Q fuel listed act w := by
  intro fuel
  have fin : ∀ (k : Nat) (ρ : Env) (listed : Array Bool) (act : Act) (w : World), Inv P N ops B W tr Hs a0 h0 h1 ρ0 w0 k ρ listed act w → (∀ i, i < ops.size → listed.getD i false = true) → Q .normal act w := by
    intro k ρ listed act w v hall
    obtain ⟨h1, h2⟩ := I.done v hall
    exact hQ ρ w act h1 h2
  have ready_nil : ∀ (listed : Array Bool), listed.size = ops.size → Region.ready .any ops listed = [] → ∀ i, i < ops.size → listed.getD i false = true := by
    intro listed hsz hr i
    induction i using Nat.strongRecOn with
    | _ i ih =>
      intro hi
      cases hl : listed.getD i false with
      | true => rfl
      | false =>
        exfalso
        have ho : ops[i]? = some ops[i] := Array.getElem?_eq_getElem hi
        have hmem : i ∈ Region.ready .any ops listed := by
          refine mem_ready.mpr ⟨by rw [getD_true_false (by rw [hsz]; exact hi)]; exact hl, _, ho, fun e he hb => ?_⟩
          have hlt := (I.edges ho).1 e (by simpa using he) hb
          exact ih _ hlt (by omega)
        rw [hr] at hmem; cases hmem
  induction fuel with
  | zero =>
    intro k ρ listed act w v hc
    have hall : ∀ i, i < ops.size → listed.getD i false = true := by
      intro i hi
      cases hl : listed.getD i false with
      | true => rfl
      | false =>
        exfalso
        have : 0 < (List.range ops.size).countP (fun j => !listed.getD j false) := List.countP_pos_iff.mpr ⟨i, List.mem_range.mpr hi, by rw [hl]; rfl⟩
        omega
    refine ⟨?_, fin k ρ listed act w v hall⟩
    cases hr : Region.ready .any ops listed with
    | nil => rfl
    | cons i l =>
      exfalso
      have hmem : i ∈ Region.ready .any ops listed := by rw [hr]; exact List.mem_cons_self ..
      obtain ⟨h1, o, h2, _⟩ := mem_ready.mp hmem
      have hi : i < ops.size := (Array.getElem?_eq_some_iff.mp h2).1
      rw [getD_true_false (by rw [v.lsz]; exact hi), hall i hi] at h1; cases h1
  | succ fuel ih =>
    intro k ρ listed act w v hc
    refine ⟨fun hr => fin k ρ listed act w v (ready_nil listed v.lsz hr), fun i hi => ?_⟩
    obtain ⟨_, o, ho, _⟩ := mem_ready.mp hi
    obtain ⟨hu, hb⟩ := I.bits v ho hi
    have hil : i < ops.size := (Array.getElem?_eq_some_iff.mp ho).1
    have hcnt : (List.range ops.size).countP (fun j => !(listed.setIfInBounds i true).getD j false) ≤ fuel := by
      have hlt := countP_lt (p := fun j => !listed.getD j false) (q := fun j => !(listed.setIfInBounds i true).getD j false) (fun j hj => by
        rw [getD_set (by rw [v.lsz]; exact hil)] at hj
        by_cases c : i = j
        · rw [if_pos c] at hj; cases hj
        · rw [if_neg c] at hj; exact hj) (List.mem_range.mpr hil) (by rw [hu]; rfl) (by rw [getD_set (by rw [v.lsz]; exact hil), if_pos rfl]; rfl)
      omega
    have hK : ∀ k' ρ' act' w', Inv P N ops B W tr Hs a0 h0 h1 ρ0 w0 k' ρ' (listed.setIfInBounds i true) act' w' → wpAny P .any ops Q fuel (listed.setIfInBounds i true) act' w' := fun k' ρ' act' w' v' => ih k' ρ' _ act' w' v' hcnt
    cases hF : isF ops o with
    | true => exact I.var v ho hF hu hb hK
    | false =>
      obtain ⟨rc, r1, r2, r3⟩ := I.t.cover i o (by rw [Array.getElem?_toList]; exact ho) hF
      have r2 : rc.i = i := by omega
      subst r2
      exact I.one v r1 hu hb hK
end
theorem regD_ok {P : Program} (hm : P.follows .mixedOrders = true) : RdOk P (regD P) := by
  intro st hg N ops a h a' h' he ρ w act r ra id Q hQ
  unfold regD at he
  split at he
  · rename_i tab htab
    split at he
    · rename_i a1 h1 hF
      split at he
      · rename_i tr af hf htr
        split at he
        · rename_i hok
          injection he with he; injection he with e1 e2
          subst e1; subst e2
          unfold regInfo at htab
          split at htab
          · rename_i W hW
            split at htab
            · rename_i hall
              injection htab with htab; subst htab
              obtain ⟨Hs, ht⟩ := trD_spec hg ops.toList 0 0 a1 h1 tr af hf htr
              obtain ⟨w1, w2, w3⟩ := mkW_spec ops.toList 0 .e W hW
              unfold traceOk at hok
              simp only [Bool.and_eq_true, List.all_eq_true] at hok
              have hFo := runF_spec hg hF
              have I : Info P st N ops (tabB (mkTab ops.toList 0 .e)) W tr Hs a a1 af h h1 hf := by
                refine ⟨hg, fun m o d hm hd => ?_, fun d j hj => ?_, fun i o ho => ?_, hFo, ht, hok.1, fun r hr hc e he' hec => ?_⟩
                · have := w2 m o d (by rw [Array.getElem?_toList]; exact hm) hd
                  rwa [Nat.zero_add] at this
                · rcases w3 d j hj with h0 | ⟨m, o, q1, q2, q3⟩
                  · cases h0
                  · exact ⟨o, by rw [q3, Nat.zero_add, ← Array.getElem?_toList]; exact q1, q2⟩
                · have := allOk_spec ops.toList 0 hall i o (by rw [Array.getElem?_toList]; exact ho)
                  rwa [Nat.zero_add] at this
                · exact hok.2 r (List.mem_filter.mpr ⟨hr, by unfold isRd; rw [hc]; rfl⟩) e (List.mem_filter.mpr ⟨he', by unfold isE; rw [hec]; rfl⟩)
              refine wp_region_any hm ?_
              have hs0 : Step ρ h w ρ h { w with drawn := w.drawn + 1 } := Step.drew r rfl rfl rfl rfl
              have hrel1 : Rel ρ h1 { w with drawn := w.drawn + 1 } := by
                have hr1 := hs0.rel
                refine ⟨fun k e hk => ?_, hr1.inj, fun k e hk => Nat.lt_of_lt_of_le (hr1.lt k e hk) hFo.next⟩
                rw [hFo.own k (hr1.lt k e hk)]
                exact hr1.obj k e hk
              have hs1 : Step ρ h w ρ (Hs 0) { w with drawn := w.drawn + 1 } := by
                rw [ht.first]
                exact ⟨hs0.ext, hrel1, rfl, rfl, rfl, Nat.le_refl _, fun _ _ _ => rfl, hFo.next, fun k hk _ => hFo.own k hk⟩
              have gD : ∀ i, (Array.replicate ops.size false).getD i false = false := by
                intro i
                rw [Array.getD_eq_getD_getElem?, Array.getElem?_replicate]
                split <;> rfl
              refine I.main (ρ0 := ρ) (w0 := w) hQ ops.size 0 ρ _ act _ ⟨hs1, Nat.zero_le _, fun j e _ => ?_, ra.defers, ra.size, fun x _ hl => ?_, fun i o _ _ hl => ?_, fun t u hu _ => ra.get t u hu, fun i o ho hFi _ => ?_, fun i hl => ?_, by simp⟩ ?_
              · rw [gD]; constructor
                · intro h; cases h
                · intro h; omega
              · rw [gD] at hl; cases hl
              · rw [gD] at hl; cases hl
              · obtain ⟨_, _, _, _, _, _, _, _, _, _, _, _, _, hh1, _⟩ := hFo.form i o ho hFi
                refine ⟨?_, by rw [ht.first], by rw [ht.first, hh1]; exact Nat.lt_succ_self _⟩
                cases hk : ρ h.next with
                | none => rfl
                | some e => exact absurd (r.lt _ _ hk) (Nat.lt_irrefl _)
              · rw [gD] at hl; cases hl
              · exact Nat.le_trans List.countP_le_length (by simp)
            · cases htab
          · cases htab
        · cases he
      · cases he
    · cases he
  · cases he
end Go.Ev
