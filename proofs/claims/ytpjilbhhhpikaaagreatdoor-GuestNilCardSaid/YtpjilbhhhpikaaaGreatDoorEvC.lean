/- A table by numbers that the kernel looks up quickly: a tree by a number's bits. No condition but what each theorem says. -/
import Derived.Calls
import Derived.Below
import Derived.Laws.Sem
import Derived.Laws.Cells
import GoSem.Step
import Derived.Laws.Tables
import Derived.Laws.Strings
import Derived.Laws.Append
namespace Go.Ev
set_option linter.unusedVariables false
set_option linter.unusedSimpArgs false
inductive T (α : Type) where
  | e
  | n (l : T α) (v : Option α) (r : T α)
namespace T
variable {α : Type}
noncomputable def get (t : T α) : Nat → Option α :=
  T.rec (motive := fun _ => Nat → Option α) (fun _ => none)
    (fun _ v _ ihl ihr i => Nat.rec (motive := fun _ => Option α) v (fun j _ => cond (Nat.beq (Nat.mod j 2) 0) (ihl (Nat.div j 2)) (ihr (Nat.div j 2))) i) t
theorem get_e (i : Nat) : (e : T α).get i = none := rfl
theorem get_n0 (l r : T α) (v : Option α) : (n l v r).get 0 = v := rfl
theorem get_nS (l r : T α) (v : Option α) (j : Nat) : (n l v r).get (j + 1) = cond (Nat.beq (Nat.mod j 2) 0) (l.get (Nat.div j 2)) (r.get (Nat.div j 2)) := rfl
noncomputable def setF (f : Nat) (x : Option α) : T α → Nat → T α :=
  Nat.rec (motive := fun _ => T α → Nat → T α) (fun t _ => t)
    (fun _ ih t i => T.casesOn (motive := fun _ => T α) t
      (Nat.rec (motive := fun _ => T α) (n e x e) (fun j _ => cond (Nat.beq (Nat.mod j 2) 0) (n (ih e (Nat.div j 2)) none e) (n e none (ih e (Nat.div j 2)))) i)
      (fun l v r => Nat.rec (motive := fun _ => T α) (n l x r) (fun j _ => cond (Nat.beq (Nat.mod j 2) 0) (n (ih l (Nat.div j 2)) v r) (n l v (ih r (Nat.div j 2)))) i)) f
theorem setF_e0 (f : Nat) (x : Option α) : setF (f + 1) x e 0 = n e x e := rfl
theorem setF_eS (f : Nat) (x : Option α) (j : Nat) : setF (f + 1) x e (j + 1) = cond (Nat.beq (Nat.mod j 2) 0) (n (setF f x e (Nat.div j 2)) none e) (n e none (setF f x e (Nat.div j 2))) := rfl
theorem setF_n0 (f : Nat) (x : Option α) (l r : T α) (v : Option α) : setF (f + 1) x (n l v r) 0 = n l x r := rfl
theorem setF_nS (f : Nat) (x : Option α) (l r : T α) (v : Option α) (j : Nat) : setF (f + 1) x (n l v r) (j + 1) = cond (Nat.beq (Nat.mod j 2) 0) (n (setF f x l (Nat.div j 2)) v r) (n l v (setF f x r (Nat.div j 2))) := rfl
/-- The same, built whole before it is handed on. -/
noncomputable def setK {β : Type} (f : Nat) (x : Option α) : T α → Nat → (T α → β) → β :=
  Nat.rec (motive := fun _ => T α → Nat → (T α → β) → β) (fun t _ k => k t)
    (fun _ ih t i k => T.casesOn (motive := fun _ => β) t
      (Nat.rec (motive := fun _ => β) (k (n e x e)) (fun j _ => cond (Nat.beq (Nat.mod j 2) 0) (ih e (Nat.div j 2) fun l' => k (n l' none e)) (ih e (Nat.div j 2) fun r' => k (n e none r'))) i)
      (fun l v r => Nat.rec (motive := fun _ => β) (k (n l x r)) (fun j _ => cond (Nat.beq (Nat.mod j 2) 0) (ih l (Nat.div j 2) fun l' => k (n l' v r)) (ih r (Nat.div j 2) fun r' => k (n l v r'))) i)) f
theorem setK_eq {β : Type} (f : Nat) (x : Option α) : ∀ (t : T α) (i : Nat) (k : T α → β), setK f x t i k = k (setF f x t i) := by
  induction f with
  | zero => intro t i k; rfl
  | succ f ih =>
    intro t i k
    cases t with
    | e =>
      cases i with
      | zero => rfl
      | succ j =>
        show cond (Nat.beq (Nat.mod j 2) 0) (setK f x e (Nat.div j 2) fun l' => k (n l' none e)) (setK f x e (Nat.div j 2) fun r' => k (n e none r')) = _
        rw [setF_eS, ih, ih]
        cases Nat.beq (Nat.mod j 2) 0 <;> rfl
    | n l v r =>
      cases i with
      | zero => rfl
      | succ j =>
        show cond (Nat.beq (Nat.mod j 2) 0) (setK f x l (Nat.div j 2) fun l' => k (n l' v r)) (setK f x r (Nat.div j 2) fun r' => k (n l v r')) = _
        rw [setF_nS, ih, ih]
        cases Nat.beq (Nat.mod j 2) 0 <;> rfl
noncomputable def set (t : T α) (i : Nat) (x : α) : T α := setK (i + 1) (some x) t i fun t' => t'
theorem set_eq (t : T α) (i : Nat) (x : α) : t.set i x = setF (i + 1) (some x) t i := setK_eq _ _ _ _ _
/-- The tree, looked at before it is handed on. -/
noncomputable def force {β : Type} (t : T α) (k : T α → β) : β := T.casesOn (motive := fun _ => β) t (k e) fun l v r => k (n l v r)
theorem force_eq {β : Type} (t : T α) (k : T α → β) : t.force k = k t := by cases t <;> rfl
theorem half (j : Nat) : Nat.div j 2 ≤ j := Nat.div_le_self j 2
theorem apart {i j : Nat} (hm : Nat.beq (Nat.mod i 2) 0 = Nat.beq (Nat.mod j 2) 0) (hd : Nat.div i 2 = Nat.div j 2) : i = j := by
  have hi := Nat.div_add_mod i 2
  have hj := Nat.div_add_mod j 2
  have hd' : i / 2 = j / 2 := hd
  have hm' : (i % 2).beq 0 = (j % 2).beq 0 := hm
  have h1 : i % 2 < 2 := Nat.mod_lt _ (by decide)
  have h2 : j % 2 < 2 := Nat.mod_lt _ (by decide)
  have : i % 2 = j % 2 := by
    rcases Nat.lt_or_ge (i % 2) 1 with h | h <;> rcases Nat.lt_or_ge (j % 2) 1 with g | g
    · omega
    · exfalso
      have a : i % 2 = 0 := by omega
      have b : j % 2 = 1 := by omega
      rw [a, b] at hm'
      cases hm'
    · exfalso
      have a : i % 2 = 1 := by omega
      have b : j % 2 = 0 := by omega
      rw [a, b] at hm'
      cases hm'
    · omega
  omega
theorem get_setF_same (f : Nat) (x : Option α) : ∀ (t : T α) (i : Nat), i < f → (setF f x t i).get i = x := by
  induction f with
  | zero => intro t i h; exact absurd h (Nat.not_lt_zero _)
  | succ f ih =>
    intro t i h
    cases t with
    | e =>
      cases i with
      | zero => rfl
      | succ j =>
        have hj := ih e (Nat.div j 2) (Nat.lt_of_le_of_lt (half j) (by omega))
        rw [setF_eS]
        cases hc : Nat.beq (Nat.mod j 2) 0 <;> simp only [cond_true, cond_false, get_nS, hc] <;> exact hj
    | n l v r =>
      cases i with
      | zero => rfl
      | succ j =>
        have hl := ih l (Nat.div j 2) (Nat.lt_of_le_of_lt (half j) (by omega))
        have hr := ih r (Nat.div j 2) (Nat.lt_of_le_of_lt (half j) (by omega))
        rw [setF_nS]
        cases hc : Nat.beq (Nat.mod j 2) 0 <;> simp only [cond_true, cond_false, get_nS, hc] <;> assumption
theorem get_setF_ne (f : Nat) (x : Option α) : ∀ (t : T α) (i k : Nat), i ≠ k → (setF f x t i).get k = t.get k := by
  induction f with
  | zero => intro t i k h; rfl
  | succ f ih =>
    intro t i k h
    cases t with
    | e =>
      cases i with
      | zero =>
        cases k with
        | zero => exact absurd rfl h
        | succ m => rw [setF_e0, get_nS]; cases Nat.beq (Nat.mod m 2) 0 <;> rfl
      | succ j =>
        rw [setF_eS]
        cases k with
        | zero => cases Nat.beq (Nat.mod j 2) 0 <;> rfl
        | succ m =>
          cases hc : Nat.beq (Nat.mod j 2) 0 <;> cases hk : Nat.beq (Nat.mod m 2) 0 <;> simp only [cond_true, cond_false, get_nS, hk, get_e] <;>
            first | rfl | (rw [ih e _ _ fun hd => h (congrArg (· + 1) (apart (hc.trans hk.symm) hd))]; rfl)
    | n l v r =>
      cases i with
      | zero =>
        cases k with
        | zero => exact absurd rfl h
        | succ m => rfl
      | succ j =>
        rw [setF_nS]
        cases k with
        | zero => cases Nat.beq (Nat.mod j 2) 0 <;> rfl
        | succ m =>
          cases hc : Nat.beq (Nat.mod j 2) 0 <;> cases hk : Nat.beq (Nat.mod m 2) 0 <;> simp only [cond_true, cond_false, get_nS, hk] <;>
            (exact ih _ _ _ fun hd => h (congrArg (· + 1) (apart (hc.trans hk.symm) hd)))
theorem get_set_same (t : T α) (i : Nat) (x : α) : (t.set i x).get i = some x := by rw [set_eq]; exact get_setF_same _ _ t i (Nat.lt_succ_self i)
theorem get_set_ne (t : T α) {i k : Nat} (x : α) (h : i ≠ k) : (t.set i x).get k = t.get k := by rw [set_eq]; exact get_setF_ne _ _ t i k h
theorem get_set (t : T α) (i k : Nat) (x : α) : (t.set i x).get k = if i = k then some x else t.get k := by
  by_cases h : i = k
  · subst h; rw [if_pos rfl, get_set_same]
  · rw [if_neg h, get_set_ne t x h]
end T
end Go.Ev
/- Values and memory of a run that the kernel reckons by itself, and what it is for them to stand in a world: blocks under other numbers, slices whose capacity isn't known. No condition but what each theorem says. -/
namespace Go.Ev
set_option linter.unusedVariables false
set_option linter.unusedSimpArgs false
open Go
inductive V where
  | bool (b : Bool)
  | int (k : IntKind) (n : Int)
  | str (s : ByteArray)
  | ptr (k gen off : Nat)
  | pnil
  | slice (k gen off len : Nat) (cap : Option Nat)
  | snil
  | semp
  | map (k : Nat)
  | mnil
  | func (f : FuncId) (caps : List V)
  | fnil
  | iface (t : TypeId) (v : V)
  | inil
  | agg (len : Nat) (d : List (Nat × V)) (t : T V)
  | tup (vs : List V)
def dget (d : List (Nat × V)) (i : Nat) : Option V :=
  match d with
  | [] => none
  | (n, v) :: r => cond (Nat.ble n i) (dget r (Nat.sub i n)) (some v)
/-- A row's cell: what was set, or what it began as. -/
noncomputable def rget (d : List (Nat × V)) (t : T V) (i : Nat) : Option V :=
  Option.rec (motive := fun _ => Option V) (dget d i) (fun v => some v) (t.get i)
theorem rget_set (d : List (Nat × V)) (t : T V) (i k : Nat) (x : V) : rget d (t.set i x) k = if i = k then some x else rget d t k := by
  unfold rget
  rw [T.get_set]
  by_cases h : i = k
  · rw [if_pos h, if_pos h]
  · rw [if_neg h, if_neg h]
/-- Where a block stands in the world: its number there, how many cells are ahead of it, how often it was given away, how many cells there are, cells of an element, whether it is only read. -/
structure Ent where
  b : Nat
  at_ : Nat
  gen : Nat
  room : Nat
  esz : Nat
  ro : Bool
abbrev Env := Nat → Option Ent
inductive VRel (ρ : Env) : V → Value → Prop where
  | bool (b : Bool) : VRel ρ (.bool b) (.bool b)
  | int (k : IntKind) (n : Int) : VRel ρ (.int k n) (.int k n)
  | str (s : ByteArray) : VRel ρ (.str s) (.string s)
  | ptr {k gen off : Nat} {e : Ent} (he : ρ k = some e) (hg : e.gen = gen) : VRel ρ (.ptr k gen off) (.pointer (some ⟨e.b, e.at_ + off, none⟩))
  | ptrOld {k gen off : Nat} {e : Ent} {a : Addr} (he : ρ k = some e) (hg : gen < e.gen) : VRel ρ (.ptr k gen off) (.pointer (some a))
  | pnil : VRel ρ .pnil (.pointer none)
  | slice {k gen off len : Nat} {cap : Option Nat} {e : Ent} {c : Nat} (he : ρ k = some e) (hg : e.gen = gen) (hc : ∀ n, cap = some n → c = n)
      (hl : len ≤ c) (hn : cap = none → off + c * e.esz ≤ e.room) : VRel ρ (.slice k gen off len cap) (.slice (some ⟨e.b, e.at_ + off, none⟩) len c)
  | sliceOld {k gen off len : Nat} {cap : Option Nat} {e : Ent} {a : Addr} {n c : Nat} (he : ρ k = some e) (hg : gen < e.gen) : VRel ρ (.slice k gen off len cap) (.slice (some a) n c)
  | snil : VRel ρ .snil (.slice none 0 0)
  | semp {a : Addr} {c : Nat} : VRel ρ .semp (.slice (some a) 0 c)
  | map {k : Nat} {e : Ent} (he : ρ k = some e) (hg : e.gen = 0) : VRel ρ (.map k) (.map (some e.b))
  | mapOld {k : Nat} {e : Ent} {r : Nat} (he : ρ k = some e) (hg : 0 < e.gen) : VRel ρ (.map k) (.map (some r))
  | mnil : VRel ρ .mnil (.map none)
  | func {f : FuncId} {l : List V} {cs : Array Value} (hs : cs.size = l.length) (h : ∀ (i : Nat) (v : V) (c : Value), l[i]? = some v → cs[i]? = some c → VRel ρ v c) : VRel ρ (.func f l) (.func (.func f) #[] cs)
  | fnil : VRel ρ .fnil .nilFunc
  | iface {t : TypeId} {v : V} {c : Value} (h : VRel ρ v c) : VRel ρ (.iface t v) (.iface t c)
  | inil : VRel ρ .inil .nilIface
  | agg {len : Nat} {d : List (Nat × V)} {t : T V} {cs : Array Value} (hs : cs.size = len) (hd : ∀ i, i < len → ∃ v, rget d t i = some v)
      (h : ∀ (i : Nat) (v : V) (c : Value), rget d t i = some v → cs[i]? = some c → VRel ρ v c) : VRel ρ (.agg len d t) (.agg cs)
  | tup {l : List V} {cs : Array Value} (hs : cs.size = l.length) (h : ∀ (i : Nat) (v : V) (c : Value), l[i]? = some v → cs[i]? = some c → VRel ρ v c) : VRel ρ (.tup l) (.tuple cs)
/-- The blocks that stood go on, or were given away; what is new stands where nothing stood. -/
structure Ext (n m : Nat) (ρ ρ' : Env) : Prop where
  old : ∀ k e, ρ k = some e → ∃ e', ρ' k = some e' ∧ (e' = e ∨ (e.gen < e'.gen ∧ e.ro = false)) ∧ e'.ro = e.ro
  new : ∀ k e', ρ' k = some e' → (∃ e, ρ k = some e ∧ (e'.b = e.b ∨ n ≤ e'.b)) ∨ (ρ k = none ∧ m ≤ k ∧ n ≤ e'.b)
theorem Ext.refl (n m : Nat) (ρ : Env) : Ext n m ρ ρ := ⟨fun _ e h => ⟨e, h, .inl rfl, rfl⟩, fun _ e h => .inl ⟨e, h, .inl rfl⟩⟩
theorem Ext.trans {n m n' m' : Nat} {ρ ρ' ρ'' : Env} (h : Ext n m ρ ρ') (h' : Ext n' m' ρ' ρ'') (hn : n ≤ n') (hm : m ≤ m') : Ext n m ρ ρ'' := by
  constructor
  · intro k e he
    obtain ⟨e', he', h1, r1⟩ := h.old k e he
    obtain ⟨e'', he'', h2, r2⟩ := h'.old k e' he'
    refine ⟨e'', he'', ?_, r2.trans r1⟩
    rcases h1 with rfl | h1 <;> rcases h2 with rfl | h2
    · exact .inl rfl
    · exact .inr h2
    · exact .inr h1
    · exact .inr ⟨Nat.lt_trans h1.1 h2.1, h1.2⟩
  · intro k e'' he''
    rcases h'.new k e'' he'' with ⟨e', he', h1⟩ | ⟨h0, h1, h2⟩
    · rcases h.new k e' he' with ⟨e, he, h2⟩ | ⟨g0, g1, g2⟩
      · refine .inl ⟨e, he, ?_⟩
        rcases h1 with h1 | h1
        · rw [h1]; exact h2
        · exact .inr (Nat.le_trans hn h1)
      · refine .inr ⟨g0, g1, ?_⟩
        rcases h1 with h1 | h1
        · rw [h1]; exact g2
        · exact Nat.le_trans hn h1
    · cases hk : ρ k with
      | none => exact .inr ⟨rfl, Nat.le_trans hm h1, Nat.le_trans hn h2⟩
      | some e =>
        obtain ⟨e', he', _⟩ := h.old k e hk
        rw [h0] at he'; cases he'
theorem VRel.ext {n m : Nat} {ρ ρ' : Env} (x : Ext n m ρ ρ') {v : V} {c : Value} (h : VRel ρ v c) : VRel ρ' v c := by
  induction h with
  | bool b => exact .bool b
  | int k n => exact .int k n
  | str s => exact .str s
  | @ptr k gen off e he hg =>
    obtain ⟨e', he', h | ⟨h, _⟩, _⟩ := x.old _ _ he
    · subst h; exact .ptr he' hg
    · exact .ptrOld he' (hg ▸ h)
  | @ptrOld k gen off e a he hg =>
    obtain ⟨e', he', h | ⟨h, _⟩, _⟩ := x.old _ _ he
    · subst h; exact .ptrOld he' hg
    · exact .ptrOld he' (Nat.lt_trans hg h)
  | pnil => exact .pnil
  | @slice k gen off len cap e c he hg hc hl hn =>
    obtain ⟨e', he', h | ⟨h, _⟩, _⟩ := x.old _ _ he
    · subst h; exact .slice he' hg hc hl hn
    · exact .sliceOld he' (hg ▸ h)
  | @sliceOld k gen off len cap e a n c he hg =>
    obtain ⟨e', he', h | ⟨h, _⟩, _⟩ := x.old _ _ he
    · subst h; exact .sliceOld he' hg
    · exact .sliceOld he' (Nat.lt_trans hg h)
  | snil => exact .snil
  | semp => exact .semp
  | @map k e he hg =>
    obtain ⟨e', he', h | ⟨h, _⟩, _⟩ := x.old _ _ he
    · subst h; exact .map he' hg
    · exact .mapOld he' (hg ▸ h)
  | @mapOld k e r he hg =>
    obtain ⟨e', he', h | ⟨h, _⟩, _⟩ := x.old _ _ he
    · subst h; exact .mapOld he' hg
    · exact .mapOld he' (Nat.lt_trans hg h)
  | mnil => exact .mnil
  | func hs _ ih => exact .func hs ih
  | fnil => exact .fnil
  | iface _ ih => exact .iface ih
  | inil => exact .inil
  | agg hs hd _ ih => exact .agg hs hd ih
  | tup hs _ ih => exact .tup hs ih
/-- What a block holds: cells (their type, how often they were given away, cells of an element, whether they are only read, how many, what they began as, what was set), or a map's entries. -/
inductive O where
  | cells (ty : TypeId) (gen esz : Nat) (ro : Bool) (len : Nat) (d : List (Nat × V)) (t : T V)
  | map (es : List (V × V))
structure H where
  next : Nat
  t : T O
def MRel (ρ : Env) (es : List (V × V)) (es' : List MapEntry) : Prop :=
  es.Pairwise (fun p q => p.1 ≠ q.1) ∧ ∃ l : List (V × V), l.Perm es ∧ l.length = es'.length ∧ ∀ (i : Nat) (p : V × V) (m : MapEntry), l[i]? = some p → es'[i]? = some m → VRel ρ p.1 m.key ∧ VRel ρ p.2 m.val
theorem keys_inj {es : List (V × V)} (hp : es.Pairwise (fun p q => p.1 ≠ q.1)) {p q : V × V} (h1 : p ∈ es) (h2 : q ∈ es) (he : p.1 = q.1) : p = q := by
  induction hp with
  | nil => cases h1
  | @cons a l ha _ ih =>
    cases h1 with
    | head =>
      cases h2 with
      | head => rfl
      | tail _ h2 => exact absurd he (ha q h2)
    | tail _ h1 =>
      cases h2 with
      | head => exact absurd he.symm (ha p h1)
      | tail _ h2 => exact ih h1 h2
def MapOk (es' : List MapEntry) (clock : Nat) : Prop := (es'.map (·.born)).Nodup ∧ ∀ m ∈ es', m.born < clock
def ORel (ρ : Env) (e : Ent) : O → Obj → Prop
  | .cells ty gen esz ro len d t, ob => e.gen = gen ∧ e.esz = esz ∧ e.ro = ro ∧ ∃ cs fz, ob = .cells cs ty fz ∧ cs.size = e.at_ + e.room ∧ len ≤ e.room ∧
      (∀ i, i < cs.size → ¬ (fz.1 ≤ i ∧ i < fz.2)) ∧ ∀ i, i < len → ∃ v c, rget d t i = some v ∧ cs[e.at_ + i]? = some c ∧ VRel ρ v c
  | .map es, ob => e.gen = 0 ∧ e.ro = false ∧ ∃ es' clock, ob = .map es' clock ∧ MRel ρ es es'.toList ∧ MapOk es'.toList clock
theorem ORel.ext {n m : Nat} {ρ ρ' : Env} (x : Ext n m ρ ρ') {e : Ent} {o : O} {ob : Obj} (h : ORel ρ e o ob) : ORel ρ' e o ob := by
  cases o with
  | cells ty gen esz ro len d t =>
    obtain ⟨h1, h2, h2', cs, fz, h3, h4, h5, h6, h7⟩ := h
    refine ⟨h1, h2, h2', cs, fz, h3, h4, h5, h6, fun i hi => ?_⟩
    obtain ⟨v, c, g1, g2, g3⟩ := h7 i hi
    exact ⟨v, c, g1, g2, g3.ext x⟩
  | map es =>
    obtain ⟨h1, h1', es', clock, h2, ⟨h0, l, h3, h4, h5⟩, h6⟩ := h
    exact ⟨h1, h1', es', clock, h2, ⟨h0, l, h3, h4, fun i p q hp hq => ⟨(h5 i p q hp hq).1.ext x, (h5 i p q hp hq).2.ext x⟩⟩, h6⟩
/-- The memory h stands in the world w. -/
structure Rel (ρ : Env) (h : H) (w : World) : Prop where
  obj : ∀ k e, ρ k = some e → ∃ o ob, h.t.get k = some o ∧ w.heap[e.b]? = some ob ∧ ORel ρ e o ob
  inj : ∀ k k' e e', ρ k = some e → ρ k' = some e' → e.b = e'.b → k = k'
  lt : ∀ k e, ρ k = some e → k < h.next
theorem Rel.b_lt {ρ : Env} {h : H} {w : World} (r : Rel ρ h w) {k : Nat} {e : Ent} (he : ρ k = some e) : e.b < w.heap.size := by
  obtain ⟨o, ob, _, hb, _⟩ := r.obj k e he
  exact (Array.getElem?_eq_some_iff.mp hb).1
/-- What a step leaves: the world's other blocks, the run's other blocks. -/
structure Step (ρ : Env) (h : H) (w : World) (ρ' : Env) (h' : H) (w' : World) : Prop where
  ext : Ext w.heap.size h.next ρ ρ'
  rel : Rel ρ' h' w'
  os : w'.os = w.os
  tape : w'.tape = w.tape
  output : w'.output = w.output
  size : w.heap.size ≤ w'.heap.size
  frame : ∀ b, b < w.heap.size → (∀ k e, ρ k = some e → e.b = b → e.ro = true) → w'.heap[b]? = w.heap[b]?
  next : h.next ≤ h'.next
  own : ∀ k, k < h.next → ρ k = none → h'.t.get k = h.t.get k
theorem Step.refl {ρ : Env} {h : H} {w : World} (r : Rel ρ h w) : Step ρ h w ρ h w :=
  ⟨Ext.refl _ _ _, r, rfl, rfl, rfl, Nat.le_refl _, fun _ _ _ => rfl, Nat.le_refl _, fun _ _ _ => rfl⟩
theorem Step.trans {ρ ρ' ρ'' : Env} {h h' h'' : H} {w w' w'' : World} (a : Step ρ h w ρ' h' w') (b : Step ρ' h' w' ρ'' h'' w'') : Step ρ h w ρ'' h'' w'' := by
  refine ⟨a.ext.trans b.ext a.size a.next, b.rel, b.os.trans a.os, b.tape.trans a.tape, b.output.trans a.output, Nat.le_trans a.size b.size, fun p hp hr => ?_, Nat.le_trans a.next b.next, fun k hk hn => ?_⟩
  · refine (b.frame p (Nat.lt_of_lt_of_le hp a.size) fun k e' he' hb => ?_).trans (a.frame p hp hr)
    rcases a.ext.new k e' he' with ⟨e, he, h1 | h1⟩ | ⟨_, _, h1⟩
    · obtain ⟨e2, he2, _, h3⟩ := a.ext.old k e he
      rw [he'] at he2; injection he2 with he2; subst he2
      rw [h3]; exact hr k e he (h1.symm.trans hb)
    · omega
    · omega
  · refine (b.own k (Nat.lt_of_lt_of_le hk a.next) ?_).trans (a.own k hk hn)
    cases hk' : ρ' k with
    | none => rfl
    | some e' =>
      rcases a.ext.new k e' hk' with ⟨e, he, _⟩ | ⟨_, h1, _⟩
      · rw [hn] at he; cases he
      · omega
theorem Rel.drew {ρ : Env} {h : H} {w w' : World} (r : Rel ρ h w) (hh : w'.heap = w.heap) : Rel ρ h w' :=
  ⟨fun k e he => by rw [hh]; exact r.obj k e he, r.inj, r.lt⟩
theorem Step.drew {ρ : Env} {h : H} {w w' : World} (r : Rel ρ h w) (hh : w'.heap = w.heap) (ho : w'.os = w.os) (ht : w'.tape = w.tape) (hp : w'.output = w.output) : Step ρ h w ρ h w' :=
  ⟨Ext.refl _ _ _, r.drew hh, ho, ht, hp, by rw [hh]; exact Nat.le_refl _, fun _ _ _ => by rw [hh], Nat.le_refl _, fun _ _ _ => rfl⟩
noncomputable def H.put (h : H) (k : Nat) (o : O) : H := ⟨h.next, h.t.set k o⟩
noncomputable def H.push (h : H) (o : O) : H := ⟨Nat.add h.next 1, h.t.set h.next o⟩
theorem Ext.one {n m : Nat} {ρ : Env} {e : Ent} {k : Nat} (hn : ρ k = none) (hm : m ≤ k) (hb : n ≤ e.b) : Ext n m ρ (fun j => if j = k then some e else ρ j) := by
  constructor
  · intro j e' he
    have : j ≠ k := fun h => by rw [h, hn] at he; cases he
    exact ⟨e', by show (if j = k then _ else _) = _; rw [if_neg this]; exact he, .inl rfl, rfl⟩
  · intro j e' he
    have he : (if j = k then some e else ρ j) = some e' := he
    by_cases h : j = k
    · rw [if_pos h] at he; injection he with he; subst he
      exact .inr ⟨h ▸ hn, h ▸ hm, hb⟩
    · rw [if_neg h] at he; exact .inl ⟨e', he, .inl rfl⟩
/-- A new block. -/
theorem Step.alloc {ρ : Env} {h : H} {w : World} (r : Rel ρ h w) (o : O) (ob : Obj) (e : Ent) (hb : e.b = w.heap.size)
    (ho : ∀ ρ', Ext w.heap.size h.next ρ ρ' → ρ' h.next = some e → ORel ρ' e o ob) :
    Step ρ h w (fun j => if j = h.next then some e else ρ j) (h.push o) { w with heap := w.heap.push ob } := by
  have hn : ρ h.next = none := by
    cases hk : ρ h.next with
    | none => rfl
    | some e' => exact absurd (r.lt _ _ hk) (Nat.lt_irrefl _)
  have x : Ext w.heap.size h.next ρ (fun j => if j = h.next then some e else ρ j) := Ext.one hn (Nat.le_refl _) (Nat.le_of_eq hb.symm)
  refine ⟨x, ⟨?_, ?_, ?_⟩, rfl, rfl, rfl, by simp, ?_, Nat.le_succ _, ?_⟩
  · intro k e' he
    have he : (if k = h.next then some e else ρ k) = some e' := he
    by_cases hk : k = h.next
    · rw [if_pos hk] at he; injection he with he; subst he
      refine ⟨o, ob, ?_, ?_, ho _ x (if_pos rfl)⟩
      · show (h.t.set h.next o).get k = _
        rw [hk, T.get_set_same]
      · show (w.heap.push ob)[e.b]? = _
        rw [hb, Array.getElem?_push, if_pos rfl]
    · rw [if_neg hk] at he
      obtain ⟨o', ob', h1, h2, h3⟩ := r.obj k e' he
      refine ⟨o', ob', ?_, ?_, h3.ext x⟩
      · show (h.t.set h.next o).get k = _
        rw [T.get_set_ne _ _ (Ne.symm hk)]; exact h1
      · show (w.heap.push ob)[e'.b]? = _
        rw [Array.getElem?_push, if_neg (Nat.ne_of_lt (r.b_lt he))]; exact h2
  · intro k k' e1 e2 h1 h2 hbb
    have h1 : (if k = h.next then some e else ρ k) = some e1 := h1
    have h2 : (if k' = h.next then some e else ρ k') = some e2 := h2
    by_cases c1 : k = h.next <;> by_cases c2 : k' = h.next
    · rw [c1, c2]
    · rw [if_pos c1] at h1; rw [if_neg c2] at h2; injection h1 with h1; subst h1
      exact absurd (r.b_lt h2) (by rw [← hbb, hb]; exact Nat.lt_irrefl _)
    · rw [if_neg c1] at h1; rw [if_pos c2] at h2; injection h2 with h2; subst h2
      exact absurd (r.b_lt h1) (by rw [hbb, hb]; exact Nat.lt_irrefl _)
    · rw [if_neg c1] at h1; rw [if_neg c2] at h2; exact r.inj _ _ _ _ h1 h2 hbb
  · intro k e' he
    have he : (if k = h.next then some e else ρ k) = some e' := he
    by_cases c : k = h.next
    · rw [c]; exact Nat.lt_succ_self _
    · rw [if_neg c] at he; exact Nat.lt_succ_of_lt (r.lt _ _ he)
  · intro b hb' _
    show (w.heap.push ob)[b]? = _
    rw [Array.getElem?_push, if_neg (Nat.ne_of_lt hb')]
  · intro k hk _
    show (h.t.set h.next o).get k = _
    rw [T.get_set_ne _ _ (Nat.ne_of_gt hk)]
/-- A block that is written, or given away: it stands where it stood, or at a new place. -/
theorem Step.turn {ρ : Env} {h : H} {w w' : World} (r : Rel ρ h w) {k : Nat} {e : Ent} (he : ρ k = some e) (hro : e.ro = false) (o : O) (ob : Obj) (e' : Ent)
    (hg : e' = e ∨ e.gen < e'.gen) (hro' : e'.ro = false) (hb : e'.b = e.b ∨ w.heap.size ≤ e'.b) (hob : w'.heap[e'.b]? = some ob)
    (ho : ∀ ρ', Ext w.heap.size h.next ρ ρ' → ρ' k = some e' → ORel ρ' e' o ob)
    (hos : w'.os = w.os) (ht : w'.tape = w.tape) (hp : w'.output = w.output) (hs : w.heap.size ≤ w'.heap.size) (hf : ∀ b, b < w.heap.size → b ≠ e.b → w'.heap[b]? = w.heap[b]?) :
    Step ρ h w (fun j => if j = k then some e' else ρ j) (h.put k o) w' := by
  have x : Ext w.heap.size h.next ρ (fun j => if j = k then some e' else ρ j) := by
    constructor
    · intro j e1 h1
      by_cases c : j = k
      · subst c; rw [he] at h1; injection h1 with h1; subst h1
        exact ⟨e', if_pos rfl, hg.imp id (fun g => ⟨g, hro⟩), hro'.trans hro.symm⟩
      · exact ⟨e1, by show (if j = k then _ else _) = _; rw [if_neg c]; exact h1, .inl rfl, rfl⟩
    · intro j e1 h1
      have h1 : (if j = k then some e' else ρ j) = some e1 := h1
      by_cases c : j = k
      · rw [if_pos c] at h1; injection h1 with h1; subst h1
        exact .inl ⟨e, c ▸ he, hb⟩
      · rw [if_neg c] at h1; exact .inl ⟨e1, h1, .inl rfl⟩
  refine ⟨x, ⟨?_, ?_, ?_⟩, hos, ht, hp, hs, ?_, Nat.le_refl _, ?_⟩
  · intro j e1 h1
    have h1' : (if j = k then some e' else ρ j) = some e1 := h1
    by_cases c : j = k
    · rw [if_pos c] at h1'; injection h1' with h1'; subst h1'
      refine ⟨o, ob, ?_, hob, ho _ x (if_pos rfl)⟩
      show (h.t.set k o).get j = _
      rw [c, T.get_set_same]
    · rw [if_neg c] at h1'
      obtain ⟨o1, ob1, g1, g2, g3⟩ := r.obj j e1 h1'
      refine ⟨o1, ob1, ?_, ?_, g3.ext x⟩
      · show (h.t.set k o).get j = _
        rw [T.get_set_ne _ _ (Ne.symm c)]; exact g1
      · rw [hf _ (r.b_lt h1') fun hbe => c (r.inj _ _ _ _ h1' he hbe)]; exact g2
  · intro j j' e1 e2 h1 h2 hbb
    have h1' : (if j = k then some e' else ρ j) = some e1 := h1
    have h2' : (if j' = k then some e' else ρ j') = some e2 := h2
    by_cases c1 : j = k <;> by_cases c2 : j' = k
    · rw [c1, c2]
    · rw [if_pos c1] at h1'; rw [if_neg c2] at h2'; injection h1' with h1'; subst h1'
      rcases hb with hb | hb
      · exact absurd (r.inj _ _ _ _ h2' he (hbb.symm.trans hb)) c2
      · exact absurd (r.b_lt h2') (by omega)
    · rw [if_neg c1] at h1'; rw [if_pos c2] at h2'; injection h2' with h2'; subst h2'
      rcases hb with hb | hb
      · exact absurd (r.inj _ _ _ _ h1' he (hbb.trans hb)) c1
      · exact absurd (r.b_lt h1') (by omega)
    · rw [if_neg c1] at h1'; rw [if_neg c2] at h2'; exact r.inj _ _ _ _ h1' h2' hbb
  · intro j e1 h1
    have h1' : (if j = k then some e' else ρ j) = some e1 := h1
    by_cases c : j = k
    · rw [c]; exact r.lt _ _ he
    · rw [if_neg c] at h1'; exact r.lt _ _ h1'
  · intro b hb' hr
    exact hf b hb' fun hbe => by have := hr k e he hbe.symm; rw [hro] at this; cases this
  · intro j hj hn
    show (h.t.set k o).get j = _
    rw [T.get_set_ne]
    intro c; rw [← c, he] at hn; cases hn
end Go.Ev
/- Reading and writing of cells: of the run's own memory, and of the world in which it stands. No condition but what each theorem says. -/
namespace Go.Ev
set_option linter.unusedVariables false
set_option linter.unusedSimpArgs false
open Go
section
variable {P : Program} {ρ : Env} {h : H} {w : World}
theorem addr_add (b o n : Nat) : (⟨b, o, none⟩ : Addr).add n = ⟨b, o + n, none⟩ := by
  unfold Addr.add
  by_cases c : n = 0
  · rw [if_pos c, c]; rfl
  · rw [if_neg c]
def one : V → Bool
  | .agg _ _ _ => false
  | .tup _ => false
  | _ => true
theorem VRel.one {v : V} {c : Value} (h : VRel ρ v c) (ho : one v = true) : c.oneCell' = true := by
  cases h <;> first | rfl | (simp [Ev.one] at ho)
theorem VRel.cells1 {v : V} {c : Value} (h : VRel ρ v c) (ho : Ev.one v = true) : c.cells = #[c] := by
  cases h <;> first | rfl | (simp [Ev.one] at ho)
/-- A block of cells, as it stands. -/
theorem Rel.cells (r : Rel ρ h w) {k : Nat} {e : Ent} (he : ρ k = some e) {ty gen esz len : Nat} {ro : Bool} {d : List (Nat × V)} {t : T V} (hk : h.t.get k = some (.cells ty gen esz ro len d t)) :
    e.gen = gen ∧ e.esz = esz ∧ e.ro = ro ∧ ∃ cs fz, w.heap[e.b]? = some (.cells cs ty fz) ∧ cs.size = e.at_ + e.room ∧ len ≤ e.room ∧
      (∀ i, i < cs.size → ¬ (fz.1 ≤ i ∧ i < fz.2)) ∧ ∀ i, i < len → ∃ v c, rget d t i = some v ∧ cs[e.at_ + i]? = some c ∧ VRel ρ v c := by
  obtain ⟨o, ob, h1, h2, h3⟩ := r.obj k e he
  rw [hk] at h1
  injection h1 with h1
  subst h1
  obtain ⟨g1, g2, g3, cs, fz, g4, g5⟩ := h3
  exact ⟨g1, g2, g3, cs, fz, g4 ▸ h2, g5⟩
theorem cell_of_heap {b i : Nat} {cs : Array Value} {ty : TypeId} {fz : Nat × Nat} {c : Value} (hb : w.heap[b]? = some (.cells cs ty fz)) (hc : cs[i]? = some c) : w.cell? ⟨b, i, none⟩ = some c := by
  simp [World.cell?, hb, hc]
theorem Rel.cell (r : Rel ρ h w) {k : Nat} {e : Ent} (he : ρ k = some e) {ty gen esz len : Nat} {ro : Bool} {d : List (Nat × V)} {t : T V} (hk : h.t.get k = some (.cells ty gen esz ro len d t))
    {i : Nat} (hi : i < len) {v : V} (hv : rget d t i = some v) : ∃ c, w.cell? ⟨e.b, e.at_ + i, none⟩ = some c ∧ VRel ρ v c := by
  obtain ⟨_, _, _, cs, fz, hb, _, _, _, hcs⟩ := r.cells he hk
  obtain ⟨v', c, h1, h2, h3⟩ := hcs i hi
  rw [hv] at h1; injection h1 with h1; subst h1
  exact ⟨c, cell_of_heap hb h2, h3⟩
/-- n cells from a place on, as a list. -/
noncomputable def many (d : List (Nat × V)) (t : T V) (off : Nat) (n : Nat) : Option (List V) :=
  Nat.rec (motive := fun _ => Nat → Option (List V)) (fun _ => some [])
    (fun _ ih o => Option.rec (motive := fun _ => Option (List V)) none (fun v => Option.rec (motive := fun _ => Option (List V)) none (fun l => some (v :: l)) (ih (Nat.add o 1))) (rget d t o)) n off
theorem many_0 (d : List (Nat × V)) (t : T V) (off : Nat) : many d t off 0 = some [] := rfl
theorem many_S (d : List (Nat × V)) (t : T V) (off n : Nat) : many d t off (n + 1) = Option.rec (motive := fun _ => Option (List V)) none (fun v => Option.rec (motive := fun _ => Option (List V)) none (fun l => some (v :: l)) (many d t (off + 1) n)) (rget d t off) := rfl
theorem many_spec (d : List (Nat × V)) (t : T V) : ∀ (n off : Nat) (l : List V), many d t off n = some l → l.length = n ∧ ∀ i v, l[i]? = some v → rget d t (off + i) = some v := by
  intro n
  induction n with
  | zero => intro off l h; rw [many_0] at h; injection h with h; subst h; exact ⟨rfl, fun i v h => by simp at h⟩
  | succ n ih =>
    intro off l h
    rw [many_S] at h
    cases hv : rget d t off with
    | none => rw [hv] at h; cases h
    | some v =>
      rw [hv] at h
      cases hl : many d t (off + 1) n with
      | none => rw [hl] at h; cases h
      | some l' =>
        rw [hl] at h
        have h : some (v :: l') = some l := h
        injection h with h; subst h
        obtain ⟨h1, h2⟩ := ih _ _ hl
        refine ⟨by simp [h1], fun i u hu => ?_⟩
        cases i with
        | zero => simp at hu; subst hu; exact hv
        | succ i => rw [show off + (i + 1) = off + 1 + i by omega]; exact h2 i u (by simpa using hu)
/-- Cells set one behind the other. -/
noncomputable def setMany (t : T V) (off : Nat) (l : List V) : T V :=
  List.rec (motive := fun _ => T V → Nat → T V) (fun t _ => t) (fun v _ ih t o => ih (t.set o v) (Nat.add o 1)) l t off
theorem setMany_nil (t : T V) (off : Nat) : setMany t off [] = t := rfl
theorem setMany_cons (t : T V) (off : Nat) (v : V) (l : List V) : setMany t off (v :: l) = setMany (t.set off v) (off + 1) l := rfl
theorem rget_setMany (d : List (Nat × V)) : ∀ (l : List V) (t : T V) (off i : Nat), rget d (setMany t off l) i = if off ≤ i ∧ i < off + l.length then l[i - off]? else rget d t i
  | [], t, off, i => by
    rw [setMany_nil, if_neg]
    simp only [List.length_nil]
    omega
  | v :: l, t, off, i => by
    rw [setMany_cons, rget_setMany d l, rget_set]
    simp only [List.length_cons]
    by_cases c1 : off = i
    · subst c1
      rw [if_neg (by omega), if_pos rfl, if_pos (by omega), Nat.sub_self]
      rfl
    · by_cases c2 : off + 1 ≤ i ∧ i < off + 1 + l.length
      · rw [if_pos c2, if_pos (by omega), show i - off = (i - (off + 1)) + 1 by omega]
        rfl
      · rw [if_neg c2, if_neg c1, if_neg (by omega)]
theorem one_all {l : List V} {cs : List Value} (ho : l.all one = true) (hl : cs.length = l.length) (hr : ∀ (i : Nat) (v : V) (c : Value), l[i]? = some v → cs[i]? = some c → VRel ρ v c) : ∀ c, c ∈ cs → c.oneCell' = true := by
  intro c hc
  obtain ⟨i, hi⟩ := List.getElem?_of_mem hc
  have hlt : i < l.length := by rw [← hl]; exact (List.getElem?_eq_some_iff.mp hi).1
  have := hr i l[i] c (List.getElem?_eq_getElem hlt) hi
  exact this.one (List.all_eq_true.mp ho _ (List.getElem_mem hlt))
/-- The cells that a slice or an address reaches, loaded. -/
theorem run_many (r : Rel ρ h w) {k : Nat} {e : Ent} (he : ρ k = some e) {ty gen esz len : Nat} {ro : Bool} {d : List (Nat × V)} {t : T V} (hk : h.t.get k = some (.cells ty gen esz ro len d t))
    {off n : Nat} (hn : off + n ≤ len) {l : List V} (hl : many d t off n = some l) :
    ∃ cs : List Value, (loadCells ⟨e.b, e.at_ + off, none⟩ n).run P w = .ok cs.toArray w ∧ cs.length = l.length ∧ ∀ (i : Nat) (v : V) (c : Value), l[i]? = some v → cs[i]? = some c → VRel ρ v c := by
  obtain ⟨h1, h2⟩ := many_spec d t n off l hl
  refine ⟨(List.range n).map fun j => (w.cell? ⟨e.b, e.at_ + off + j, none⟩).getD undef, ?_, by simp [h1], ?_⟩
  · refine run_loadCells w _ n _ fun j hj => ?_
    rw [addr_add]
    have hlt : j < l.length := by omega
    obtain ⟨c, hc, _⟩ := r.cell he hk (i := off + j) (by omega) (h2 j l[j] (List.getElem?_eq_getElem hlt))
    rw [← Nat.add_assoc] at hc
    rw [hc]; rfl
  · intro i v c hv hc
    have hlt : i < l.length := (List.getElem?_eq_some_iff.mp hv).1
    obtain ⟨c', hc', hr⟩ := r.cell he hk (i := off + i) (by omega) (h2 i v hv)
    rw [← Nat.add_assoc] at hc'
    have : c = c' := by
      simp [List.getElem?_map, List.getElem?_range (show i < n by omega), hc'] at hc
      exact hc.symm
    subst this
    exact hr
theorem run_storeCells : ∀ (vs : List Value) (w : World) (b o i : Nat) (cs : Array Value) (ty : TypeId) (fz : Nat × Nat), w.heap[b]? = some (.cells cs ty fz) → o + i + vs.length ≤ cs.size → (∀ j, j < cs.size → ¬ (fz.1 ≤ j ∧ j < fz.2)) → (∀ c, c ∈ vs → c.oneCell' = true) →
    ∃ w' cs', (storeCells ⟨b, o, none⟩ vs i).run P w = .ok () w' ∧ w'.heap[b]? = some (.cells cs' ty fz) ∧ cs'.size = cs.size ∧ (∀ j, cs'[j]? = if o + i ≤ j ∧ j < o + i + vs.length then vs[j - (o + i)]? else cs[j]?) ∧
      (∀ b', b' ≠ b → w'.heap[b']? = w.heap[b']?) ∧ w'.heap.size = w.heap.size ∧ w'.os = w.os ∧ w'.tape = w.tape ∧ w'.output = w.output
  | [], w, b, o, i, cs, ty, fz, hb, hl, hf, ho => by
    refine ⟨w, cs, rfl, hb, rfl, fun j => ?_, fun _ _ => rfl, rfl, rfl, rfl, rfl⟩
    rw [if_neg]
    simp only [List.length_nil]
    omega
  | v :: vs, w, b, o, i, cs, ty, fz, hb, hl, hf, ho => by
    simp only [List.length_cons] at hl
    have hlt : o + i < cs.size := by omega
    have hcell : w.cell? ⟨b, o + i, none⟩ = some cs[o + i] := cell_of_heap hb (Array.getElem?_eq_getElem hlt)
    have hfr : w.frozen? ⟨b, o + i, none⟩ = false := by
      have := hf _ hlt
      simp only [World.frozen?, hb]
      simpa using this
    have hb1 : (w.setCell ⟨b, o + i, none⟩ v).heap[b]? = some (.cells (cs.setIfInBounds (o + i) v) ty fz) := by
      simp [World.setCell, Array.getElem?_modify, hb]
    have hb2 : ∀ b', b' ≠ b → (w.setCell ⟨b, o + i, none⟩ v).heap[b']? = w.heap[b']? := fun b' hne => RowKit.Below.heap_setCell w _ _ _ hne
    obtain ⟨w', cs', h1, h2, h3, h4, h5, h6, h7, h8, h9⟩ := run_storeCells vs (w.setCell ⟨b, o + i, none⟩ v) b o (i + 1) (cs.setIfInBounds (o + i) v) ty fz hb1 (by simp; omega) (by simpa using hf) (fun c hc => ho c (List.mem_cons_of_mem _ hc))
    refine ⟨w', cs', ?_, h2, h3.trans (by simp), fun j => ?_, fun b' hne => (h5 b' hne).trans (hb2 b' hne), h6.trans (by simp [World.setCell]), h7, h8, h9⟩
    · show ((store ((⟨b, o, none⟩ : Addr).add i) v) >>= fun _ => storeCells ⟨b, o, none⟩ vs (i + 1)).run P w = _
      rw [Sem.run_bind, addr_add, run_store P w _ v .plain (ho v (List.mem_cons_self ..))]
      simp only [hcell, hfr, Bool.false_eq_true, if_false, Result.andThen_ok]
      exact h1
    · rw [h4]
      simp only [List.length_cons]
      by_cases c1 : o + i = j
      · subst c1
        rw [if_neg (by omega), if_pos (by omega), Nat.sub_self, Array.getElem?_setIfInBounds]
        simp [hlt]
      · by_cases c2 : o + (i + 1) ≤ j ∧ j < o + (i + 1) + vs.length
        · rw [if_pos c2, if_pos (by omega), show j - (o + i) = (j - (o + (i + 1))) + 1 by omega]
          rfl
        · rw [if_neg c2, if_neg (by omega), Array.getElem?_setIfInBounds, if_neg c1]
theorem env_same {k : Nat} {e : Ent} (he : ρ k = some e) : (fun j => if j = k then some e else ρ j) = ρ := by
  funext j
  by_cases c : j = k
  · subst c; rw [if_pos rfl, he]
  · rw [if_neg c]
/-- Cells written into a block. -/
theorem step_store (r : Rel ρ h w) {k : Nat} {e : Ent} (he : ρ k = some e) {ty gen esz len : Nat} {d : List (Nat × V)} {t : T V} (hk : h.t.get k = some (.cells ty gen esz false len d t))
    {off : Nat} {l : List V} {cs : List Value} (hn : off + l.length ≤ len) (ho : l.all one = true) (hl : cs.length = l.length) (hr : ∀ (i : Nat) (v : V) (c : Value), l[i]? = some v → cs[i]? = some c → VRel ρ v c) :
    ∃ w', (storeCells ⟨e.b, e.at_ + off, none⟩ cs).run P w = .ok () w' ∧ Step ρ h w ρ (h.put k (.cells ty gen esz false len d (setMany t off l))) w' := by
  obtain ⟨g1, g2, g3, xs, fz, hb, hsz, hlen, hfz, hcs⟩ := r.cells he hk
  obtain ⟨w', xs', h1, h2, h3, h4, h5, h6, h7, h8, h9⟩ := run_storeCells (P := P) cs w e.b (e.at_ + off) 0 xs ty fz hb (by omega) hfz (one_all ho hl hr)
  refine ⟨w', h1, ?_⟩
  have hst := Step.turn (w' := w') r he g3 (.cells ty gen esz false len d (setMany t off l)) (.cells xs' ty fz) e (.inl rfl) g3 (.inl rfl) h2 ?_ h7 h8 h9 (Nat.le_of_eq h6.symm) (fun b _ hne => h5 b hne)
  · rw [env_same he] at hst; exact hst
  · intro ρ' x _
    refine ⟨g1, g2, g3, xs', fz, rfl, h3.trans hsz, hlen, by rw [h3]; exact hfz, fun i hi => ?_⟩
    rw [rget_setMany, h4]
    by_cases c : off ≤ i ∧ i < off + l.length
    · rw [if_pos c, if_pos (by omega)]
      have hlt : i - off < l.length := by omega
      refine ⟨l[i - off], cs[i - off]'(by omega), List.getElem?_eq_getElem hlt, ?_, ?_⟩
      · rw [show e.at_ + i - (e.at_ + off + 0) = i - off by omega]; exact List.getElem?_eq_getElem _
      · exact (hr _ _ _ (List.getElem?_eq_getElem hlt) (List.getElem?_eq_getElem (by omega))).ext x
    · rw [if_neg c, if_neg (by omega)]
      obtain ⟨v, c', q1, q2, q3⟩ := hcs i hi
      exact ⟨v, c', q1, q2, q3.ext x⟩
end
end Go.Ev
/- What an operation that changes no memory comes to, reckoned by the kernel; and that the machine's operation comes to the same. No condition but what each theorem says. -/
namespace Go.Ev
set_option linter.unusedVariables false
set_option linter.unusedSimpArgs false
open Go
section
variable (P : Program)
def siz (t : TypeId) : Option Nat := match P.info? t with | some i => some i.size | none => none
def aggB (t : TypeId) : Option Bool := match P.underlying t with | some (.struct _) => some true | some (.array _ _) => some true | some _ => some false | none => none
end
section
variable {P : Program} {ρ : Env} {h : H} {w : World}
theorem run_und {t : TypeId} {d : TypeDesc} (hd : P.underlying t = some d) (w : World) : (underlying t).run P w = .ok d w := by simp [underlying, hd]
theorem run_siz {t n : Nat} (hd : siz P t = some n) (w : World) : (sizeOf t).run P w = .ok n w := by
  unfold siz at hd
  cases hi : P.info? t with
  | none => rw [hi] at hd; cases hd
  | some i => rw [hi] at hd; injection hd with hd; simp [sizeOf, typeInfo, hi, hd]
theorem run_agg {t : Nat} {b : Bool} (hd : aggB P t = some b) (w : World) : (isAgg t).run P w = .ok b w := by
  unfold aggB at hd
  cases hu : P.underlying t with
  | none => rw [hu] at hd; cases hd
  | some d => rw [hu] at hd; cases d <;> injection hd with hd <;> subst hd <;> simp [isAgg, underlying, hu]
/-! ### constants -/
def constS : Value → Option V
  | .bool b => some (.bool b)
  | .int k n => some (.int k n)
  | .string s => some (.str s)
  | .pointer none => some .pnil
  | .slice none 0 0 => some .snil
  | .map none => some .mnil
  | .nilFunc => some .fnil
  | .nilIface => some .inil
  | _ => none
theorem constS_rel {c : Value} {v : V} (hc : constS c = some v) : VRel ρ v c := by
  unfold constS at hc
  split at hc <;> first | (injection hc with hc; subst hc; constructor) | cases hc
def same1 : V → V → Bool
  | .int k n, .int k' n' => k == k' && n == n'
  | .bool a, .bool b => a == b
  | _, _ => false
theorem same1_eq {a b : V} (hs : same1 a b = true) : a = b := by
  unfold same1 at hs
  split at hs
  · simp at hs; rw [hs.1, hs.2]
  · simp at hs; rw [hs]
  · cases hs
def consR (v : V) : List (Nat × V) → List (Nat × V)
  | (n, u) :: r => match same1 v u with | true => (n + 1, u) :: r | false => (1, v) :: (n, u) :: r
  | [] => [(1, v)]
theorem dget_cons_hit (n : Nat) (v : V) (r : List (Nat × V)) {i : Nat} (hi : i < n) : dget ((n, v) :: r) i = some v := by
  have : Nat.ble n i = false := by
    cases hb : Nat.ble n i with
    | false => rfl
    | true => exact absurd (Nat.le_of_ble_eq_true hb) (by omega)
  simp only [dget, this, cond_false]
theorem dget_cons_miss (n : Nat) (v : V) (r : List (Nat × V)) {i : Nat} (hi : n ≤ i) : dget ((n, v) :: r) i = dget r (i - n) := by
  have : Nat.ble n i = true := Nat.ble_eq_true_of_le hi
  simp only [dget, this, cond_true]
  rfl
theorem consR_t {v u : V} {n : Nat} {r : List (Nat × V)} (hs : same1 v u = true) : consR v ((n, u) :: r) = (n + 1, u) :: r := by simp [consR, hs]
theorem consR_f {v u : V} {n : Nat} {r : List (Nat × V)} (hs : same1 v u = false) : consR v ((n, u) :: r) = (1, v) :: (n, u) :: r := by simp [consR, hs]
theorem dget_consR_0 (v : V) (d : List (Nat × V)) : dget (consR v d) 0 = some v := by
  cases d with
  | nil => rfl
  | cons p r =>
    obtain ⟨n, u⟩ := p
    cases hs : same1 v u with
    | true => rw [consR_t hs, dget_cons_hit _ _ _ (Nat.succ_pos n), same1_eq hs]
    | false => rw [consR_f hs, dget_cons_hit _ _ _ (Nat.succ_pos 0)]
theorem dget_consR_S (v : V) (d : List (Nat × V)) (i : Nat) : dget (consR v d) (i + 1) = dget d i := by
  cases d with
  | nil => simp [consR, dget, Nat.ble]
  | cons p r =>
    obtain ⟨n, u⟩ := p
    cases hs : same1 v u with
    | true =>
      rw [consR_t hs]
      by_cases hi : i < n
      · rw [dget_cons_hit _ _ _ hi, dget_cons_hit _ _ _ (by omega)]
      · rw [dget_cons_miss _ _ _ (by omega), dget_cons_miss _ _ _ (by omega), Nat.add_sub_add_right]
    | false =>
      rw [consR_f hs, dget_cons_miss _ _ _ (by omega)]
      rfl
/-- Constants one behind the other: how many of each. -/
def rle (d : List (Nat × V)) : List Value → Option (List (Nat × V))
  | [] => some d
  | c :: l => match constS c with | some v => rle (consR v d) l | none => none
theorem rle_spec : ∀ (l : List Value) (d r : List (Nat × V)) (m : Nat), rle d l = some r → (∀ i, (i < l.length → ∃ c v, l[l.length - 1 - i]? = some c ∧ constS c = some v ∧ dget r i = some v) ∧ (l.length ≤ i → dget r i = dget d (i - l.length)))
  | [], d, r, m, hr => by
    injection hr with hr; subst hr
    intro i
    exact ⟨fun hi => absurd hi (Nat.not_lt_zero _), fun _ => rfl⟩
  | c :: l, d, r, m, hr => by
    unfold rle at hr
    cases hc : constS c with
    | none => rw [hc] at hr; cases hr
    | some v =>
      rw [hc] at hr
      have ih := rle_spec l (consR v d) r m hr
      intro i
      simp only [List.length_cons]
      constructor
      · intro hi
        by_cases hl : i < l.length
        · obtain ⟨c', v', h1, h2, h3⟩ := (ih i).1 hl
          refine ⟨c', v', ?_, h2, h3⟩
          rw [show l.length + 1 - 1 - i = (l.length - 1 - i) + 1 by omega]
          exact h1
        · obtain rfl : i = l.length := by omega
          refine ⟨c, v, ?_, hc, ?_⟩
          · rw [show l.length + 1 - 1 - l.length = 0 by omega]; rfl
          · rw [(ih _).2 (Nat.le_refl _), Nat.sub_self]; exact dget_consR_0 v d
      · intro hi
        rw [(ih i).2 (by omega), show i - l.length = (i - (l.length + 1)) + 1 by omega]
        exact dget_consR_S v d _
def constV : Value → Option V
  | .agg cs => match rle [] cs.toList.reverse with | some d => some (.agg cs.size d .e) | none => none
  | .iface t v => match constS v with | some u => some (.iface t u) | none => none
  | .tuple cs => match cs.size with | 0 => some (.tup []) | _ => none
  | v => constS v
theorem constV_rel {c : Value} {v : V} (hc : constV c = some v) : VRel ρ v c := by
  unfold constV at hc
  split at hc
  · rename_i cs
    cases hr : rle [] cs.toList.reverse with
    | none => rw [hr] at hc; cases hc
    | some d =>
      rw [hr] at hc; injection hc with hc; subst hc
      have hs := rle_spec _ _ _ 0 hr
      simp only [List.length_reverse, Array.length_toList] at hs
      refine .agg rfl (fun i hi => ?_) (fun i v c hv hc => ?_)
      · obtain ⟨c, v, _, _, h3⟩ := (hs i).1 hi
        exact ⟨v, h3⟩
      · have hi : i < cs.size := (Array.getElem?_eq_some_iff.mp hc).1
        obtain ⟨c', v', h1, h2, h3⟩ := (hs i).1 hi
        have hv' : dget d i = some v := hv
        rw [hv'] at h3; injection h3 with h3; subst h3
        have : cs[i]? = some c' := by
          rw [← h1, List.getElem?_reverse (by simp; omega)]
          simp only [Array.length_toList, Array.getElem?_toList]
          congr 1
          omega
        rw [hc] at this; injection this with this; subst this
        exact constS_rel h2
  · rename_i t v
    cases hv : constS v with
    | none => rw [hv] at hc; cases hc
    | some u => rw [hv] at hc; injection hc with hc; subst hc; exact .iface (constS_rel hv)
  · rename_i cs
    cases hn : cs.size with
    | zero =>
      rw [hn] at hc; injection hc with hc; subst hc
      have : cs = #[] := Array.eq_empty_of_size_eq_zero hn
      subst this
      exact .tup rfl fun i v c hv _ => by simp at hv
    | succ n => rw [hn] at hc; cases hc
  · exact constS_rel hc
/-- A value's cells. -/
noncomputable def cellsV : V → Option (List V)
  | .agg n d t => many d t 0 n
  | .tup _ => none
  | v => some [v]
theorem cellsV_rel {v : V} {c : Value} (r : VRel ρ v c) {l : List V} (hl : cellsV v = some l) : c.cells.size = l.length ∧ ∀ (i : Nat) (u : V) (x : Value), l[i]? = some u → c.cells[i]? = some x → VRel ρ u x := by
  cases r with
  | @agg n d t cs hs hd hh =>
    obtain ⟨h1, h2⟩ := many_spec d t n 0 l hl
    refine ⟨hs.trans h1.symm, fun i u x hu hx => hh i u x ?_ hx⟩
    rw [← Nat.zero_add i]; exact h2 i u hu
  | tup hs hh => cases hl
  | _ =>
    injection hl with hl; subst hl
    refine ⟨rfl, fun i u x hu hx => ?_⟩
    cases i with
    | zero =>
      simp [Value.cells] at hu hx
      subst hu; subst hx
      constructor <;> assumption
    | succ i => simp at hu
end
end Go.Ev
/- Addresses, cuts, fields, elements, loads: reckoned by the kernel; and that the machine's operation comes to the same. No condition but what each theorem says. -/
namespace Go.Ev
set_option linter.unusedVariables false
set_option linter.unusedSimpArgs false
open Go
section
variable {P : Program} {ρ : Env} {h : H} {w : World}
theorem ptr_now (r : Rel ρ h w) {k gen off : Nat} {c : Value} (hv : VRel ρ (.ptr k gen off) c) {ty esz len : Nat} {ro : Bool} {d : List (Nat × V)} {t : T V} (hk : h.t.get k = some (.cells ty gen esz ro len d t)) :
    ∃ e, ρ k = some e ∧ c = .pointer (some ⟨e.b, e.at_ + off, none⟩) := by
  cases hv with
  | ptr he hg => exact ⟨_, he, rfl⟩
  | ptrOld he hg =>
    have := (r.cells he hk).1
    omega
theorem slice_now (r : Rel ρ h w) {k gen off n : Nat} {cap : Option Nat} {c : Value} (hv : VRel ρ (.slice k gen off n cap) c) {ty esz len : Nat} {ro : Bool} {d : List (Nat × V)} {t : T V} (hk : h.t.get k = some (.cells ty gen esz ro len d t)) :
    ∃ e m, ρ k = some e ∧ c = .slice (some ⟨e.b, e.at_ + off, none⟩) n m ∧ (∀ x, cap = some x → m = x) ∧ n ≤ m ∧ (cap = none → off + m * e.esz ≤ e.room) := by
  cases hv with
  | slice he hg h1 h2 h3 => exact ⟨_, _, he, rfl, h1, h2, h3⟩
  | sliceOld he hg =>
    have := (r.cells he hk).1
    omega
theorem agg_of_list {l : List V} {cs : List Value} (hl : cs.length = l.length) (hr : ∀ (i : Nat) (v : V) (c : Value), l[i]? = some v → cs[i]? = some c → VRel ρ v c) : VRel ρ (.agg l.length [] (setMany .e 0 l)) (.agg cs.toArray) := by
  refine .agg (by simp [hl]) (fun i hi => ⟨l[i], ?_⟩) (fun i v c hv hc => ?_)
  · rw [rget_setMany, if_pos (by omega)]
    simp
  · rw [rget_setMany] at hv
    by_cases hi : 0 ≤ i ∧ i < 0 + l.length
    · rw [if_pos hi] at hv
      exact hr i v c (by simpa using hv) (by simpa using hc)
    · rw [if_neg hi] at hv; cases hv
/-! ### load -/
noncomputable def loadO (P : Program) (t : TypeId) (gen off : Nat) : O → Option V
  | .cells _ g _ _ len d t' =>
    match Nat.beq g gen with
    | true => match aggB P t with
      | some false => match Nat.ble (off + 1) len with
        | true => rget d t' off
        | false => none
      | some true => match siz P t with
        | some n => match Nat.ble (off + n) len with
          | true => match many d t' off n with
            | some l => some (.agg n [] (setMany .e 0 l))
            | none => none
          | false => none
        | none => none
      | none => none
    | false => none
  | .map _ => none
noncomputable def evLoad (P : Program) (h : H) (t : TypeId) : V → Option V
  | .ptr k gen off => match h.t.get k with | some o => loadO P t gen off o | none => none
  | _ => none
theorem evLoad_sound (r : Rel ρ h w) {t : TypeId} {a v : V} {c : Value} (hv : VRel ρ a c) (he : evLoad P h t a = some v) : ∃ x, (Instr.loadAt t c).run P w = .ok x w ∧ VRel ρ v x := by
  unfold evLoad at he
  split at he
  · rename_i k gen off
    split at he
    · rename_i o hk
      unfold loadO at he
      split at he
      · rename_i ty g esz ro len d t'
        split at he
        · rename_i hg
          obtain rfl := Nat.eq_of_beq_eq_true hg
          obtain ⟨e, hek, rfl⟩ := ptr_now r hv hk
          split at he
          · rename_i ha
            split at he
            · rename_i hlt
              obtain ⟨x, hx, hr⟩ := r.cell hek hk (i := off) (Nat.le_of_ble_eq_true hlt) he
              refine ⟨x, ?_, hr⟩
              simp only [Instr.loadAt, Instr.sureAddr, loadVar, Sem.run_bind, Sem.run_pure, Result.andThen_ok, run_agg ha, Bool.false_eq_true, if_false, run_load, hx]
            · cases he
          · rename_i ha
            split at he
            · rename_i n hn
              split at he
              · rename_i hle
                split at he
                · rename_i l hl
                  injection he with he; subst he
                  obtain ⟨cs, h1, h2, h3⟩ := run_many (P := P) r hek hk (Nat.le_of_ble_eq_true hle) hl
                  refine ⟨.agg cs.toArray, ?_, ?_⟩
                  · simp only [Instr.loadAt, Instr.sureAddr, loadVar, Sem.run_bind, Sem.run_pure, Result.andThen_ok, run_agg ha, if_true, run_siz hn, h1]
                  · have := agg_of_list h2 h3
                    rwa [(many_spec _ _ _ _ _ hl).1] at this
                · cases he
              · cases he
            · cases he
          · cases he
        · cases he
      · cases he
    · cases he
  · cases he
/-! ### addresses -/
def evFieldAddr (P : Program) (s : TypeId) (f : Nat) : V → Option V
  | .ptr k gen off => match P.underlying s with
    | some (.struct fs) => match fs[f]? with
      | some fd => match siz P fd.type with
        | some (_ + 1) => some (.ptr k gen (Nat.add off fd.offset))
        | _ => none
      | none => none
    | _ => none
  | _ => none
theorem ptr_move {k gen off n : Nat} {c : Value} (hv : VRel ρ (.ptr k gen off) c) : ∃ a : Addr, c = .pointer (some a) ∧ VRel ρ (.ptr k gen (off + n)) (.pointer (some (a.add n))) := by
  cases hv with
  | ptr he hg => exact ⟨_, rfl, by rw [addr_add, Nat.add_assoc]; exact .ptr he hg⟩
  | ptrOld he hg => exact ⟨_, rfl, .ptrOld he hg⟩
theorem evFieldAddr_sound (w : World) {s : TypeId} {f : Nat} {a v : V} {c : Value} (hv : VRel ρ a c) (he : evFieldAddr P s f a = some v) : ∃ x, (Instr.fieldAt s c f).run P w = .ok x w ∧ VRel ρ v x := by
  unfold evFieldAddr at he
  split at he
  · rename_i k gen off
    split at he
    · rename_i fs hu
      split at he
      · rename_i fd hf
        split at he
        · rename_i n hn
          injection he with he; subst he
          obtain ⟨ad, rfl, hr⟩ := ptr_move (n := fd.offset) hv
          refine ⟨_, ?_, hr⟩
          simp [Instr.fieldAt, Instr.sureAddr, fieldPlace, run_und hu, hf, run_siz hn]
        · cases he
      · cases he
    · cases he
  · cases he
noncomputable def genIs (h : H) (k gen : Nat) : Bool :=
  match h.t.get k with
  | some (.cells _ g _ _ _ _ _) => Nat.beq g gen
  | _ => false
theorem genIs_cells {k gen : Nat} (hg : genIs h k gen = true) : ∃ ty esz ro len d t, h.t.get k = some (.cells ty gen esz ro len d t) := by
  unfold genIs at hg
  split at hg
  · rename_i hk
    obtain rfl := Nat.eq_of_beq_eq_true hg
    exact ⟨_, _, _, _, _, _, hk⟩
  · cases hg
/-- A number that isn't negative, as such. -/
def natOf : V → Option Nat
  | .int _ (.ofNat n) => some n
  | _ => none
theorem natOf_rel {v : V} {c : Value} {n : Nat} (hv : VRel ρ v c) (hn : natOf v = some n) : ∃ k, c = .int k (n : Int) := by
  unfold natOf at hn
  split at hn
  · injection hn with hn; subst hn
    cases hv
    exact ⟨_, rfl⟩
  · cases hn
noncomputable def evIndexAddr (P : Program) (h : H) (t : TypeId) (x i : V) : Option V :=
  match natOf i with
  | some n => match P.underlying t, x with
    | some (.array len elem), .ptr k gen off => match Nat.ble (n + 1) len with
      | true => match siz P elem with
        | some s => some (.ptr k gen (Nat.add off (Nat.mul n s)))
        | none => none
      | false => none
    | some (.slice elem), .slice k gen off len _ => match genIs h k gen with
      | true => match Nat.ble (n + 1) len with
        | true => match siz P elem with
          | some s => some (.ptr k gen (Nat.add off (Nat.mul n s)))
          | none => none
        | false => none
      | false => none
    | _, _ => none
  | none => none
theorem evIndexAddr_sound (r : Rel ρ h w) {t : TypeId} {a i v : V} {c ci : Value} (hv : VRel ρ a c) (hi : VRel ρ i ci) (he : evIndexAddr P h t a i = some v) : ∃ x, (Instr.indexAt t c ci).run P w = .ok x w ∧ VRel ρ v x := by
  unfold evIndexAddr at he
  split at he
  · rename_i n hn
    obtain ⟨ik, rfl⟩ := natOf_rel hi hn
    split at he
    · rename_i len elem k gen off hu
      split at he
      · rename_i hlt
        have hlt := Nat.le_of_ble_eq_true hlt
        split at he
        · rename_i s hs
          injection he with he; subst he
          obtain ⟨ad, rfl, hr⟩ := ptr_move (n := n * s) hv
          refine ⟨_, ?_, hr⟩
          have hlt' : n < len := hlt
          simp [Instr.indexAt, Instr.sureAddr, asIntOf, run_und hu, run_siz hs, hlt']
        · cases he
      · cases he
    · rename_i elem k gen off len cap hu
      split at he
      · rename_i hg
        obtain ⟨ty, esz, ro, len', d, t', hk⟩ := genIs_cells hg
        split at he
        · rename_i hlt
          have hlt : n < len := Nat.le_of_ble_eq_true hlt
          split at he
          · rename_i s hs
            injection he with he; subst he
            obtain ⟨e, m, hek, rfl, _, _, _⟩ := slice_now r hv hk
            refine ⟨.pointer (some ((⟨e.b, e.at_ + off, none⟩ : Addr).add (n * s))), ?_, ?_⟩
            · simp [Instr.indexAt, asIntOf, run_und hu, run_siz hs, hlt]
            · rw [addr_add, Nat.add_assoc]
              exact .ptr hek (r.cells hek hk).1
          · cases he
        · cases he
      · cases he
    · cases he
  · cases he
/-! ### fields and elements of values -/
noncomputable def partV (P : Program) (t : TypeId) (n : Nat) (d : List (Nat × V)) (t' : T V) (off : Nat) : Option V :=
  match aggB P t with
  | some false => match Nat.ble (off + 1) n with
    | true => rget d t' off
    | false => none
  | some true => match siz P t with
    | some s => match Nat.ble (off + s) n with
      | true => match many d t' off s with
        | some l => some (.agg s [] (setMany .e 0 l))
        | none => none
      | false => none
    | none => none
  | none => none
theorem partV_sound (w : World) {t : TypeId} {n off : Nat} {d : List (Nat × V)} {t' : T V} {cs : Array Value} {v : V} (hv : VRel ρ (.agg n d t') (.agg cs)) (he : partV P t n d t' off = some v) : ∃ x, (part t cs off).run P w = .ok x w ∧ VRel ρ v x := by
  cases hv with
  | agg hs hd hh =>
  unfold partV at he
  split at he
  · rename_i ha
    split at he
    · rename_i hlt
      have hlt : off < cs.size := by have := Nat.le_of_ble_eq_true hlt; omega
      refine ⟨cs[off], ?_, hh off v _ he (Array.getElem?_eq_getElem hlt)⟩
      simp [part, run_agg ha, Array.getElem?_eq_getElem hlt]
    · cases he
  · rename_i ha
    split at he
    · rename_i s hsz
      split at he
      · rename_i hle
        have hle := Nat.le_of_ble_eq_true hle
        split at he
        · rename_i l hl
          injection he with he; subst he
          obtain ⟨h1, h2⟩ := many_spec _ _ _ _ _ hl
          refine ⟨.agg (cs.extract off (off + s)), ?_, ?_⟩
          · simp [part, run_agg ha, run_siz hsz]
          · have hlen : (cs.extract off (off + s)).toList.length = l.length := by simp; omega
            have := agg_of_list (ρ := ρ) (l := l) (cs := (cs.extract off (off + s)).toList) hlen (fun i u x hu hx => by
              refine hh (off + i) u x (h2 i u hu) ?_
              have hi : i < l.length := (List.getElem?_eq_some_iff.mp hu).1
              rw [Array.getElem?_toList, Array.getElem?_extract, if_pos (by omega)] at hx
              exact hx)
            rw [h1, Array.toArray_toList] at this
            exact this
        · cases he
      · cases he
    · cases he
  · cases he
noncomputable def evField (P : Program) (s : TypeId) (f : Nat) : V → Option V
  | .agg n d t => match P.underlying s with
    | some (.struct fs) => match fs[f]? with
      | some fd => partV P fd.type n d t fd.offset
      | none => none
    | _ => none
  | _ => none
theorem evField_sound (w : World) {s : TypeId} {f : Nat} {a v : V} {c : Value} (hv : VRel ρ a c) (he : evField P s f a = some v) : ∃ x, (Instr.field s c f).run P w = .ok x w ∧ VRel ρ v x := by
  unfold evField at he
  split at he
  · rename_i n d t
    split at he
    · rename_i fs hu
      split at he
      · rename_i fd hf
        obtain ⟨cs, rfl⟩ : ∃ cs, c = .agg cs := by cases hv; exact ⟨_, rfl⟩
        obtain ⟨x, hx, hr⟩ := partV_sound w hv he
        exact ⟨x, by simp [Instr.field, run_und hu, hf, asAgg, hx], hr⟩
      · cases he
    · cases he
  · cases he
noncomputable def evIndex (P : Program) (t : TypeId) (x i : V) : Option V :=
  match natOf i with
  | some n => match P.underlying t, x with
    | some (.array len elem), .agg m d t' => match Nat.ble (n + 1) len with
      | true => match siz P elem with
        | some s => partV P elem m d t' (Nat.mul n s)
        | none => none
      | false => none
    | some .string, .str s => match s.data.toList[n]? with
      | some b => some (.int .u8 (Int.ofNat b.toNat))
      | none => none
    | _, _ => none
  | none => none
theorem evIndex_sound (w : World) {t : TypeId} {a i v : V} {c ci : Value} (hv : VRel ρ a c) (hi : VRel ρ i ci) (he : evIndex P t a i = some v) : ∃ x, (Instr.index t c ci).run P w = .ok x w ∧ VRel ρ v x := by
  unfold evIndex at he
  split at he
  · rename_i n hn
    obtain ⟨ik, rfl⟩ := natOf_rel hi hn
    split at he
    · rename_i len elem m d t' hu
      split at he
      · rename_i hlt
        have hlt : n < len := Nat.le_of_ble_eq_true hlt
        split at he
        · rename_i s hs
          obtain ⟨cs, rfl⟩ : ∃ cs, c = .agg cs := by cases hv; exact ⟨_, rfl⟩
          obtain ⟨x, hx, hr⟩ := partV_sound w hv he
          have hx : (part elem cs (n * s)).run P w = .ok x w := hx
          exact ⟨x, by simp [Instr.index, asIntOf, run_und hu, hlt, run_siz hs, hx], hr⟩
        · cases he
      · cases he
    · rename_i s hu
      split at he
      · rename_i b hb
        injection he with he; subst he
        cases hv
        refine ⟨_, ?_, .int _ _⟩
        have hb' : s[n]? = some b := by
          have : n < s.data.toList.length := (List.getElem?_eq_some_iff.mp hb).1
          have hn : n < s.size := this
          rw [List.getElem?_eq_getElem this] at hb
          injection hb with hb
          rw [getElem?_pos s n hn]
          congr 1
        simp [Instr.index, asIntOf, run_und hu, hb']
      · cases he
    · cases he
  · cases he
def evExtract (i : Nat) : V → Option V
  | .tup l => l[i]?
  | _ => none
theorem evExtract_sound (w : World) {i : Nat} {a v : V} {c : Value} (hv : VRel ρ a c) (he : evExtract i a = some v) : ∃ x, (Instr.extract c i).run P w = .ok x w ∧ VRel ρ v x := by
  unfold evExtract at he
  split at he
  · cases hv with
    | tup hs hh =>
    rename_i l cs
    have hi : i < cs.size := by rw [hs]; exact (List.getElem?_eq_some_iff.mp he).1
    exact ⟨cs[i], by simp [Instr.extract, Array.getElem?_eq_getElem hi], hh i v _ he (Array.getElem?_eq_getElem hi)⟩
  · cases he
end
end Go.Ev
/- Numbers, comparisons, conversions, cuts, built values: reckoned by the kernel; and that the machine's operation comes to the same. No condition but what each theorem says. -/
namespace Go.Ev
set_option linter.unusedVariables false
set_option linter.unusedSimpArgs false
open Go
/-! ### numbers -/
def wrapF (k : IntKind) : Int → Int
  | .ofNat m => match k with
    | .u64 => .ofNat (Nat.mod m 18446744073709551616)
    | .u8 => .ofNat (Nat.mod m 256)
    | .u16 => .ofNat (Nat.mod m 65536)
    | .u32 => .ofNat (Nat.mod m 4294967296)
    | .i64 => match Nat.ble m 9223372036854775807 with
      | true => .ofNat m
      | false => IntKind.wrap .i64 (.ofNat m)
    | .i32 => match Nat.ble m 2147483647 with
      | true => .ofNat m
      | false => IntKind.wrap .i32 (.ofNat m)
    | k => k.wrap (.ofNat m)
  | n => k.wrap n
theorem wrap_i64_in (m : Nat) (hm : m ≤ 9223372036854775807) : IntKind.wrap .i64 (m : Int) = m := by
  have : ((m : Int) % (2 ^ IntKind.i64.bits : Int)) = m := by
    show ((m : Int) % 18446744073709551616) = m
    omega
  unfold IntKind.wrap
  simp only [this]
  rw [if_neg]
  show ¬ (IntKind.i64.signed && decide ((m : Int) ≥ 9223372036854775808)) = true
  simp [IntKind.signed]
  omega
theorem wrap_i32_in (m : Nat) (hm : m ≤ 2147483647) : IntKind.wrap .i32 (m : Int) = m := by
  have : ((m : Int) % (2 ^ IntKind.i32.bits : Int)) = m := by
    show ((m : Int) % 4294967296) = m
    omega
  unfold IntKind.wrap
  simp only [this]
  rw [if_neg]
  show ¬ (IntKind.i32.signed && decide ((m : Int) ≥ 2147483648)) = true
  simp [IntKind.signed]
  omega
theorem wrap_u (k : IntKind) (hk : k.signed = false) (n : Int) : k.wrap n = n % (2 ^ k.bits : Int) := by
  unfold IntKind.wrap
  simp [hk]
theorem wrapF_eq (k : IntKind) (n : Int) : wrapF k n = k.wrap n := by
  cases n with
  | negSucc m => rfl
  | ofNat m =>
    cases k <;> simp only [wrapF]
    · split
      · rename_i hb; exact (wrap_i32_in m (Nat.le_of_ble_eq_true hb)).symm
      · rfl
    · split
      · rename_i hb; exact (wrap_i64_in m (Nat.le_of_ble_eq_true hb)).symm
      · rfl
    · rw [wrap_u _ rfl]; rfl
    · rw [wrap_u _ rfl]; rfl
    · rw [wrap_u _ rfl]; rfl
    · rw [wrap_u _ rfl]; rfl
def eqI : Int → Int → Bool
  | .ofNat a, .ofNat b => Nat.beq a b
  | .negSucc a, .negSucc b => Nat.beq a b
  | _, _ => false
theorem eqI_eq (a b : Int) : eqI a b = (a == b) := by
  cases a <;> cases b <;> simp only [eqI]
  · rename_i a b
    rw [Bool.eq_iff_iff, beq_iff_eq, Nat.beq_eq]
    exact ⟨fun h => by rw [h], fun h => Int.ofNat.inj h⟩
  · simp
  · simp
  · rename_i a b
    rw [Bool.eq_iff_iff, beq_iff_eq, Nat.beq_eq]
    exact ⟨fun h => by rw [h], fun h => Int.negSucc.inj h⟩
def leI : Int → Int → Bool
  | .ofNat a, .ofNat b => Nat.ble a b
  | .negSucc a, .negSucc b => Nat.ble b a
  | .negSucc _, .ofNat _ => true
  | .ofNat _, .negSucc _ => false
theorem leI_eq (a b : Int) : leI a b = decide (a ≤ b) := by
  rw [Bool.eq_iff_iff, decide_eq_true_iff]
  cases a with
  | ofNat a =>
    cases b with
    | ofNat b =>
      show Nat.ble a b = true ↔ (a : Int) ≤ (b : Int)
      rw [Nat.ble_eq]; omega
    | negSucc b =>
      show false = true ↔ (a : Int) ≤ Int.negSucc b
      rw [Int.negSucc_eq]
      constructor
      · intro h; cases h
      · intro h; omega
  | negSucc a =>
    cases b with
    | ofNat b =>
      show true = true ↔ Int.negSucc a ≤ (b : Int)
      rw [Int.negSucc_eq]
      constructor
      · intro _; omega
      · intro _; rfl
    | negSucc b =>
      show Nat.ble b a = true ↔ Int.negSucc a ≤ Int.negSucc b
      rw [Nat.ble_eq, Int.negSucc_eq, Int.negSucc_eq]; omega
def mulP (n : Nat) : Int → Int
  | .ofNat m => .ofNat (Nat.mul m (Nat.pow 2 n))
  | x => x * 2 ^ n
theorem mulP_eq (n : Nat) (x : Int) : mulP n x = x * 2 ^ n := by
  cases x with
  | negSucc m => rfl
  | ofNat m =>
    show ((m * 2 ^ n : Nat) : Int) = (m : Int) * 2 ^ n
    simp
def divP (n : Nat) : Int → Int
  | .ofNat m => .ofNat (Nat.div m (Nat.pow 2 n))
  | x => x.fdiv (2 ^ n)
theorem divP_eq (n : Nat) (x : Int) : divP n x = x.fdiv (2 ^ n) := by
  cases x with
  | negSucc m => rfl
  | ofNat m =>
    show ((m / 2 ^ n : Nat) : Int) = (m : Int).fdiv (2 ^ n)
    rw [Int.fdiv_eq_ediv_of_nonneg _ (Int.pow_nonneg (by decide))]
    simp
def bitsG (op : BinOp) (k : IntKind) (x y : Int) : Option Int :=
  match op with
  | .and => some (k.wrap (BitVec.ofInt k.bits x &&& BitVec.ofInt k.bits y).toNat)
  | .or => some (k.wrap (BitVec.ofInt k.bits x ||| BitVec.ofInt k.bits y).toNat)
  | .xor => some (k.wrap (BitVec.ofInt k.bits x ^^^ BitVec.ofInt k.bits y).toNat)
  | .andNot => some (k.wrap (BitVec.ofInt k.bits x &&& ~~~ BitVec.ofInt k.bits y).toNat)
  | _ => none
def bits64 (op : BinOp) (a b : Nat) : Option Int :=
  match op with
  | .and => some (.ofNat (Nat.land a b))
  | .or => some (.ofNat (Nat.lor a b))
  | .xor => some (.ofNat (Nat.xor a b))
  | _ => none
def bitsF (op : BinOp) (k : IntKind) (x y : Int) : Option Int :=
  match k, x, y with
  | .u64, .ofNat a, .ofNat b => match Nat.ble a 18446744073709551615, Nat.ble b 18446744073709551615, bits64 op a b with
    | true, true, some z => some z
    | _, _, _ => bitsG op k x y
  | .i64, .ofNat a, .ofNat b => match Nat.ble a 9223372036854775807, Nat.ble b 9223372036854775807, bits64 op a b with
    | true, true, some z => some z
    | _, _, _ => bitsG op k x y
  | k, x, y => bitsG op k x y
theorem bits64_eq {op : BinOp} {k : IntKind} (hk : k = .u64 ∨ k = .i64) {a b : Nat} {z : Int} (ha : a ≤ 18446744073709551615) (hb : b ≤ 18446744073709551615) (h63 : k = .i64 → a ≤ 9223372036854775807 ∧ b ≤ 9223372036854775807) (hz : bits64 op a b = some z) : bitsG op k (a : Int) (b : Int) = some z := by
  have hbits : k.bits = 64 := by rcases hk with rfl | rfl <;> rfl
  have h1 : ∀ n : Nat, n ≤ 18446744073709551615 → (BitVec.ofInt k.bits (n : Int)).toNat = n := by
    intro n hn
    rw [BitVec.toNat_ofInt, hbits]
    show (((n : Int) % 18446744073709551616)).toNat = n
    omega
  have hw : ∀ n : Nat, n ≤ 18446744073709551615 → (k = .i64 → n ≤ 9223372036854775807) → k.wrap (n : Int) = n := by
    intro n hn h
    rcases hk with rfl | rfl
    · rw [wrap_u _ rfl]
      show ((n : Int) % 18446744073709551616) = n
      omega
    · exact wrap_i64_in n (h rfl)
  have and_le : ∀ x y : Nat, x &&& y ≤ x := fun x y => Nat.and_le_left
  have pw : ∀ x y m : Nat, x < 2 ^ m → y < 2 ^ m → x ||| y < 2 ^ m ∧ x ^^^ y < 2 ^ m := fun x y m hx hy => ⟨Nat.or_lt_two_pow hx hy, Nat.xor_lt_two_pow hx hy⟩
  have p64 : (18446744073709551615 : Nat) + 1 = 2 ^ 64 := by decide
  have p63 : (9223372036854775807 : Nat) + 1 = 2 ^ 63 := by decide
  cases op <;> simp only [bits64] at hz <;> try cases hz
  · simp only [bitsG, BitVec.toNat_and, h1 a ha, h1 b hb]
    exact congrArg some (hw (a &&& b) (Nat.le_trans (and_le a b) ha) fun e => Nat.le_trans (and_le a b) (h63 e).1)
  · simp only [bitsG, BitVec.toNat_or, h1 a ha, h1 b hb]
    refine congrArg some (hw (a ||| b) ?_ fun e => ?_)
    · have := (pw a b 64 (by omega) (by omega)).1; omega
    · have := (pw a b 63 (by have := h63 e; omega) (by have := h63 e; omega)).1; omega
  · simp only [bitsG, BitVec.toNat_xor, h1 a ha, h1 b hb]
    refine congrArg some (hw (a ^^^ b) ?_ fun e => ?_)
    · have := (pw a b 64 (by omega) (by omega)).2; omega
    · have := (pw a b 63 (by have := h63 e; omega) (by have := h63 e; omega)).2; omega
theorem bitsF_eq (op : BinOp) (k : IntKind) (x y z : Int) (hz : bitsF op k x y = some z) : bitsG op k x y = some z := by
  unfold bitsF at hz
  split at hz
  · split at hz
    · rename_i a b h1 h2 h3
      injection hz with hz; subst hz
      exact bits64_eq (.inl rfl) (Nat.le_of_ble_eq_true h1) (Nat.le_of_ble_eq_true h2) (fun e => by cases e) h3
    · exact hz
  · split at hz
    · rename_i a b h1 h2 h3
      injection hz with hz; subst hz
      have h1 := Nat.le_of_ble_eq_true h1
      have h2 := Nat.le_of_ble_eq_true h2
      exact bits64_eq (.inr rfl) (by omega) (by omega) (fun _ => ⟨h1, h2⟩) h3
    · exact hz
  · exact hz
def kindB : IntKind → IntKind → Bool
  | .i8, .i8 => true
  | .i16, .i16 => true
  | .i32, .i32 => true
  | .i64, .i64 => true
  | .u8, .u8 => true
  | .u16, .u16 => true
  | .u32, .u32 => true
  | .u64, .u64 => true
  | _, _ => false
theorem kindB_eq {a b : IntKind} (hk : kindB a b = true) : a = b := by cases a <;> cases b <;> first | rfl | cases hk
def evInt (op : BinOp) (k : IntKind) (x y : Int) : Option V :=
  match op with
  | .add => some (.int k (wrapF k (x + y)))
  | .sub => some (.int k (wrapF k (x - y)))
  | .mul => some (.int k (wrapF k (x * y)))
  | .quo => match eqI y 0 with | true => none | false => some (.int k (wrapF k (x.tdiv y)))
  | .rem => match eqI y 0 with | true => none | false => some (.int k (x.tmod y))
  | .eql => some (.bool (eqI x y))
  | .neq => some (.bool (!eqI x y))
  | .lss => some (.bool (!leI y x))
  | .leq => some (.bool (leI x y))
  | .gtr => some (.bool (!leI x y))
  | .geq => some (.bool (leI y x))
  | .and => match bitsF .and k x y with | some z => some (.int k z) | none => none
  | .or => match bitsF .or k x y with | some z => some (.int k z) | none => none
  | .xor => match bitsF .xor k x y with | some z => some (.int k z) | none => none
  | .andNot => match bitsF .andNot k x y with | some z => some (.int k z) | none => none
  | _ => none
section
variable {P : Program} {ρ : Env} {h : H} {w : World}
theorem evInt_sound (w : World) {op : BinOp} {k : IntKind} {x y : Int} {v : V} (t : TypeId) (he : evInt op k x y = some v) : ∃ c, (binOp op t (.int k x) (.int k y)).run P w = .ok c w ∧ VRel ρ v c := by
  have le_not : ∀ a b : Int, (!decide (a ≤ b)) = decide (b < a) := fun a b => by
    rw [Bool.eq_iff_iff]; simp
  cases op <;> simp only [evInt] at he
  case add => injection he with he; subst he; exact ⟨.int k (k.wrap (x + y)), by simp [binOp, Op.intArith], by rw [wrapF_eq]; exact .int _ _⟩
  case sub => injection he with he; subst he; exact ⟨.int k (k.wrap (x - y)), by simp [binOp, Op.intArith], by rw [wrapF_eq]; exact .int _ _⟩
  case mul => injection he with he; subst he; exact ⟨.int k (k.wrap (x * y)), by simp [binOp, Op.intArith], by rw [wrapF_eq]; exact .int _ _⟩
  case quo =>
    split at he
    · cases he
    · rename_i hy
      rw [eqI_eq] at hy
      have hy : ¬ y = 0 := by simpa using hy
      injection he with he; subst he
      exact ⟨.int k (k.wrap (x.tdiv y)), by simp [binOp, Op.intDiv, hy], by rw [wrapF_eq]; exact .int _ _⟩
  case rem =>
    split at he
    · cases he
    · rename_i hy
      rw [eqI_eq] at hy
      have hy : ¬ y = 0 := by simpa using hy
      injection he with he; subst he
      exact ⟨.int k (x.tmod y), by simp [binOp, Op.intDiv, hy], .int _ _⟩
  case eql => injection he with he; subst he; exact ⟨.bool (x == y), by simp [binOp, Op.intCmp], by rw [eqI_eq]; exact .bool _⟩
  case neq => injection he with he; subst he; exact ⟨.bool (!(x == y)), by simp [binOp, Op.intCmp]; rfl, by rw [eqI_eq]; exact .bool _⟩
  case lss => injection he with he; subst he; exact ⟨.bool (decide (x < y)), by simp [binOp, Op.intCmp], by rw [leI_eq, le_not]; exact .bool _⟩
  case leq => injection he with he; subst he; exact ⟨.bool (decide (x ≤ y)), by simp [binOp, Op.intCmp], by rw [leI_eq]; exact .bool _⟩
  case gtr => injection he with he; subst he; exact ⟨.bool (decide (y < x)), by simp [binOp, Op.intCmp], by rw [leI_eq, le_not]; exact .bool _⟩
  case geq => injection he with he; subst he; exact ⟨.bool (decide (y ≤ x)), by simp [binOp, Op.intCmp], by rw [leI_eq]; exact .bool _⟩
  case and =>
    split at he
    · rename_i z hz
      injection he with he; subst he
      have hz := bitsF_eq _ _ _ _ _ hz
      injection hz with hz; subst hz
      exact ⟨_, by simp [binOp, Op.intBits], .int _ _⟩
    · cases he
  case or =>
    split at he
    · rename_i z hz
      injection he with he; subst he
      have hz := bitsF_eq _ _ _ _ _ hz
      injection hz with hz; subst hz
      exact ⟨_, by simp [binOp, Op.intBits], .int _ _⟩
    · cases he
  case xor =>
    split at he
    · rename_i z hz
      injection he with he; subst he
      have hz := bitsF_eq _ _ _ _ _ hz
      injection hz with hz; subst hz
      exact ⟨_, by simp [binOp, Op.intBits], .int _ _⟩
    · cases he
  case andNot =>
    split at he
    · rename_i z hz
      injection he with he; subst he
      have hz := bitsF_eq _ _ _ _ _ hz
      injection hz with hz; subst hz
      exact ⟨_, by simp [binOp, Op.intBits], .int _ _⟩
    · cases he
  all_goals cases he
def evShift (op : BinOp) (k : IntKind) (x : Int) : Int → Option V
  | .ofNat y => match op with
    | .shl => some (.int k (wrapF k (mulP (cond (Nat.ble y k.bits) y k.bits) x)))
    | .shr => some (.int k (divP (cond (Nat.ble y k.bits) y k.bits) x))
    | _ => none
  | _ => none
theorem min_cond (y b : Nat) : cond (Nat.ble y b) y b = min y b := by
  cases hb : Nat.ble y b with
  | true => have := Nat.le_of_ble_eq_true hb; simp; omega
  | false =>
    have : ¬ y ≤ b := fun hle => by rw [Nat.ble_eq_true_of_le hle] at hb; cases hb
    simp
    omega
theorem evShift_sound (w : World) {op : BinOp} {k k' : IntKind} {x y : Int} {v : V} (t : TypeId) (he : evShift op k x y = some v) : ∃ c, (binOp op t (.int k x) (.int k' y)).run P w = .ok c w ∧ VRel ρ v c := by
  unfold evShift at he
  split at he
  · rename_i y
    have hn : ¬ ((Int.ofNat y) < 0) := by simp
    have ht : (Int.ofNat y).toNat = y := rfl
    split at he
    · injection he with he; subst he
      refine ⟨.int k (k.wrap (x * 2 ^ min (Int.ofNat y).toNat k.bits)), ?_, ?_⟩
      · simp only [binOp, Op.shift, if_neg hn]; rfl
      · rw [wrapF_eq, mulP_eq, min_cond, ht]; exact .int _ _
    · injection he with he; subst he
      refine ⟨.int k (x.fdiv (2 ^ min (Int.ofNat y).toNat k.bits)), ?_, ?_⟩
      · simp only [binOp, Op.shift, if_neg hn]; rfl
      · rw [divP_eq, min_cond, ht]; exact .int _ _
    · cases he
  · cases he
end
end Go.Ev
/- Comparisons, conversions, cuts, lengths, looked-up entries: reckoned by the kernel; and that the machine's operation comes to the same. No condition but what each theorem says. -/
namespace Go.Ev
set_option linter.unusedVariables false
set_option linter.unusedSimpArgs false
open Go
section
variable {P : Program} {ρ : Env} {h : H} {w : World}
/-! ### equality -/
def eqL : List UInt8 → List UInt8 → Bool
  | [], [] => true
  | a :: x, b :: y => match Nat.beq a.toNat b.toNat with | true => eqL x y | false => false
  | _, _ => false
theorem eqL_eq : ∀ x y : List UInt8, eqL x y = (x == y)
  | [], [] => rfl
  | [], _ :: _ => rfl
  | _ :: _, [] => rfl
  | a :: x, b :: y => by
    unfold eqL
    rw [List.cons_beq_cons, ← eqL_eq x y]
    cases hb : Nat.beq a.toNat b.toNat with
    | true =>
      have : a = b := UInt8.toNat_inj.mp (Nat.eq_of_beq_eq_true hb)
      subst this
      simp
    | false =>
      have : a ≠ b := fun e => by subst e; rw [Nat.beq_refl] at hb; cases hb
      simp [this]
def eqS (a b : ByteArray) : Bool := eqL a.data.toList b.data.toList
theorem eqS_eq (a b : ByteArray) : eqS a b = (a.toList == b.toList) := by
  unfold eqS
  rw [eqL_eq, ByteArray.toList_eq, ByteArray.toList_eq]
def evEq1 (P : Program) (t : TypeId) (x y : V) : Option Bool :=
  match x, y with
  | .int k a, .int k' b => match P.underlying t, kindB k k' with
    | some (.int _), true => some (eqI a b)
    | _, _ => none
  | _, _ => none
/-- Are two values alike? c: one of them is a constant. -/
noncomputable def evEq (P : Program) (h : H) (t : TypeId) (c : Bool) (x y : V) : Option Bool :=
  match x, y with
  | .bool a, .bool b => match P.underlying t with
    | some .bool => match a, b with
      | true, b => some b
      | false, b => some (!b)
    | _ => none
  | .str a, .str b => some (eqS a b)
  | .pnil, .pnil => match P.underlying t with | some (.pointer _) => some true | _ => none
  | .pnil, .ptr _ _ _ => match P.underlying t with | some (.pointer _) => some false | _ => none
  | .ptr _ _ _, .pnil => match P.underlying t with | some (.pointer _) => some false | _ => none
  | .snil, .snil => match P.underlying t with | some (.slice _) => some true | _ => none
  | .snil, .slice _ _ _ _ _ => match P.underlying t with | some (.slice _) => some false | _ => none
  | .slice _ _ _ _ _, .snil => match P.underlying t with | some (.slice _) => some false | _ => none
  | .snil, .semp => match P.underlying t with | some (.slice _) => some false | _ => none
  | .semp, .snil => match P.underlying t with | some (.slice _) => some false | _ => none
  | .mnil, .mnil => match P.underlying t with | some (.map _ _) => some true | _ => none
  | .map _, .mnil => match P.underlying t with | some (.map _ _) => some false | _ => none
  | .inil, .inil => match P.underlying t, c with | some (.interface _), true => some true | _, _ => none
  | .inil, .iface _ _ => match P.underlying t with | some (.interface _) => some false | _ => none
  | .iface _ _, .inil => match P.underlying t with | some (.interface _) => some false | _ => none
  | .iface t1 a, .iface t2 b => match P.underlying t, Nat.beq t1 t2 with
    | some (.interface _), false => some false
    | some (.interface _), true => match P.info? t1 with
      | some i => match i.comparable with
        | true => evEq1 P t1 a b
        | false => none
      | none => none
    | _, _ => none
  | _, _ => none
def isC : Operand → Bool
  | .const _ => true
  | _ => false
def plainV : Value → Bool
  | .agg _ => false
  | .nilIface => false
  | _ => true
theorem eqGuard_plain (w : World) {op : BinOp} {t : TypeId} {x y : Operand} {a b : Value} (hp : (plainV a || plainV b) = true) : (eqGuard op t x y a b).run P w = .ok () w := by
  unfold eqGuard
  cases a <;> cases b <;> first
    | (simp [plainV] at hp; done)
    | (cases op <;> rfl)
def resOp (op : BinOp) (r : Bool) : Bool := match op with | .eql => r | _ => !r
theorem eqGuard_const (w : World) {op : BinOp} {t : TypeId} {x y : Operand} (hc : (isC x || isC y) = true) : (eqGuard op t x y .nilIface .nilIface).run P w = .ok () w := by
  unfold eqGuard
  cases x <;> cases y <;> first | (simp [isC] at hc; done) | (cases op <;> rfl)
def numV : Value → Bool
  | .int _ _ => true
  | .string _ => true
  | .float _ _ => true
  | .complex _ _ _ => true
  | _ => false
theorem eq_run (w : World) {op : BinOp} (hop : op = .eql ∨ op = .neq) {t : TypeId} {x y : Operand} {a b : Value} {r : Bool} (hg : (eqGuard op t x y a b).run P w = .ok () w)
    (ha : numV a = false) (he : ∀ d, (Op.equalIn (d + 2) t a b).run P w = .ok r w) :
    (do eqGuard op t x y a b; binOp op t a b).run P w = .ok (.bool (resOp op r)) w := by
  have he : (Op.equal t a b).run P w = .ok r w := he 9998
  rw [Sem.run_bind, hg, Result.andThen_ok]
  rcases hop with rfl | rfl
  · cases a <;> first | (simp [numV] at ha; done) | simp [binOp, he, resOp]
  · cases a <;> first | (simp [numV] at ha; done) | simp [binOp, he, resOp]
theorem evEq1_sound (w : World) {t : TypeId} {x y : V} {a b : Value} {r : Bool} (d : Nat) (hx : VRel ρ x a) (hy : VRel ρ y b) (he : evEq1 P t x y = some r) : (Op.equalIn (d + 1) t a b).run P w = .ok r w := by
  unfold evEq1 at he
  split at he
  · split at he
    · rename_i k n k' n' dd hu hk
      injection he with he; subst he
      cases hx; cases hy
      obtain rfl := kindB_eq hk
      simp [Op.equalIn, run_und hu, eqI_eq]
    · cases he
  · cases he
set_option maxHeartbeats 1000000 in
theorem evEq_sound (w : World) {op : BinOp} (hop : op = .eql ∨ op = .neq) {t : TypeId} {x y : V} {xo yo : Operand} {a b : Value} {r : Bool} (hx : VRel ρ x a) (hy : VRel ρ y b) (he : evEq P h t (isC xo || isC yo) x y = some r) :
    (do eqGuard op t xo yo a b; binOp op t a b).run P w = .ok (.bool (resOp op r)) w := by
  unfold evEq at he
  split at he
  · rename_i p q
    cases hx; cases hy
    split at he
    · rename_i hu
      refine eq_run w hop (eqGuard_plain w rfl) rfl ?_
      intro d
      have : (Op.equalIn (d + 2) t (.bool p) (.bool q)).run P w = .ok (p == q) w := by unfold Op.equalIn; rw [Sem.run_bind, run_und hu]; rfl
      rw [this]
      split at he <;> (injection he with he; subst he; cases q <;> rfl)
    · cases he
  · rename_i p q
    injection he with he; subst he
    cases hx; cases hy
    rw [Sem.run_bind, eqGuard_plain w rfl, Result.andThen_ok, eqS_eq]
    rcases hop with rfl | rfl <;> rfl
  · cases hx; cases hy
    split at he
    · rename_i e hu
      injection he with he; subst he
      exact eq_run w hop (eqGuard_plain w rfl) rfl (fun d => by unfold Op.equalIn; rw [Sem.run_bind, run_und hu]; rfl)
    · cases he
  · cases hx
    split at he
    · rename_i e hu
      injection he with he; subst he
      obtain ⟨ad, rfl⟩ : ∃ ad, b = .pointer (some ad) := by cases hy <;> exact ⟨_, rfl⟩
      exact eq_run w hop (eqGuard_plain w rfl) rfl (fun d => by unfold Op.equalIn; rw [Sem.run_bind, run_und hu]; rfl)
    · cases he
  · cases hy
    split at he
    · rename_i e hu
      injection he with he; subst he
      obtain ⟨ad, rfl⟩ : ∃ ad, a = .pointer (some ad) := by cases hx <;> exact ⟨_, rfl⟩
      exact eq_run w hop (eqGuard_plain w rfl) rfl (fun d => by unfold Op.equalIn; rw [Sem.run_bind, run_und hu]; rfl)
    · cases he
  · cases hx; cases hy
    split at he
    · rename_i e hu
      injection he with he; subst he
      exact eq_run w hop (eqGuard_plain w rfl) rfl (fun d => by unfold Op.equalIn; rw [Sem.run_bind, run_und hu]; rfl)
    · cases he
  · cases hx
    split at he
    · rename_i e hu
      injection he with he; subst he
      obtain ⟨ad, n, m, rfl⟩ : ∃ ad n m, b = .slice (some ad) n m := by cases hy <;> exact ⟨_, _, _, rfl⟩
      exact eq_run w hop (eqGuard_plain w rfl) rfl (fun d => by unfold Op.equalIn; rw [Sem.run_bind, run_und hu]; rfl)
    · cases he
  · cases hy
    split at he
    · rename_i e hu
      injection he with he; subst he
      obtain ⟨ad, n, m, rfl⟩ : ∃ ad n m, a = .slice (some ad) n m := by cases hx <;> exact ⟨_, _, _, rfl⟩
      exact eq_run w hop (eqGuard_plain w rfl) rfl (fun d => by unfold Op.equalIn; rw [Sem.run_bind, run_und hu]; rfl)
    · cases he
  · cases hx
    split at he
    · rename_i e hu
      injection he with he; subst he
      obtain ⟨ad, n, m, rfl⟩ : ∃ ad n m, b = .slice (some ad) n m := by cases hy <;> exact ⟨_, _, _, rfl⟩
      exact eq_run w hop (eqGuard_plain w rfl) rfl (fun d => by unfold Op.equalIn; rw [Sem.run_bind, run_und hu]; rfl)
    · cases he
  · cases hy
    split at he
    · rename_i e hu
      injection he with he; subst he
      obtain ⟨ad, n, m, rfl⟩ : ∃ ad n m, a = .slice (some ad) n m := by cases hx <;> exact ⟨_, _, _, rfl⟩
      exact eq_run w hop (eqGuard_plain w rfl) rfl (fun d => by unfold Op.equalIn; rw [Sem.run_bind, run_und hu]; rfl)
    · cases he
  · cases hx; cases hy
    split at he
    · rename_i e1 e2 hu
      injection he with he; subst he
      exact eq_run w hop (eqGuard_plain w rfl) rfl (fun d => by unfold Op.equalIn; rw [Sem.run_bind, run_und hu]; rfl)
    · cases he
  · cases hy
    split at he
    · rename_i e1 e2 hu
      injection he with he; subst he
      obtain ⟨ad, rfl⟩ : ∃ ad, a = .map (some ad) := by cases hx <;> exact ⟨_, rfl⟩
      exact eq_run w hop (eqGuard_plain w rfl) rfl (fun d => by unfold Op.equalIn; rw [Sem.run_bind, run_und hu]; rfl)
    · cases he
  · cases hx; cases hy
    split at he
    · rename_i ms _ hu hc
      injection he with he; subst he
      exact eq_run w hop (eqGuard_const w hc) rfl (fun d => by unfold Op.equalIn; rw [Sem.run_bind, run_und hu]; rfl)
    · cases he
  · cases hx
    split at he
    · rename_i ms hu
      injection he with he; subst he
      cases hy
      exact eq_run w hop (eqGuard_plain w rfl) rfl (fun d => by unfold Op.equalIn; rw [Sem.run_bind, run_und hu]; rfl)
    · cases he
  · cases hy
    split at he
    · rename_i ms hu
      injection he with he; subst he
      cases hx
      exact eq_run w hop (eqGuard_plain w rfl) rfl (fun d => by unfold Op.equalIn; rw [Sem.run_bind, run_und hu]; rfl)
    · cases he
  · rename_i t1 p t2 q
    cases hx with
    | iface hx =>
    cases hy with
    | iface hy =>
    split at he
    · rename_i ms hu ht
      injection he with he; subst he
      have ht : t1 ≠ t2 := fun e => by subst e; rw [Nat.beq_refl] at ht; cases ht
      exact eq_run w hop (eqGuard_plain w rfl) rfl (fun d => by unfold Op.equalIn; rw [Sem.run_bind, run_und hu]; simp [ht])
    · rename_i ms hu ht
      obtain rfl := Nat.eq_of_beq_eq_true ht
      split at he
      · rename_i i hi
        split at he
        · rename_i hcmp
          refine eq_run w hop (eqGuard_plain w rfl) rfl ?_
          intro d
          have h1 := evEq1_sound w d hx hy he
          rw [show d + 2 = (d + 1) + 1 from rfl]
          unfold Op.equalIn
          rw [Sem.run_bind, run_und hu]
          simp [typeInfo, hi, hcmp, h1]
        · cases he
      · cases he
    · cases he
  · cases he
end
end Go.Ev
/- Signs, conversions, cuts, lengths, built values, looked-up entries: reckoned by the kernel; and that the machine's operation comes to the same. No condition but what each theorem says. -/
namespace Go.Ev
set_option linter.unusedVariables false
set_option linter.unusedSimpArgs false
open Go
section
variable {P : Program} {ρ : Env} {h : H} {w : World}
def evUn (op : UnOp) : V → Option V
  | .bool b => match op with | .not => some (.bool (match b with | true => false | false => true)) | _ => none
  | .int k n => match op with
    | .neg => some (.int k (wrapF k (0 - n)))
    | .xor => match bitsF .xor k (match k.signed with | true => -1 | false => k.max) n with | some z => some (.int k z) | none => none
    | _ => none
  | _ => none
theorem evUn_sound (w : World) {op : UnOp} {x v : V} {c : Value} (hx : VRel ρ x c) (he : evUn op x = some v) : ∃ r, (Op.unary op c).run P w = .ok r w ∧ VRel ρ v r := by
  unfold evUn at he
  split at he
  · rename_i b
    cases hx
    split at he
    · injection he with he; subst he
      exact ⟨.bool (!b), rfl, by cases b <;> exact .bool _⟩
    · cases he
  · rename_i k n
    cases hx
    split at he
    · injection he with he; subst he
      exact ⟨.int k (k.wrap (0 - n)), rfl, by rw [wrapF_eq]; exact .int _ _⟩
    · split at he
      · rename_i z hz
        injection he with he; subst he
        have hz := bitsF_eq _ _ _ _ _ hz
        refine ⟨.int k z, ?_, .int _ _⟩
        simp only [bitsG, Option.some.injEq] at hz
        have : (match k.signed with | true => (-1 : Int) | false => k.max) = (if k.signed = true then -1 else k.max) := by cases k.signed <;> rfl
        rw [this] at hz
        simp only [Op.unary, Op.intBits, Sem.run_pure, hz]
      · cases he
    · cases he
  · cases he
noncomputable def bytesOf : List V → Option (List UInt8)
  | [] => some []
  | .int .u8 n :: l => match bytesOf l with | some r => some (UInt8.ofNat n.toNat :: r) | none => none
  | _ :: _ => none
noncomputable def evConvert (P : Program) (h : H) (src dst : TypeId) : V → Option V
  | .int _ n => match P.underlying dst with
    | some (.int k) => match P.underlying src with | some _ => some (.int k (wrapF k n)) | none => none
    | _ => none
  | .str s => match P.underlying src, P.underlying dst with
    | some .string, some .string => some (.str s)
    | _, _ => none
  | .snil => match P.underlying src, P.underlying dst with
    | some (.slice e), some .string => match P.underlying e with
      | some (.int .u8) => some (.str .empty)
      | _ => none
    | _, _ => none
  | .slice k gen off len _ => match P.underlying src, P.underlying dst with
    | some (.slice e), some .string => match P.underlying e with
      | some (.int .u8) => match h.t.get k with
        | some (.cells _ g _ _ n d t) => match Nat.beq g gen, Nat.ble (off + len) n with
          | true, true => match many d t off len with
            | some l => match bytesOf l with
              | some bs => some (.str ⟨⟨bs⟩⟩)
              | none => none
            | none => none
          | _, _ => none
        | _ => none
      | _ => none
    | _, _ => none
  | _ => none
theorem bytes_loop : ∀ (l : List V) (cs : List Value) (bs : List UInt8) (s : ByteArray), bytesOf l = some bs → cs.length = l.length → (∀ (i : Nat) (v : V) (c : Value), l[i]? = some v → cs[i]? = some c → VRel ρ v c) →
    (forIn (m := Sem) cs s fun c r => do
      let .int .u8 n := c | stuck "bytesToString: byte expected"
      pure (ForInStep.yield (r.push (UInt8.ofNat n.toNat)))).run P w = .ok ⟨⟨s.data.toList ++ bs⟩⟩ w
  | [], cs, bs, s, hb, hl, hr => by
    injection hb with hb; subst hb
    obtain rfl : cs = [] := List.eq_nil_of_length_eq_zero hl
    simp
  | v :: l, cs, bs, s, hb, hl, hr => by
    cases cs with
    | nil => cases hl
    | cons c cs =>
    unfold bytesOf at hb
    split at hb
    · rename_i heq; exact absurd heq (by simp)
    · rename_i n l' heq
      injection heq with h1 h2
      subst h1; subst h2
      split at hb
      · rename_i r hr'
        injection hb with hb; subst hb
        have hc := hr 0 _ _ rfl rfl
        cases hc
        have ih := bytes_loop l cs r (s.push (UInt8.ofNat n.toNat)) hr' (by simpa using hl) (fun i u x hu hx => hr (i + 1) u x hu hx)
        rw [List.forIn_cons, Sem.run_bind]
        simp only [Sem.run_pure, Result.andThen_ok, ih]
        congr 1
        simp [ByteArray.push]
      · cases hb
    · cases hb
theorem evConvert_sound (r : Rel ρ h w) {src dst : TypeId} {x v : V} {c : Value} (hx : VRel ρ x c) (he : evConvert P h src dst x = some v) : ∃ q, (convert src dst c).run P w = .ok q w ∧ VRel ρ v q := by
  unfold evConvert at he
  split at he
  · rename_i k n
    cases hx
    split at he
    · rename_i kk hd
      split at he
      · rename_i d hs
        injection he with he; subst he
        refine ⟨.int kk (kk.wrap n), ?_, by rw [wrapF_eq]; exact .int _ _⟩
        unfold convert
        rw [Sem.run_bind, run_und hs, Result.andThen_ok, Sem.run_bind, run_und hd, Result.andThen_ok]
        simp [Conv.intToInt]
      · cases he
    · cases he
  · cases hx
    split at he
    · rename_i hs hd
      injection he with he; subst he
      refine ⟨_, ?_, .str _⟩
      unfold convert
      rw [Sem.run_bind, run_und hs, Result.andThen_ok, Sem.run_bind, run_und hd, Result.andThen_ok]
      rfl
    · cases he
  · cases hx
    split at he
    · rename_i e hs hd
      split at he
      · rename_i hu
        injection he with he; subst he
        refine ⟨.string .empty, ?_, .str _⟩
        unfold convert
        rw [Sem.run_bind, run_und hs, Result.andThen_ok, Sem.run_bind, run_und hd, Result.andThen_ok]
        simp [run_und hu, Conv.bytesToString]
      · cases he
    · cases he
  · rename_i k gen off len cap
    split at he
    · rename_i e hs hd
      split at he
      · rename_i hu
        split at he
        · rename_i ty g esz ro n d t hk
          split at he
          · rename_i hg hle
            obtain rfl := Nat.eq_of_beq_eq_true hg
            have hle := Nat.le_of_ble_eq_true hle
            split at he
            · rename_i l hl
              split at he
              · rename_i bs hb
                injection he with he; subst he
                obtain ⟨e', m, hek, rfl, _, _, _⟩ := slice_now r hx hk
                obtain ⟨cs, h1, h2, h3⟩ := run_many (P := P) r hek hk hle hl
                refine ⟨.string ⟨⟨bs⟩⟩, ?_, .str _⟩
                unfold convert
                rw [Sem.run_bind, run_und hs, Result.andThen_ok, Sem.run_bind, run_und hd, Result.andThen_ok]
                have hloop := bytes_loop (P := P) (w := w) l cs bs ByteArray.empty hb h2 h3
                simp only [Sem.run_bind, run_und hu, Result.andThen_ok, Conv.bytesToString, h1, List.forIn_toArray]
                erw [hloop]
                simp
              · cases he
            · cases he
          · cases he
        · cases he
      · cases he
    · cases he
  · cases he
/-! ### lengths -/
noncomputable def evLen (P : Program) (h : H) (t : TypeId) (x : V) : Option V :=
  match P.underlying t, x with
  | some .string, .str s => some (.int .i64 (Int.ofNat s.data.toList.length))
  | some (.array n _), _ => some (.int .i64 (Int.ofNat n))
  | some (.slice _), .snil => some (.int .i64 0)
  | some (.slice _), .semp => some (.int .i64 0)
  | some (.slice _), .slice k gen _ len _ => match genIs h k gen with
    | true => some (.int .i64 (Int.ofNat len))
    | false => none
  | some (.map _ _), .mnil => some (.int .i64 0)
  | some (.map _ _), .map k => match h.t.get k with
    | some (.map es) => some (.int .i64 (Int.ofNat es.length))
    | _ => none
  | _, _ => none
theorem map_now (r : Rel ρ h w) {k : Nat} {c : Value} (hv : VRel ρ (.map k) c) {es : List (V × V)} (hk : h.t.get k = some (.map es)) :
    ∃ e es' clock, ρ k = some e ∧ e.gen = 0 ∧ e.ro = false ∧ c = .map (some e.b) ∧ w.heap[e.b]? = some (.map es' clock) ∧ MRel ρ es es'.toList ∧ MapOk es'.toList clock := by
  cases hv with
  | @map _ e he hg =>
    obtain ⟨o, ob, h1, h2, h3⟩ := r.obj k e he
    rw [hk] at h1; injection h1 with h1; subst h1
    obtain ⟨g1, g1', es', clock, g2, g3, g4⟩ := h3
    exact ⟨e, es', clock, he, g1, g1', rfl, g2 ▸ h2, g3, g4⟩
  | @mapOld _ e _ he hg =>
    obtain ⟨o, ob, h1, h2, h3⟩ := r.obj k e he
    rw [hk] at h1; injection h1 with h1; subst h1
    have := h3.1
    omega
theorem run_getMap (w : World) {b : Nat} {es : Array MapEntry} {clock : Nat} (hb : w.heap[b]? = some (.map es clock)) : (getObj b).run P w = .ok (.map es clock) w := by
  simp [getObj, Sem.run, hb]
theorem evLen_sound (r : Rel ρ h w) {t : TypeId} {x v : V} {c : Value} {ty : TypeId} {ts : Array TypeId} (ht : ts[0]? = some t) (hx : VRel ρ x c) (he : evLen P h t x = some v) : ∃ q, (Builtin.len_ ts ty #[c]).run P w = .ok q w ∧ VRel ρ v q := by
  unfold evLen at he
  have key : ∀ d q, P.underlying t = some d → (∀ f : TypeDesc → Sem Value, f d = Sem.pure q → True) → True := fun _ _ _ _ => trivial
  clear key
  split at he
  · rename_i s hu
    injection he with he; subst he
    cases hx
    exact ⟨goInt s.size, by simp [Builtin.len_, ht, run_und hu], .int _ _⟩
  · rename_i n e hu
    injection he with he; subst he
    exact ⟨goInt n, by simp [Builtin.len_, ht, run_und hu], .int _ _⟩
  · rename_i e hu
    injection he with he; subst he
    cases hx
    exact ⟨goInt 0, by simp [Builtin.len_, ht, run_und hu], .int _ _⟩
  · rename_i e hu
    injection he with he; subst he
    cases hx
    exact ⟨goInt 0, by simp [Builtin.len_, ht, run_und hu], .int _ _⟩
  · rename_i e k gen off len cap hu
    split at he
    · rename_i hg
      injection he with he; subst he
      obtain ⟨ty', esz, ro, len', d, t', hk⟩ := genIs_cells hg
      obtain ⟨e', m, hek, rfl, _, _, _⟩ := slice_now r hx hk
      exact ⟨goInt len, by simp [Builtin.len_, ht, run_und hu], .int _ _⟩
    · cases he
  · rename_i e1 e2 hu
    injection he with he; subst he
    cases hx
    exact ⟨goInt 0, by simp [Builtin.len_, ht, run_und hu], .int _ _⟩
  · rename_i e1 e2 k hu
    split at he
    · rename_i es hk
      injection he with he; subst he
      obtain ⟨e, es', clock, hek, _, _, rfl, hb, ⟨_, l, hp, hl, _⟩, _⟩ := map_now r hx hk
      refine ⟨goInt es'.size, by simp [Builtin.len_, ht, run_und hu, run_getMap w hb], ?_⟩
      have : es'.size = es.length := by rw [← Array.length_toList, ← hl]; exact hp.length_eq
      rw [this]
      exact .int _ _
    · cases he
  · cases he
/-! ### cuts -/
def boundOf (d : Nat) : Option V → Option Nat
  | none => some d
  | some v => natOf v
noncomputable def evSlice (P : Program) (h : H) (t : TypeId) (x : V) (lo hi mx : Option V) : Option V :=
  match P.underlying t, x with
  | some (.array n elem), .ptr k gen off => match boundOf 0 lo, boundOf n hi, boundOf n mx, siz P elem with
    | some l, some u, some m, some s => match Nat.ble l u, Nat.ble u m, Nat.ble m n with
      | true, true, true => some (.slice k gen (match Nat.beq m l with | true => off | false => Nat.add off (Nat.mul l s)) (Nat.sub u l) (some (Nat.sub m l)))
      | _, _, _ => none
    | _, _, _, _ => none
  | some (.slice elem), .slice k gen off len cap => match boundOf 0 lo, boundOf len hi, siz P elem with
    | some l, some u, some s => match h.t.get k with
      | some (.cells _ g esz _ _ _ _) => match Nat.beq g gen, Nat.ble l u, cap, mx with
        | true, true, some c, mx => match boundOf c mx with
          | some m => match Nat.ble u m, Nat.ble m c with
            | true, true => some (.slice k gen (match Nat.beq m l with | true => off | false => Nat.add off (Nat.mul l s)) (Nat.sub u l) (some (Nat.sub m l)))
            | _, _ => none
          | none => none
        | true, true, none, none => match Nat.ble u len, Nat.beq esz s, Nat.ble (l + 1) len, Nat.beq l 0 with
          | true, true, true, _ => some (.slice k gen (Nat.add off (Nat.mul l s)) (Nat.sub u l) none)
          | true, true, _, true => some (.slice k gen off u none)
          | true, _, false, _ => match Nat.beq l len with | true => some .semp | false => none
          | _, _, _, _ => none
        | true, true, none, some mv => match natOf mv with
          | some m => match Nat.ble u m, Nat.ble m len with
            | true, true => some (.slice k gen (match Nat.beq m l with | true => off | false => Nat.add off (Nat.mul l s)) (Nat.sub u l) (some (Nat.sub m l)))
            | _, _ => none
          | none => none
        | _, _, _, _ => none
      | _ => none
    | _, _, _ => none
  | some (.slice elem), .snil => match boundOf 0 lo, boundOf 0 hi, boundOf 0 mx, siz P elem with
    | some 0, some 0, some 0, some _ => some .snil
    | _, _, _, _ => none
  | _, _ => none
def ORelV (ρ : Env) : Option V → Option Value → Prop
  | none, none => True
  | some v, some c => VRel ρ v c
  | _, _ => False
theorem run_bound (w : World) {v : V} {c : Value} {n y : Nat} {code : BoundsCode} (hv : VRel ρ v c) (hn : natOf v = some n) (hy : n ≤ y) : (Instr.sliceBound c y code).run P w = .ok n w := by
  obtain ⟨k, rfl⟩ := natOf_rel hv hn
  have : (0 : Int) ≤ n ∧ (n : Int) ≤ y := by omega
  simp [Instr.sliceBound, asIntOf, hy]
theorem run_bounds (w : World) {lo hi mx : Option V} {lo' hi' mx' : Option Value} (h1 : ORelV ρ lo lo') (h2 : ORelV ρ hi hi') (h3 : ORelV ρ mx mx') {isS : Bool} {len cap l u m : Nat}
    (hl : boundOf 0 lo = some l) (hu : boundOf len hi = some u) (hm : boundOf cap mx = some m) (h4 : l ≤ u) (h5 : u ≤ m) (h6 : m ≤ cap) (h7 : mx ≠ none → hi ≠ none) :
    (Instr.sliceBounds isS len cap lo' hi' mx').run P w = .ok (l, u, m) w := by
  unfold Instr.sliceBounds
  cases mx with
  | none =>
    cases mx' with
    | some _ => exact h3.elim
    | none =>
    injection hm with hm; subst hm
    simp only [Sem.run_bind, Sem.run_pure, Result.andThen_ok]
    cases hi with
    | none =>
      cases hi' with
      | some _ => exact h2.elim
      | none =>
      injection hu with hu; subst hu
      simp only [Sem.run_bind, Sem.run_pure, Result.andThen_ok]
      cases lo with
      | none =>
        cases lo' with
        | some _ => exact h1.elim
        | none => injection hl with hl; subst hl; simp
      | some a =>
        cases lo' with
        | none => exact h1.elim
        | some a' => simp [run_bound w h1 hl h4]
    | some b =>
      cases hi' with
      | none => exact h2.elim
      | some b' =>
      simp only [Sem.run_bind, run_bound w h2 hu h5, Result.andThen_ok]
      cases lo with
      | none =>
        cases lo' with
        | some _ => exact h1.elim
        | none => injection hl with hl; subst hl; simp
      | some a =>
        cases lo' with
        | none => exact h1.elim
        | some a' => simp [run_bound w h1 hl h4]
  | some q =>
    cases mx' with
    | none => exact h3.elim
    | some q' =>
    simp only [Sem.run_bind, run_bound w h3 hm h6, Result.andThen_ok]
    cases hi with
    | none => exact absurd rfl (h7 (by simp))
    | some b =>
      cases hi' with
      | none => exact h2.elim
      | some b' =>
      simp only [Sem.run_bind, run_bound w h2 hu h5, Result.andThen_ok]
      cases lo with
      | none =>
        cases lo' with
        | some _ => exact h1.elim
        | none => injection hl with hl; subst hl; simp
      | some a =>
        cases lo' with
        | none => exact h1.elim
        | some a' => simp [run_bound w h1 hl h4]
theorem off_match (m l off s : Nat) : (match Nat.beq m l with | true => off | false => Nat.add off (Nat.mul l s)) = if m = l then off else off + l * s := by
  cases hb : Nat.beq m l with
  | true => rw [if_pos (Nat.eq_of_beq_eq_true hb)]
  | false =>
    rw [if_neg]
    · rfl
    · intro e; subst e; rw [Nat.beq_refl] at hb; cases hb
theorem evSlice_sound (r : Rel ρ h w) {t : TypeId} {x v : V} {c : Value} {lo hi mx : Option V} {lo' hi' mx' : Option Value} (h1 : ORelV ρ lo lo') (h2 : ORelV ρ hi hi') (h3 : ORelV ρ mx mx') (h7 : mx ≠ none → hi ≠ none)
    (hx : VRel ρ x c) (he : evSlice P h t x lo hi mx = some v) : ∃ q, (Instr.sliceAt t c lo' hi' mx').run P w = .ok q w ∧ VRel ρ v q := by
  unfold evSlice at he
  split at he
  · rename_i n elem k gen off hu
    split at he
    · rename_i l u m s hl hu' hm hs
      split at he
      · rename_i a1 a2 a3
        have a1 := Nat.le_of_ble_eq_true a1
        have a2 := Nat.le_of_ble_eq_true a2
        have a3 := Nat.le_of_ble_eq_true a3
        injection he with he; subst he
        obtain ⟨ad, rfl, hr⟩ := ptr_move (n := 0) hx
        refine ⟨.slice (some (if m = l then ad else ad.add (l * s))) (u - l) (m - l), ?_, ?_⟩
        · unfold Instr.sliceAt
          rw [Sem.run_bind, run_und hu, Result.andThen_ok]
          simp only [Instr.sureAddr, Sem.run_bind, Sem.run_pure, Result.andThen_ok, run_bounds w h1 h2 h3 hl hu' hm a1 a2 a3 h7, run_siz hs]
        · rw [off_match]
          cases hx with
          | @ptr _ _ _ e hek hg =>
            have : (if m = l then (⟨e.b, e.at_ + off, none⟩ : Addr) else (⟨e.b, e.at_ + off, none⟩ : Addr).add (l * s)) = ⟨e.b, e.at_ + (if m = l then off else off + l * s), none⟩ := by
              split
              · rfl
              · rw [addr_add, Nat.add_assoc]
            rw [this]
            exact .slice hek hg (fun x hx => by injection hx) (by show u - l ≤ m - l; omega) (fun hh => by cases hh)
          | ptrOld hek hg => exact .sliceOld hek hg
      · cases he
    · cases he
  · rename_i elem k gen off len cap hu
    split at he
    · rename_i l u s hl hu' hs
      split at he
      · rename_i ty g esz ro n d t' hk
        split at he
        · rename_i mx c' hg hlu
          obtain rfl := Nat.eq_of_beq_eq_true hg
          have hlu := Nat.le_of_ble_eq_true hlu
          split at he
          · rename_i m hm
            split at he
            · rename_i a2 a3
              have a2 := Nat.le_of_ble_eq_true a2
              have a3 := Nat.le_of_ble_eq_true a3
              injection he with he; subst he
              obtain ⟨e, cc, hek, rfl, hcap, hle, _⟩ := slice_now r hx hk
              obtain rfl := hcap _ rfl
              refine ⟨.slice (if m = l then some ⟨e.b, e.at_ + off, none⟩ else (some (⟨e.b, e.at_ + off, none⟩ : Addr)).map (·.add (l * s))) (u - l) (m - l), ?_, ?_⟩
              · unfold Instr.sliceAt
                rw [Sem.run_bind, run_und hu, Result.andThen_ok]
                simp only [Instr.slice, Sem.run_bind, run_und hu, Result.andThen_ok, run_bounds w h1 h2 h3 hl hu' hm hlu a2 a3 h7, run_siz hs, Sem.run_pure]
              · rw [off_match]
                have : (if m = l then some (⟨e.b, e.at_ + off, none⟩ : Addr) else (some (⟨e.b, e.at_ + off, none⟩ : Addr)).map (·.add (l * s))) = some ⟨e.b, e.at_ + (if m = l then off else off + l * s), none⟩ := by
                  split
                  · rfl
                  · rw [Option.map_some, addr_add, Nat.add_assoc]
                rw [this]
                exact .slice hek (r.cells hek hk).1 (fun x hx => by injection hx) (by show u - l ≤ m - l; omega) (fun hh => by cases hh)
            · cases he
          · cases he
        · rename_i hg hlu
          obtain rfl := Nat.eq_of_beq_eq_true hg
          have hlu := Nat.le_of_ble_eq_true hlu
          obtain ⟨e, cc, hek, rfl, _, hle, hroom⟩ := slice_now r hx hk
          have hm : boundOf cc none = some cc := rfl
          split at he
          · rename_i a1 a2 a3
            have a1 := Nat.le_of_ble_eq_true a1
            obtain rfl := Nat.eq_of_beq_eq_true a2
            have a3 := Nat.le_of_ble_eq_true a3
            injection he with he; subst he
            have hesz : e.esz = esz := (r.cells hek hk).2.1
            refine ⟨.slice (if cc = l then some ⟨e.b, e.at_ + off, none⟩ else (some (⟨e.b, e.at_ + off, none⟩ : Addr)).map (·.add (l * esz))) (u - l) (cc - l), ?_, ?_⟩
            · unfold Instr.sliceAt
              rw [Sem.run_bind, run_und hu, Result.andThen_ok]
              simp only [Instr.slice, Sem.run_bind, run_und hu, Result.andThen_ok, run_bounds w h1 h2 h3 hl hu' hm hlu (Nat.le_trans a1 hle) (Nat.le_refl _) h7, run_siz hs, Sem.run_pure]
            · rw [if_neg (by omega), Option.map_some, addr_add, Nat.add_assoc]
              refine .slice hek (r.cells hek hk).1 (fun x hx => by cases hx) (by show u - l ≤ cc - l; omega) (fun _ => ?_)
              have := hroom rfl
              rw [hesz] at this ⊢
              show off + l * esz + (cc - l) * esz ≤ e.room
              have hmul : l * esz + (cc - l) * esz = cc * esz := by rw [← Nat.add_mul]; congr 1; omega
              omega
          · rename_i a1 a2 a4 _
            have a1 := Nat.le_of_ble_eq_true a1
            obtain rfl := Nat.eq_of_beq_eq_true a4
            injection he with he; subst he
            refine ⟨.slice (if cc = 0 then some ⟨e.b, e.at_ + off, none⟩ else (some (⟨e.b, e.at_ + off, none⟩ : Addr)).map (·.add (0 * s))) (u - 0) (cc - 0), ?_, ?_⟩
            · unfold Instr.sliceAt
              rw [Sem.run_bind, run_und hu, Result.andThen_ok]
              simp only [Instr.slice, Sem.run_bind, run_und hu, Result.andThen_ok, run_bounds w h1 h2 h3 hl hu' hm hlu (Nat.le_trans a1 hle) (Nat.le_refl _) h7, run_siz hs, Sem.run_pure]
            · have : (if cc = 0 then some (⟨e.b, e.at_ + off, none⟩ : Addr) else (some (⟨e.b, e.at_ + off, none⟩ : Addr)).map (·.add (0 * s))) = some ⟨e.b, e.at_ + off, none⟩ := by
                split
                · rfl
                · rw [Option.map_some, addr_add, Nat.zero_mul, Nat.add_zero]
              rw [this]
              exact .slice hek (r.cells hek hk).1 (fun x hx => by cases hx) (by show u - 0 ≤ cc - 0; omega) (fun _ => hroom rfl)
          · have a1 : u ≤ len := Nat.le_of_ble_eq_true (by assumption)
            split at he
            · rename_i hll
              obtain rfl := Nat.eq_of_beq_eq_true hll
              injection he with he; subst he
              obtain rfl : u = l := by omega
              refine ⟨.slice (if cc = u then some ⟨e.b, e.at_ + off, none⟩ else (some (⟨e.b, e.at_ + off, none⟩ : Addr)).map (·.add (u * s))) (u - u) (cc - u), ?_, ?_⟩
              · unfold Instr.sliceAt
                rw [Sem.run_bind, run_und hu, Result.andThen_ok]
                simp only [Instr.slice, Sem.run_bind, run_und hu, Result.andThen_ok, run_bounds w h1 h2 h3 hl hu' hm hlu (Nat.le_trans a1 hle) (Nat.le_refl _) h7, run_siz hs, Sem.run_pure]
              · rw [Nat.sub_self]
                split <;> exact .semp
            · cases he
          · cases he
        · rename_i mv hg hlu
          obtain rfl := Nat.eq_of_beq_eq_true hg
          have hlu := Nat.le_of_ble_eq_true hlu
          obtain ⟨e, cc, hek, rfl, _, hle, hroom⟩ := slice_now r hx hk
          split at he
          · rename_i m hm
            have hm : boundOf cc (some mv) = some m := hm
            split at he
            · rename_i a2 a3
              have a2 := Nat.le_of_ble_eq_true a2
              have a3 := Nat.le_of_ble_eq_true a3
              injection he with he; subst he
              refine ⟨.slice (if m = l then some ⟨e.b, e.at_ + off, none⟩ else (some (⟨e.b, e.at_ + off, none⟩ : Addr)).map (·.add (l * s))) (u - l) (m - l), ?_, ?_⟩
              · unfold Instr.sliceAt
                rw [Sem.run_bind, run_und hu, Result.andThen_ok]
                simp only [Instr.slice, Sem.run_bind, run_und hu, Result.andThen_ok, run_bounds w h1 h2 h3 hl hu' hm hlu a2 (Nat.le_trans a3 hle) h7, run_siz hs, Sem.run_pure]
              · rw [off_match]
                have : (if m = l then some (⟨e.b, e.at_ + off, none⟩ : Addr) else (some (⟨e.b, e.at_ + off, none⟩ : Addr)).map (·.add (l * s))) = some ⟨e.b, e.at_ + (if m = l then off else off + l * s), none⟩ := by
                  split
                  · rfl
                  · rw [Option.map_some, addr_add, Nat.add_assoc]
                rw [this]
                exact .slice hek (r.cells hek hk).1 (fun x hx => by injection hx) (by show u - l ≤ m - l; omega) (fun hh => by cases hh)
            · cases he
          · cases he
        · cases he
      · cases he
    · cases he
  · rename_i elem hu
    split at he
    · rename_i s hl hu' hm hs
      injection he with he; subst he
      cases hx
      refine ⟨.slice none 0 0, ?_, .snil⟩
      unfold Instr.sliceAt
      rw [Sem.run_bind, run_und hu, Result.andThen_ok]
      simp only [Instr.slice, Sem.run_bind, run_und hu, Result.andThen_ok, run_bounds w h1 h2 h3 hl hu' hm (Nat.le_refl _) (Nat.le_refl _) (Nat.le_refl _) h7, run_siz hs, Sem.run_pure]
      simp
    · cases he
  · cases he
end
end Go.Ev
/- Built values, looked-up entries, and any operation that changes no memory: reckoned by the kernel; and that the machine's operation comes to the same. No condition but what each theorem says. -/
namespace Go.Ev
set_option linter.unusedVariables false
set_option linter.unusedSimpArgs false
open Go
section
variable {P : Program} {ρ : Env} {h : H} {w : World}
/-! ### built values -/
noncomputable def fillV (place : Nat → Option (Nat × Nat)) (n : Nat) (t : T V) : List (Nat × V) → Option (T V)
  | [] => some t
  | (i, v) :: rest => match place i with
    | some (off, size) => match cellsV v with
      | some l => match Nat.beq l.length size, Nat.ble (off + l.length) n with
        | true, true => fillV place n (setMany t off l) rest
        | _, _ => none
      | none => none
    | none => none
def PRel (ρ : Env) : List (Nat × V) → List (Nat × Value) → Prop
  | [], [] => True
  | (i, v) :: l, (j, c) :: m => i = j ∧ VRel ρ v c ∧ PRel ρ l m
  | _, _ => False
theorem fold_get (off : Nat) : ∀ (l : List Value) (k : Nat) (cs : Array Value) (j : Nat), off + k + l.length ≤ cs.size →
    ((l.zipIdx k).foldl (fun cs (p : Value × Nat) => cs.setIfInBounds (off + p.2) p.1) cs).size = cs.size ∧
    ((l.zipIdx k).foldl (fun cs (p : Value × Nat) => cs.setIfInBounds (off + p.2) p.1) cs)[j]? = if off + k ≤ j ∧ j < off + k + l.length then l[j - (off + k)]? else cs[j]?
  | [], k, cs, j, hl => by
    refine ⟨rfl, ?_⟩
    rw [if_neg]
    · rfl
    · simp only [List.length_nil]; omega
  | c :: l, k, cs, j, hl => by
    simp only [List.length_cons] at hl ⊢
    obtain ⟨h1, h2⟩ := fold_get off l (k + 1) (cs.setIfInBounds (off + k) c) j (by simp; omega)
    refine ⟨h1.trans (by simp), ?_⟩
    rw [List.zipIdx_cons, List.foldl_cons]
    rw [h2]
    by_cases c1 : off + k = j
    · subst c1
      rw [if_neg (by omega), if_pos (by omega), Nat.sub_self, Array.getElem?_setIfInBounds]
      simp only [if_true]
      rw [if_pos (by omega)]
      rfl
    · by_cases c2 : off + (k + 1) ≤ j ∧ j < off + (k + 1) + l.length
      · rw [if_pos c2, if_pos (by omega), show j - (off + k) = (j - (off + (k + 1))) + 1 by omega]
        rfl
      · rw [if_neg c2, if_neg (by omega), Array.getElem?_setIfInBounds, if_neg c1]
/-- Cells that stand, as far as they are known. -/
def WRel (ρ : Env) (n : Nat) (d : List (Nat × V)) (t : T V) (cs : Array Value) : Prop := cs.size = n ∧ ∀ (i : Nat) (v : V) (c : Value), rget d t i = some v → cs[i]? = some c → VRel ρ v c
theorem fill_rel {place : Nat → Option (Nat × Nat)} {n : Nat} {d : List (Nat × V)} : ∀ (l : List (Nat × V)) (m : List (Nat × Value)) (t t' : T V) (cs : Array Value), fillV place n t l = some t' → PRel ρ l m → WRel ρ n d t cs →
    ∃ cs', Instr.fill place cs m = some cs' ∧ WRel ρ n d t' cs' ∧ ∀ i, (∃ v, rget d t i = some v) → ∃ v, rget d t' i = some v
  | [], [], t, t', cs, hf, _, hr => by injection hf with hf; subst hf; exact ⟨cs, rfl, hr, fun _ h => h⟩
  | [], _ :: _, _, _, _, _, hp, _ => hp.elim
  | _ :: _, [], _, _, _, _, hp, _ => hp.elim
  | (i, v) :: l, (j, c) :: m, t, t', cs, hf, hp, hr => by
    obtain ⟨rfl, hv, hp⟩ := hp
    unfold fillV at hf
    split at hf
    · rename_i off size hpl
      split at hf
      · rename_i cl hcl
        split at hf
        · rename_i a1 a2
          obtain rfl := Nat.eq_of_beq_eq_true a1
          have a2 := Nat.le_of_ble_eq_true a2
          obtain ⟨g1, g2⟩ := cellsV_rel hv hcl
          obtain ⟨hs, hh⟩ := hr
          have hlen : c.cells.toList.length = cl.length := by simpa using g1
          have hfold : ∀ j, ((c.cells.zipIdx.foldl (fun cs (x : Value × Nat) => cs.setIfInBounds (off + x.2) x.1) cs)).size = cs.size ∧ (c.cells.zipIdx.foldl (fun cs (x : Value × Nat) => cs.setIfInBounds (off + x.2) x.1) cs)[j]? = if off ≤ j ∧ j < off + cl.length then c.cells[j - off]? else cs[j]? := by
            intro j
            have := fold_get off c.cells.toList 0 cs j (by rw [hlen]; omega)
            rw [← Array.foldl_toList, Array.toList_zipIdx]
            simpa [hlen] using this
          obtain ⟨cs', h1, h2, h3⟩ := fill_rel (d := d) l m (setMany t off cl) t' (c.cells.zipIdx.foldl (fun cs (x : Value × Nat) => cs.setIfInBounds (off + x.2) x.1) cs) hf hp (by
            refine ⟨(hfold 0).1.trans hs, fun i u x hu hx => ?_⟩
            rw [rget_setMany] at hu
            rw [(hfold i).2] at hx
            by_cases hi' : off ≤ i ∧ i < off + cl.length
            · rw [if_pos hi'] at hu hx; exact g2 _ u x hu hx
            · rw [if_neg hi'] at hu hx; exact hh i u x hu hx)
          refine ⟨cs', ?_, h2, fun i hi => h3 i ?_⟩
          · unfold Instr.fill
            simp only [hpl]
            rw [if_neg]
            · exact h1
            · rw [g1]; simp; omega
          · rw [rget_setMany]
            by_cases hi' : off ≤ i ∧ i < off + cl.length
            · rw [if_pos hi']; exact ⟨cl[i - off]'(by omega), List.getElem?_eq_getElem _⟩
            · rw [if_neg hi']; exact hi
        · cases hf
      · cases hf
    · cases hf
theorem fill_agg {place : Nat → Option (Nat × Nat)} {n : Nat} {d : List (Nat × V)} {l : List (Nat × V)} {m : List (Nat × Value)} {t t' : T V} {cs : Array Value} (hf : fillV place n t l = some t') (hp : PRel ρ l m) (hr : VRel ρ (.agg n d t) (.agg cs)) :
    ∃ cs', Instr.fill place cs m = some cs' ∧ VRel ρ (.agg n d t') (.agg cs') := by
  cases hr with
  | agg hs hd hh =>
  obtain ⟨cs', h1, ⟨h2, h3⟩, h4⟩ := fill_rel l m t t' cs hf hp ⟨hs, hh⟩
  exact ⟨cs', h1, .agg h2 (fun i hi => h4 i (hd i hi)) h3⟩
def placesOf (P : Program) (fs : Array Field) : Option (List (Nat × Nat)) := fs.toList.mapM (fun f => (P.info? f.type).map fun i => (f.offset, i.size))
noncomputable def evBuild (P : Program) (t : TypeId) (parts : List (Nat × V)) : Option V :=
  match P.info? t with
  | some it => match it.zero with
    | some z => match constV z with
      | some (.agg n d e0) => match P.underlying t with
        | some (.struct fs) => match placesOf P fs with
          | some pl => match fillV (pl.toArray[·]?) n e0 parts with
            | some t' => some (.agg n d t')
            | none => none
          | none => none
        | some (.array _ el) => match P.info? el with
          | some ie => match fillV (fun i => some (i * ie.size, ie.size)) n e0 parts with
            | some t' => some (.agg n d t')
            | none => none
          | none => none
        | _ => none
      | _ => none
    | none => none
  | none => none
theorem evBuild_sound (w : World) {t : TypeId} {parts : List (Nat × V)} {parts' : Array (Nat × Value)} {v : V} (hp : PRel ρ parts parts'.toList) (he : evBuild P t parts = some v) : ∃ q, (Instr.build t parts').run P w = .ok q w ∧ VRel ρ v q := by
  unfold evBuild at he
  split at he
  · rename_i it hit
    split at he
    · rename_i z hz
      split at he
      · rename_i n d e0 hc
        have hrz := constV_rel (ρ := ρ) hc
        obtain ⟨cs, rfl⟩ : ∃ cs, z = .agg cs := by cases hrz; exact ⟨_, rfl⟩
        split at he
        · rename_i fs hu
          split at he
          · rename_i pl hpl
            split at he
            · rename_i t' hf
              injection he with he; subst he
              obtain ⟨cs', h1, h2⟩ := fill_agg hf hp hrz
              refine ⟨.agg cs', run_build w t parts' cs' ?_, h2⟩
              unfold Program.built
              have hpl : fs.toList.mapM (fun f => (P.info? f.type).map fun i => (f.offset, i.size)) = some pl := hpl
              simp only [hit, hu, hz, hpl]
              exact h1
            · cases he
          · cases he
        · rename_i n' el hu
          split at he
          · rename_i ie hie
            split at he
            · rename_i t' hf
              injection he with he; subst he
              obtain ⟨cs', h1, h2⟩ := fill_agg hf hp hrz
              refine ⟨.agg cs', run_build w t parts' cs' ?_, h2⟩
              unfold Program.built
              simp only [hit, hu, hz, hie]
              exact h1
            · cases he
          · cases he
        · cases he
      · cases he
    · cases he
  · cases he
/-! ### entries of maps -/
def eqKey (a b : V) : Option Bool :=
  match a, b with
  | .int k n, .int k' m => match kindB k k' with | true => some (eqI n m) | false => none
  | .str s, .str u => some (eqS s u)
  | _, _ => none
theorem eqKey_eq {a b : V} (he : eqKey a b = some true) : a = b := by
  unfold eqKey at he
  split at he
  · split at he
    · rename_i k n k' m hk
      obtain rfl := kindB_eq hk
      injection he with he
      rw [eqI_eq] at he
      rw [eq_of_beq he]
    · cases he
  · rename_i s u
    injection he with he
    unfold eqS at he
    rw [eqL_eq] at he
    have := eq_of_beq he
    have : s = u := by cases s; cases u; congr; exact Array.toList_inj.mp this
    rw [this]
  · cases he
/-- Is a key of a kind that a map of this type has? -/
def keyOk (P : Program) (t : TypeId) : V → Bool
  | .int _ _ => match P.underlying t with | some (.int _) => true | _ => false
  | .str _ => match P.underlying t with | some .string => true | _ => false
  | _ => false
def evFind (key : V) : List (V × V) → Option V
  | [] => none
  | (k, v) :: r => match eqKey key k with
    | some true => some v
    | _ => evFind key r
def allKeys (key : V) : List (V × V) → Bool
  | [] => true
  | (k, _) :: r => match eqKey key k with
    | some _ => allKeys key r
    | none => false
theorem allKeys_mem {key : V} {es : List (V × V)} (ha : allKeys key es = true) {p : V × V} (hp : p ∈ es) : ∃ b, eqKey key p.1 = some b := by
  induction es with
  | nil => cases hp
  | cons q es ih =>
    unfold allKeys at ha
    split at ha
    · rename_i b hb
      cases hp with
      | head => exact ⟨b, hb⟩
      | tail _ hp => exact ih ha hp
    · cases ha
theorem evFind_some {key v : V} {es : List (V × V)} (he : evFind key es = some v) : ∃ k, (k, v) ∈ es ∧ eqKey key k = some true := by
  induction es with
  | nil => cases he
  | cons q es ih =>
    obtain ⟨k, u⟩ := q
    unfold evFind at he
    split at he
    · rename_i hk; injection he with he; subst he; exact ⟨k, List.mem_cons_self .., hk⟩
    · obtain ⟨k', h1, h2⟩ := ih he; exact ⟨k', List.mem_cons_of_mem _ h1, h2⟩
theorem evFind_none {key : V} {es : List (V × V)} (he : evFind key es = none) {p : V × V} (hp : p ∈ es) : eqKey key p.1 ≠ some true := by
  induction es with
  | nil => cases hp
  | cons q es ih =>
    obtain ⟨k, u⟩ := q
    unfold evFind at he
    split at he
    · cases he
    · rename_i hk
      cases hp with
      | head => exact hk
      | tail _ hp => exact ih he hp
theorem sameNow_eq {t : TypeId} {key k : V} {ck cm : Value} {b : Bool} {dd : TypeDesc} (hu : P.underlying t = some dd) (ho : keyOk P t key = true) (h1 : VRel ρ key ck) (h2 : VRel ρ k cm) (he : eqKey key k = some b) : Instr.sameNow dd ck cm = some b := by
  unfold eqKey at he
  split at he
  · split at he
    · rename_i kk n k' m hk
      obtain rfl := kindB_eq hk
      injection he with he; subst he
      cases h1; cases h2
      unfold keyOk at ho
      rw [hu] at ho
      cases dd <;> first | (simp at ho; done) | simp [Instr.sameNow, eqI_eq]
    · cases he
  · injection he with he; subst he
    cases h1; cases h2
    unfold keyOk at ho
    rw [hu] at ho
    rename_i s u
    have : (s == u) = eqS s u := by
      unfold eqS
      rw [eqL_eq]
      obtain ⟨⟨s⟩⟩ := s
      obtain ⟨⟨u⟩⟩ := u
      show ((⟨s⟩ : Array UInt8) == ⟨u⟩) = (s == u)
      rw [Bool.eq_iff_iff, beq_iff_eq, beq_iff_eq]
      exact ⟨fun e => by injection e, fun e => by rw [e]⟩
    cases dd <;> first | (simp at ho; done) | simp [Instr.sameNow, this]
  · cases he
theorem findNow_spec {t : TypeId} {dd : TypeDesc} (hu : P.underlying t = some dd) {key : V} {ck : Value} (ho : keyOk P t key = true) (hk : VRel ρ key ck) : ∀ (l : List (V × V)) (es : List MapEntry) (i : Nat), l.length = es.length →
    (∀ (j : Nat) (p : V × V) (m : MapEntry), l[j]? = some p → es[j]? = some m → VRel ρ p.1 m.key ∧ VRel ρ p.2 m.val) → (∀ p, p ∈ l → ∃ b, eqKey key p.1 = some b) →
    (Instr.findNow dd ck es i = some none ∧ ∀ p, p ∈ l → eqKey key p.1 = some false) ∨
    ∃ (j : Nat) (p : V × V) (m : MapEntry), Instr.findNow dd ck es i = some (some (i + j, m.val)) ∧ l[j]? = some p ∧ es[j]? = some m ∧ eqKey key p.1 = some true
  | [], [], i, _, _, _ => .inl ⟨rfl, fun p hp => by cases hp⟩
  | [], _ :: _, _, hl, _, _ => by cases hl
  | _ :: _, [], _, hl, _, _ => by cases hl
  | p :: l, m :: es, i, hl, hr, ha => by
    obtain ⟨b, hb⟩ := ha p (List.mem_cons_self ..)
    have hs := sameNow_eq hu ho hk (hr 0 p m rfl rfl).1 hb
    cases b with
    | true => exact .inr ⟨0, p, m, by unfold Instr.findNow; rw [hs]; rfl, rfl, rfl, hb⟩
    | false =>
      rcases findNow_spec hu ho hk l es (i + 1) (by simpa using hl) (fun j p' m' h1 h2 => hr (j + 1) p' m' h1 h2) (fun p' hp => ha p' (List.mem_cons_of_mem _ hp)) with ⟨h1, h2⟩ | ⟨j, p', m', h1, h2, h3, h4⟩
      · refine .inl ⟨by unfold Instr.findNow; rw [hs]; exact h1, fun p' hp => ?_⟩
        cases hp with
        | head => exact hb
        | tail _ hp => exact h2 p' hp
      · refine .inr ⟨j + 1, p', m', ?_, h2, h3, h4⟩
        unfold Instr.findNow; rw [hs]
        show Instr.findNow dd ck es (i + 1) = _
        rw [h1, show i + 1 + j = i + (j + 1) by omega]
theorem run_checkKey (w : World) {t : TypeId} {dd : TypeDesc} (hu : P.underlying t = some dd) {key : V} {ck : Value} (ho : keyOk P t key = true) (hk : VRel ρ key ck) (e : Bool) : (Instr.checkKey e 10000 t ck).run P w = .ok () w := by
  have h1 : ∀ n, (Instr.checkKey e (n + 1) t ck).run P w = .ok () w := by
    intro n
    unfold Instr.checkKey
    rw [Sem.run_bind, run_und hu, Result.andThen_ok]
    unfold keyOk at ho
    split at ho
    · cases hk
      rw [hu] at ho
      cases dd <;> first | (simp at ho; done) | rfl
    · cases hk
      rw [hu] at ho
      cases dd <;> first | (simp at ho; done) | rfl
    · cases ho
  exact h1 9999
def outHit (ok : Bool) (v : V) : V := match ok with | true => .tup [v, .bool true] | false => v
def outMiss (P : Program) (et : TypeId) (ok : Bool) : Option V :=
  match P.info? et with
  | some it => match it.zero with
    | some z => match constV z with
      | some v => some (match ok with | true => .tup [v, .bool false] | false => v)
      | none => none
    | none => none
  | none => none
noncomputable def evLookup (P : Program) (h : H) (t : TypeId) (x key : V) (commaOk : Bool) : Option V :=
  match P.underlying t with
  | some (.map kt et) => match keyOk P kt key with
    | true => match x with
      | .mnil => outMiss P et commaOk
      | .map k => match h.t.get k with
        | some (.map es) => match allKeys key es with
          | true => match evFind key es with
            | some v => some (outHit commaOk v)
            | none => outMiss P et commaOk
          | false => none
        | _ => none
      | _ => none
    | false => none
  | _ => none
theorem tup2 {a : V} {c : Value} {b : Bool} (ha : VRel ρ a c) : VRel ρ (.tup [a, .bool b]) (.tuple #[c, .bool b]) := by
  refine .tup rfl fun i v x hv hx => ?_
  match i with
  | 0 => simp at hv hx; subst hv; subst hx; exact ha
  | 1 => simp at hv hx; subst hv; subst hx; exact .bool _
  | i + 2 => simp at hv
theorem outMiss_sound (w : World) {et : TypeId} {ok : Bool} {v : V} (he : outMiss P et ok = some v) : ∃ z, (zeroValue et).run P w = .ok z w ∧ VRel ρ v (if ok then .tuple #[z, .bool false] else z) := by
  unfold outMiss at he
  split at he
  · rename_i it hit
    split at he
    · rename_i z hz
      split at he
      · rename_i u hc
        injection he with he; subst he
        refine ⟨z, by simp [zeroValue, typeInfo, hit, hz], ?_⟩
        cases ok
        · exact constV_rel hc
        · exact tup2 (constV_rel hc)
      · cases he
    · cases he
  · cases he
theorem evLookup_sound (r : Rel ρ h w) {t : TypeId} {x key v : V} {c ck : Value} {ok : Bool} (hx : VRel ρ x c) (hk : VRel ρ key ck) (he : evLookup P h t x key ok = some v) : ∃ q, (Instr.lookup t c ck ok).run P w = .ok q w ∧ VRel ρ v q := by
  unfold evLookup at he
  split at he
  · rename_i kt et hu
    split at he
    · rename_i ho
      have hun : ∃ dd, P.underlying kt = some dd := by
        cases hq : P.underlying kt with
        | some dd => exact ⟨dd, rfl⟩
        | none => unfold keyOk at ho; rw [hq] at ho; split at ho <;> simp at ho
      obtain ⟨dd, hdd⟩ := hun
      split at he
      · cases hx
        obtain ⟨z, hz, hv⟩ := outMiss_sound (ρ := ρ) w he
        refine ⟨_, ?_, hv⟩
        unfold Instr.lookup
        simp only [Sem.run_bind, run_und hu, Result.andThen_ok, Sem.run_pure, run_checkKey w hdd ho hk, Instr.findKey, run_und hdd]
        simp [Instr.findNow, hz]
      · rename_i k
        split at he
        · rename_i es hget
          split at he
          · rename_i ha
            obtain ⟨e, es', clock, hek, _, _, rfl, hb, ⟨hky, l, hp, hl, hr⟩, _⟩ := map_now r hx hget
            have hall : ∀ p, p ∈ l → ∃ b, eqKey key p.1 = some b := fun p hpm => allKeys_mem ha (hp.mem_iff.mp hpm)
            have hsp := findNow_spec hdd ho hk l es'.toList 0 hl hr hall
            have run1 : ∀ o, Instr.findNow dd ck es'.toList 0 = some o → (Instr.lookup t (.map (some e.b)) ck ok).run P w = (((match o with | some (_, v) => pure (v, true) | none => (fun z => (z, false)) <$> zeroValue et : Sem (Value × Bool))).run P w).andThen fun p w' => .ok (if ok then .tuple #[p.1, .bool p.2] else p.1) w' := by
              intro o hfo
              unfold Instr.lookup
              simp only [Sem.run_bind, run_und hu, Result.andThen_ok, run_getMap w hb, Sem.run_pure, run_checkKey w hdd ho hk, Instr.findKey, run_und hdd, hfo]
              cases o with
              | none => simp; cases (zeroValue et).run P w <;> rfl
              | some p => obtain ⟨i, v⟩ := p; simp
            split at he
            · rename_i u hf
              injection he with he; subst he
              obtain ⟨k0, hm0, hk0⟩ := evFind_some hf
              rcases hsp with ⟨_, hno⟩ | ⟨j, p, m, h1, h2, h3, h4⟩
              · have := hno _ (hp.mem_iff.mpr hm0)
                rw [hk0] at this; cases this
              · have hpu : p = (k0, u) := keys_inj hky (hp.mem_iff.mp (List.mem_of_getElem? h2)) hm0 ((eqKey_eq h4).symm.trans (eqKey_eq hk0))
                subst hpu
                refine ⟨if ok then .tuple #[m.val, .bool true] else m.val, ?_, ?_⟩
                · rw [run1 _ h1]; simp
                · have hv := (hr j _ m h2 h3).2
                  cases ok
                  · exact hv
                  · exact tup2 hv
            · rename_i hf
              have hnone : Instr.findNow dd ck es'.toList 0 = some none := by
                rcases hsp with ⟨h1, _⟩ | ⟨j, p, m, h1, h2, h3, h4⟩
                · exact h1
                · exact absurd h4 (evFind_none hf (hp.mem_iff.mp (List.mem_of_getElem? h2)))
              obtain ⟨z, hz, hv⟩ := outMiss_sound (ρ := ρ) w he
              refine ⟨_, ?_, hv⟩
              rw [run1 _ hnone]; simp [hz]
          · cases he
        · cases he
      · cases he
    · cases he
  · cases he
end
end Go.Ev
/- Any operation that changes no memory, by its kind: reckoned by the kernel; and that the machine's operation comes to the same. No condition but what each theorem says. -/
namespace Go.Ev
set_option linter.unusedVariables false
set_option linter.unusedSimpArgs false
open Go
section
variable {P : Program} {ρ : Env} {h : H} {w : World}
def evNil : V → Option V
  | .pnil => none
  | .inil => none
  | .fnil => none
  | v => some v
noncomputable def evBin (P : Program) (h : H) (op : BinOp) (t : TypeId) (c : Bool) (x y : V) : Option V :=
  match x, y with
  | .int k a, .int k' b => match op with
    | .shl => evShift .shl k a b
    | .shr => evShift .shr k a b
    | op => match kindB k k' with
      | true => evInt op k a b
      | false => none
  | x, y => match op with
    | .eql => match evEq P h t c x y with | some b => some (.bool b) | none => none
    | .neq => match evEq P h t c x y with | some b => some (.bool (match b with | true => false | false => true)) | none => none
    | _ => none
theorem guard_int (w : World) {op : BinOp} {t : TypeId} {x y : Operand} {k k' : IntKind} {a b : Int} : (eqGuard op t x y (.int k a) (.int k' b)).run P w = .ok () w := by
  unfold eqGuard
  cases op <;> rfl
theorem evBin_sound (w : World) {op : BinOp} {t : TypeId} {x y v : V} {xo yo : Operand} {a b : Value} (hx : VRel ρ x a) (hy : VRel ρ y b) (he : evBin P h op t (isC xo || isC yo) x y = some v) :
    ∃ q, (do eqGuard op t xo yo a b; binOp op t a b).run P w = .ok q w ∧ VRel ρ v q := by
  unfold evBin at he
  split at he
  · rename_i k n k' m
    cases hx; cases hy
    split at he
    · obtain ⟨q, h1, h2⟩ := evShift_sound (ρ := ρ) (k' := k') (P := P) w t he
      exact ⟨q, by rw [Sem.run_bind, guard_int, Result.andThen_ok, h1], h2⟩
    · obtain ⟨q, h1, h2⟩ := evShift_sound (ρ := ρ) (k' := k') (P := P) w t he
      exact ⟨q, by rw [Sem.run_bind, guard_int, Result.andThen_ok, h1], h2⟩
    · split at he
      · rename_i hk
        obtain rfl := kindB_eq hk
        obtain ⟨q, h1, h2⟩ := evInt_sound (ρ := ρ) (P := P) w t he
        exact ⟨q, by rw [Sem.run_bind, guard_int, Result.andThen_ok, h1], h2⟩
      · cases he
  · split at he
    · split at he
      · rename_i r hr
        injection he with he; subst he
        exact ⟨_, evEq_sound w (.inl rfl) hx hy hr, .bool _⟩
      · cases he
    · split at he
      · rename_i r hr
        injection he with he; subst he
        refine ⟨_, evEq_sound w (.inr rfl) hx hy hr, ?_⟩
        cases r <;> exact .bool _
      · cases he
    · cases he
def maxV : V → V → Option V
  | .int k x, .int k' y => match kindB k k' with | true => some (.int k (match leI y x with | true => x | false => y)) | false => none
  | _, _ => none
def minV : V → V → Option V
  | .int k x, .int k' y => match kindB k k' with | true => some (.int k (match leI x y with | true => x | false => y)) | false => none
  | _, _ => none
def foldV (f : V → V → Option V) (a : V) : List V → Option V
  | [] => some a
  | b :: l => match f a b with | some c => foldV f c l | none => none
def LRel (ρ : Env) : List V → List Value → Prop
  | [], [] => True
  | v :: l, c :: m => VRel ρ v c ∧ LRel ρ l m
  | _, _ => False
theorem LRel.length {l : List V} {m : List Value} (hr : LRel ρ l m) : m.length = l.length := by
  induction l generalizing m with
  | nil => cases m with | nil => rfl | cons _ _ => exact hr.elim
  | cons v l ih => cases m with | nil => exact hr.elim | cons c m => simp [ih hr.2]
theorem LRel.get {l : List V} {m : List Value} (hr : LRel ρ l m) : ∀ (i : Nat) (v : V) (c : Value), l[i]? = some v → m[i]? = some c → VRel ρ v c := by
  induction l generalizing m with
  | nil => intro i v c hv; simp at hv
  | cons u l ih =>
    cases m with
    | nil => exact hr.elim
    | cons d m =>
      intro i v c hv hc
      cases i with
      | zero => simp at hv hc; subst hv; subst hc; exact hr.1
      | succ i => exact ih hr.2 i v c (by simpa using hv) (by simpa using hc)
theorem LRel.of {l : List V} {m : List Value} (hl : m.length = l.length) (hr : ∀ (i : Nat) (v : V) (c : Value), l[i]? = some v → m[i]? = some c → VRel ρ v c) : LRel ρ l m := by
  induction l generalizing m with
  | nil => cases m with | nil => trivial | cons _ _ => cases hl
  | cons u l ih =>
    cases m with
    | nil => cases hl
    | cons d m => exact ⟨hr 0 u d rfl rfl, ih (by simpa using hl) fun i v c hv hc => hr (i + 1) v c (by simpa using hv) (by simpa using hc)⟩
theorem LRel.ext {n m : Nat} {ρ' : Env} (x : Ext n m ρ ρ') {l : List V} {cs : List Value} (hr : LRel ρ l cs) : LRel ρ' l cs := LRel.of hr.length fun i v c hv hc => (hr.get i v c hv hc).ext x
theorem maxV_sound (w : World) {x y v : V} {a b : Value} (hx : VRel ρ x a) (hy : VRel ρ y b) (he : maxV x y = some v) : ∃ q, (Builtin.max2 a b).run P w = .ok q w ∧ VRel ρ v q := by
  unfold maxV at he
  split at he
  · rename_i k n k' m
    split at he
    · rename_i hk
      obtain rfl := kindB_eq hk
      injection he with he; subst he
      cases hx; cases hy
      refine ⟨.int k (if m > n then m else n), rfl, ?_⟩
      rw [leI_eq]
      by_cases c : m ≤ n
      · rw [decide_eq_true c, if_neg (by omega)]; exact .int _ _
      · rw [decide_eq_false c, if_pos (by omega)]; exact .int _ _
    · cases he
  · cases he
theorem minV_sound (w : World) {x y v : V} {a b : Value} (hx : VRel ρ x a) (hy : VRel ρ y b) (he : minV x y = some v) : ∃ q, (Builtin.min2 a b).run P w = .ok q w ∧ VRel ρ v q := by
  unfold minV at he
  split at he
  · rename_i k n k' m
    split at he
    · rename_i hk
      obtain rfl := kindB_eq hk
      injection he with he; subst he
      cases hx; cases hy
      refine ⟨.int k (if m < n then m else n), rfl, ?_⟩
      rw [leI_eq]
      by_cases c : n ≤ m
      · rw [decide_eq_true c, if_neg (by omega)]; exact .int _ _
      · rw [decide_eq_false c, if_pos (by omega)]; exact .int _ _
    · cases he
  · cases he
theorem fold_sound (w : World) {f : V → V → Option V} {g : Value → Value → Sem Value} (hf : ∀ {x y v : V} {a b : Value}, VRel ρ x a → VRel ρ y b → f x y = some v → ∃ q, (g a b).run P w = .ok q w ∧ VRel ρ v q) :
    ∀ (l : List V) (m : List Value) (x v : V) (a : Value), VRel ρ x a → LRel ρ l m → foldV f x l = some v → ∃ q, (m.foldlM g a).run P w = .ok q w ∧ VRel ρ v q
  | [], [], x, v, a, hx, _, he => by injection he with he; subst he; exact ⟨a, rfl, hx⟩
  | [], _ :: _, _, _, _, _, hr, _ => hr.elim
  | _ :: _, [], _, _, _, _, hr, _ => hr.elim
  | y :: l, b :: m, x, v, a, hx, hr, he => by
    unfold foldV at he
    split at he
    · rename_i c hc
      obtain ⟨q, h1, h2⟩ := hf hx hr.1 hc
      obtain ⟨q', h3, h4⟩ := fold_sound w hf l m c v q h2 hr.2 he
      exact ⟨q', by rw [List.foldlM_cons, Sem.run_bind, h1, Result.andThen_ok, h3], h4⟩
    · cases he
/-- Values of operands. -/
noncomputable def evA (a : T V) : Operand → Option V
  | .tmp t => a.get t
  | .const v => constV v
  | .func f => some (.func f [])
  | .global _ => none
def evL (ev : Operand → Option V) : List Operand → Option (List V)
  | [] => some []
  | x :: l => match ev x with
    | some v => match evL ev l with
      | some r => some (v :: r)
      | none => none
    | none => none
def evP (ev : Operand → Option V) : List (Nat × Operand) → Option (List (Nat × V))
  | [] => some []
  | (i, x) :: l => match ev x with
    | some v => match evP ev l with
      | some r => some ((i, v) :: r)
      | none => none
    | none => none
def evO (ev : Operand → Option V) : Option Operand → Option (Option V)
  | none => some none
  | some x => match ev x with | some v => some (some v) | none => none
theorem evL_rel {ev : Operand → Option V} {re : Operand → Value} : ∀ (l : List Operand) (r : List V), (∀ x, x ∈ l → ∀ v, ev x = some v → VRel ρ v (re x)) → evL ev l = some r → LRel ρ r (l.map re)
  | [], r, _, he => by injection he with he; subst he; trivial
  | x :: l, r, hr, he => by
    unfold evL at he
    split at he
    · rename_i v hv
      split at he
      · rename_i r' hr'
        injection he with he; subst he
        exact ⟨hr x (List.mem_cons_self ..) v hv, evL_rel l r' (fun y hy => hr y (List.mem_cons_of_mem _ hy)) hr'⟩
      · cases he
    · cases he
theorem evP_rel {ev : Operand → Option V} {re : Operand → Value} : ∀ (l : List (Nat × Operand)) (r : List (Nat × V)), (∀ p, p ∈ l → ∀ v, ev p.2 = some v → VRel ρ v (re p.2)) → evP ev l = some r → PRel ρ r (l.map fun (i, x) => (i, re x))
  | [], r, _, he => by injection he with he; subst he; trivial
  | (i, x) :: l, r, hr, he => by
    unfold evP at he
    split at he
    · rename_i v hv
      split at he
      · rename_i r' hr'
        injection he with he; subst he
        exact ⟨rfl, hr (i, x) (List.mem_cons_self ..) v hv, evP_rel l r' (fun y hy => hr y (List.mem_cons_of_mem _ hy)) hr'⟩
      · cases he
    · cases he
theorem evO_rel {ev : Operand → Option V} {re : Operand → Value} {o : Option Operand} {r : Option V} (hr : ∀ x, x ∈ o.toArray → ∀ v, ev x = some v → VRel ρ v (re x)) (he : evO ev o = some r) : ORelV ρ r (o.map re) := by
  cases o with
  | none => injection he with he; subst he; trivial
  | some x =>
    cases hv : ev x with
    | none => simp [evO, hv] at he
    | some v => simp [evO, hv] at he; subst he; exact hr x (by simp) v hv
noncomputable def evBuiltin (P : Program) (h : H) (b : Builtin) (ts : Array TypeId) (args : List V) : Option V :=
  match b with
  | .len => match ts[0]?, args with
    | some t, [x] => evLen P h t x
    | _, _ => none
  | .max => match args with
    | x :: l => foldV maxV x l
    | [] => none
  | .min => match args with
    | x :: l => foldV minV x l
    | [] => none
  | _ => none
noncomputable def rPick (ev : Operand → Option V) (c a b : Operand) : Option V :=
  match ev c with
  | some (.bool t) => match t with | true => ev a | false => ev b
  | _ => none
noncomputable def rLoad (P : Program) (ev : Operand → Option V) (h : H) (t : TypeId) (a : Operand) : Option V := match ev a with | some v => evLoad P h t v | none => none
noncomputable def rNil (ev : Operand → Option V) (x : Operand) : Option V := match ev x with | some v => evNil v | none => none
noncomputable def rBin (P : Program) (ev : Operand → Option V) (h : H) (op : BinOp) (t : TypeId) (x y : Operand) : Option V :=
  match ev x with
  | some a => match ev y with
    | some b => evBin P h op t (isC x || isC y) a b
    | none => none
  | none => none
noncomputable def rUn (ev : Operand → Option V) (op : UnOp) (x : Operand) : Option V := match ev x with | some v => evUn op v | none => none
noncomputable def rConvert (P : Program) (ev : Operand → Option V) (h : H) (s d : TypeId) (x : Operand) : Option V := match ev x with | some v => evConvert P h s d v | none => none
noncomputable def rIface (P : Program) (ev : Operand → Option V) (t : TypeId) (x : Operand) : Option V :=
  match ev x with
  | some v => match P.underlying t with
    | some (.interface _) => none
    | some _ => some (.iface t v)
    | none => none
  | none => none
noncomputable def rFunc (ev : Operand → Option V) (fn : Fn) (first captured : Array Operand) : Option V :=
  match fn, first.toList, evL ev captured.toList with
  | .func f, [], some l => some (.func f l)
  | _, _, _ => none
noncomputable def rSlice (P : Program) (ev : Operand → Option V) (h : H) (t : TypeId) (x : Operand) (lo hi mx : Option Operand) : Option V :=
  match ev x with
  | some v => match evO ev lo, evO ev hi, evO ev mx with
    | some l, some u, some m => match m, u with
      | some _, none => none
      | m, u => evSlice P h t v l u m
    | _, _, _ => none
  | none => none
noncomputable def rFieldAddr (P : Program) (ev : Operand → Option V) (t : TypeId) (x : Operand) (f : Nat) : Option V := match ev x with | some v => evFieldAddr P t f v | none => none
noncomputable def rField (P : Program) (ev : Operand → Option V) (t : TypeId) (x : Operand) (f : Nat) : Option V := match ev x with | some v => evField P t f v | none => none
noncomputable def rIndexAddr (P : Program) (ev : Operand → Option V) (h : H) (t : TypeId) (x i : Operand) : Option V :=
  match ev x with
  | some a => match ev i with | some b => evIndexAddr P h t a b | none => none
  | none => none
noncomputable def rIndex (P : Program) (ev : Operand → Option V) (t : TypeId) (x i : Operand) : Option V :=
  match ev x with
  | some a => match ev i with | some b => evIndex P t a b | none => none
  | none => none
noncomputable def rLookup (P : Program) (ev : Operand → Option V) (h : H) (t : TypeId) (x i : Operand) (ok : Bool) : Option V :=
  match ev x with
  | some a => match ev i with | some b => evLookup P h t a b ok | none => none
  | none => none
noncomputable def rExtract (ev : Operand → Option V) (x : Operand) (i : Nat) : Option V := match ev x with | some v => evExtract i v | none => none
noncomputable def rBuild (P : Program) (ev : Operand → Option V) (t : TypeId) (parts : Array (Nat × Operand)) : Option V := match evP ev parts.toList with | some l => evBuild P t l | none => none
noncomputable def rCall (P : Program) (ev : Operand → Option V) (h : H) (c : Call) : Option V :=
  match c.callee with
  | .builtin b => match evL ev c.args.toList with
    | some l => evBuiltin P h b c.argTypes l
    | none => none
  | _ => none
/-- What an operation that changes no memory comes to. -/
noncomputable def evR (P : Program) (ev : Operand → Option V) (h : H) (o : Op) : Option V :=
  match o with
  | .move x => ev x
  | .assign x => ev x
  | .pick c a b => rPick ev c a b
  | .load t a => rLoad P ev h t a
  | .nilCheck x => rNil ev x
  | .binOp op t x y _ => rBin P ev h op t x y
  | .unOp op _ x => rUn ev op x
  | .convert s d x => rConvert P ev h s d x
  | .makeInterface t x => rIface P ev t x
  | .makeFunc fn first captured => rFunc ev fn first captured
  | .slice t x lo hi mx => rSlice P ev h t x lo hi mx
  | .fieldAddr t x f => rFieldAddr P ev t x f
  | .field t x f => rField P ev t x f
  | .indexAddr t x i => rIndexAddr P ev h t x i
  | .index t x i => rIndex P ev t x i
  | .lookup t x i ok => rLookup P ev h t x i ok
  | .extract x i => rExtract ev x i
  | .build t parts => rBuild P ev t parts
  | .call c => rCall P ev h c
  | _ => none
theorem run_pureV (w : World) (s : Sem Value) {q : Value} (hs : s.run P w = .ok q w) : (do pure (.value (← s)) : Sem Next).run P w = .ok (.value q) w := by
  rw [Sem.run_bind, hs]; rfl
set_option maxHeartbeats 1000000 in
theorem evR_sound (r : Rel ρ h w) {ev : Operand → Option V} {re : Operand → Value} {o : Oper} {v : V} (hev : ∀ x, x ∈ o.op.operands → ∀ u, ev x = some u → VRel ρ u (re x)) (he : evR P ev h o.op = some v) :
    ∃ q, (execOp re o).run P w = .ok (.value q) w ∧ VRel ρ v q := by
  obtain ⟨dst, op, type, pos, after, guard⟩ := o
  simp only at he hev
  unfold evR at he
  unfold execOp
  split at he
  · exact ⟨_, rfl, hev _ (by simp [Op.operands]) _ he⟩
  · exact ⟨_, rfl, hev _ (by simp [Op.operands]) _ he⟩
  · rename_i c a b
    unfold rPick at he
    split at he
    · rename_i t hc
      have h1 := hev c (by simp [Op.operands]) _ hc
      have h1' : re c = .bool t := by revert h1; generalize re c = q; intro h1; cases h1; rfl
      split at he
      · exact ⟨re a, by simp [h1', asBool], hev a (by simp [Op.operands]) _ he⟩
      · exact ⟨re b, by simp [h1', asBool], hev b (by simp [Op.operands]) _ he⟩
    · cases he
  · rename_i t a
    unfold rLoad at he
    split at he
    · rename_i u hu
      obtain ⟨q, h1, h2⟩ := evLoad_sound (P := P) r (hev a (by simp [Op.operands]) _ hu) he
      exact ⟨q, run_pureV w _ h1, h2⟩
    · cases he
  · rename_i x
    unfold rNil at he
    split at he
    · rename_i u hu
      have h1 := hev x (by simp [Op.operands]) _ hu
      unfold evNil at he
      split at he <;> first | (cases he; done) | skip
      injection he with he; subst he
      refine ⟨re x, ?_, h1⟩
      dsimp only
      revert h1
      generalize re x = q
      intro h1
      cases h1 <;> first | rfl | (exfalso; simp_all; done)
    · cases he
  · rename_i op t x y yt
    unfold rBin at he
    split at he
    · rename_i a ha
      split at he
      · rename_i b hb
        obtain ⟨q, h1, h2⟩ := evBin_sound (P := P) w (hev x (by simp [Op.operands]) _ ha) (hev y (by simp [Op.operands]) _ hb) he
        exact ⟨q, run_pureV w _ h1, h2⟩
      · cases he
    · cases he
  · rename_i op t x
    unfold rUn at he
    split at he
    · rename_i u hu
      obtain ⟨q, h1, h2⟩ := evUn_sound (P := P) w (hev x (by simp [Op.operands]) _ hu) he
      exact ⟨q, run_pureV w _ h1, h2⟩
    · cases he
  · rename_i s d x
    unfold rConvert at he
    split at he
    · rename_i u hu
      obtain ⟨q, h1, h2⟩ := evConvert_sound (P := P) r (hev x (by simp [Op.operands]) _ hu) he
      exact ⟨q, run_pureV w _ h1, h2⟩
    · cases he
  · rename_i t x
    unfold rIface at he
    split at he
    · rename_i u hu
      split at he
      · cases he
      · rename_i d hnd hd
        injection he with he; subst he
        refine ⟨.iface t (re x), run_pureV w _ ?_, .iface (hev x (by simp [Op.operands]) _ hu)⟩
        unfold Instr.makeInterface
        rw [Sem.run_bind, run_und hd, Result.andThen_ok]
        cases d <;> first | rfl | exact absurd rfl (hnd _)
      · cases he
    · cases he
  · rename_i fn first captured
    unfold rFunc at he
    split at he
    · rename_i f l hf hl
      injection he with he; subst he
      have h1 := evL_rel (re := re) captured.toList l (fun x hx => hev x (by simp [Op.operands]; exact .inr (by simpa using hx))) hl
      have hfirst : first = #[] := by cases first; simp_all
      subst hfirst
      refine ⟨.func (.func f) #[] (captured.map re), run_pureV w _ (by simp [Instr.makeFunc]), .func (by have := h1.length; simpa using this) fun i u c hu hc => h1.get i u c hu (by simpa using hc)⟩
    · cases he
  · rename_i t x lo hi mx
    unfold rSlice at he
    split at he
    · rename_i u hu
      split at he
      · rename_i l uu m h1 h2 h3
        have r1 := evO_rel (re := re) (o := lo) (fun y hy => hev y (by simp only [Op.operands, Array.mem_append]; exact .inl (.inl (.inr hy)))) h1
        have r2 := evO_rel (re := re) (o := hi) (fun y hy => hev y (by simp only [Op.operands, Array.mem_append]; exact .inl (.inr hy))) h2
        have r3 := evO_rel (re := re) (o := mx) (fun y hy => hev y (by simp only [Op.operands, Array.mem_append]; exact .inr hy)) h3
        split at he
        · cases he
        · rename_i hne
          obtain ⟨q, g1, g2⟩ := evSlice_sound (P := P) r r1 r2 r3 (fun hm hu' => by
            cases m with
            | none => exact hm rfl
            | some m => subst hu'; exact hne _ rfl rfl) (hev x (by simp [Op.operands]) _ hu) he
          exact ⟨q, run_pureV w _ g1, g2⟩
      · cases he
    · cases he
  · rename_i t x f
    unfold rFieldAddr at he
    split at he
    · rename_i u hu
      obtain ⟨q, h1, h2⟩ := evFieldAddr_sound (P := P) w (hev x (by simp [Op.operands]) _ hu) he
      exact ⟨q, run_pureV w _ h1, h2⟩
    · cases he
  · rename_i t x f
    unfold rField at he
    split at he
    · rename_i u hu
      obtain ⟨q, h1, h2⟩ := evField_sound (P := P) w (hev x (by simp [Op.operands]) _ hu) he
      exact ⟨q, run_pureV w _ h1, h2⟩
    · cases he
  · rename_i t x i
    unfold rIndexAddr at he
    split at he
    · rename_i a ha
      split at he
      · rename_i b hb
        obtain ⟨q, h1, h2⟩ := evIndexAddr_sound (P := P) r (hev x (by simp [Op.operands]) _ ha) (hev i (by simp [Op.operands]) _ hb) he
        exact ⟨q, run_pureV w _ h1, h2⟩
      · cases he
    · cases he
  · rename_i t x i
    unfold rIndex at he
    split at he
    · rename_i a ha
      split at he
      · rename_i b hb
        obtain ⟨q, h1, h2⟩ := evIndex_sound (P := P) w (hev x (by simp [Op.operands]) _ ha) (hev i (by simp [Op.operands]) _ hb) he
        exact ⟨q, run_pureV w _ h1, h2⟩
      · cases he
    · cases he
  · rename_i t x i ok
    unfold rLookup at he
    split at he
    · rename_i a ha
      split at he
      · rename_i b hb
        obtain ⟨q, h1, h2⟩ := evLookup_sound (P := P) r (hev x (by simp [Op.operands]) _ ha) (hev i (by simp [Op.operands]) _ hb) he
        exact ⟨q, run_pureV w _ h1, h2⟩
      · cases he
    · cases he
  · rename_i x i
    unfold rExtract at he
    split at he
    · rename_i u hu
      obtain ⟨q, h1, h2⟩ := evExtract_sound (P := P) w (hev x (by simp [Op.operands]) _ hu) he
      exact ⟨q, run_pureV w _ h1, h2⟩
    · cases he
  · rename_i t parts
    unfold rBuild at he
    split at he
    · rename_i l hl
      have h1 := evP_rel (re := re) parts.toList l (fun p hp => hev p.2 (by simp only [Op.operands, List.mem_toArray, List.mem_map]; exact ⟨p, hp, rfl⟩)) hl
      obtain ⟨q, g1, g2⟩ := evBuild_sound (P := P) (parts' := parts.map fun (i, x) => (i, re x)) w (by simpa using h1) he
      exact ⟨q, run_pureV w _ g1, g2⟩
    · cases he
  · rename_i c
    unfold rCall at he
    split at he
    · rename_i b hb
      split at he
      · rename_i l hl
        have h1 := evL_rel (re := re) c.args.toList l (fun x hx => hev x (by simp only [Op.operands, Call.operands, Array.mem_append]; exact .inr (by simpa using hx))) hl
        have hres : (resolve re c type).run P w = .ok { target := .builtin b c.argTypes type (c.args.map fun | .const _ => true | _ => false), args := c.args.map re } w := by
          unfold resolve; rw [hb]; rfl
        have go : ∀ q, (builtin b c.argTypes type (c.args.map fun | .const _ => true | _ => false) (c.args.map re)).run P w = .ok (.value q) w → (do let d ← resolve re c type; invoke d.target d.args : Sem Next).run P w = .ok (.value q) w := by
          intro q hq
          rw [Sem.run_bind, hres, Result.andThen_ok]
          exact hq
        unfold evBuiltin at he
        split at he
        · split at he
          · rename_i t x ht
            have hargs : c.args.map re = #[(c.args.map re)[0]'(by have := h1.length; simp at this ⊢; omega)] := by
              have := h1.length
              apply Array.ext
              · simpa using this
              · intro i h1 h2; simp at h2; subst h2; simp
            have hx : VRel ρ x ((c.args.map re)[0]'(by have := h1.length; simp at this ⊢; omega)) := h1.get 0 x _ rfl (by have := h1.length; simp at this ⊢; rw [Array.getElem?_eq_getElem (by omega)]; exact ⟨_, rfl, rfl⟩)
            obtain ⟨q, g1, g2⟩ := evLen_sound (P := P) (ty := type) r ht hx he
            refine ⟨q, go q ?_, g2⟩
            rw [hargs]
            exact run_pureV w _ g1
          · cases he
        · split at he
          · rename_i x l' 
            obtain ⟨cs, hcs⟩ : ∃ cs, c.args.toList.map re = cs := ⟨_, rfl⟩
            rw [hcs] at h1
            cases cs with
            | nil => exact h1.elim
            | cons a m =>
              obtain ⟨q, g1, g2⟩ := fold_sound (P := P) w (fun hx hy he => maxV_sound w hx hy he) l' m x v a h1.1 h1.2 he
              refine ⟨q, go q (run_pureV w _ ?_), g2⟩
              unfold Builtin.max_
              have : (c.args.map re).toList = a :: m := by simpa using hcs
              rw [this]
              exact g1
          · cases he
        · split at he
          · rename_i x l' 
            obtain ⟨cs, hcs⟩ : ∃ cs, c.args.toList.map re = cs := ⟨_, rfl⟩
            rw [hcs] at h1
            cases cs with
            | nil => exact h1.elim
            | cons a m =>
              obtain ⟨q, g1, g2⟩ := fold_sound (P := P) w (fun hx hy he => minV_sound w hx hy he) l' m x v a h1.1 h1.2 he
              refine ⟨q, go q (run_pureV w _ ?_), g2⟩
              unfold Builtin.min_
              have : (c.args.map re).toList = a :: m := by simpa using hcs
              rw [this]
              exact g1
          · cases he
        · cases he
      · cases he
    · cases he
  · cases he
end
end Go.Ev
/- What an operation that makes or changes memory comes to, reckoned by the kernel; and that the machine's operation comes to the same. No condition but what each theorem says. -/
namespace Go.Ev
set_option linter.unusedVariables false
set_option linter.unusedSimpArgs false
open Go
section
variable {P : Program} {ρ : Env} {h : H} {w : World}
/-- A value's cells, as a row. -/
noncomputable def rowOf : V → Option (Nat × List (Nat × V) × T V)
  | .agg n d t => some (n, d, t)
  | .tup _ => none
  | v => some (1, [], T.set .e 0 v)
theorem rowOf_rel {v : V} {c : Value} {n : Nat} {d : List (Nat × V)} {t : T V} (hv : VRel ρ v c) (hr : rowOf v = some (n, d, t)) : c.cells.size = n ∧ ∀ i, i < n → ∃ u x, rget d t i = some u ∧ c.cells[i]? = some x ∧ VRel ρ u x := by
  cases hv with
  | agg hs hd hh =>
    injection hr with hr
    injection hr with h1 h2
    injection h2 with h2 h3
    subst h1; subst h2; subst h3
    refine ⟨hs, fun i hi => ?_⟩
    obtain ⟨u, hu⟩ := hd i hi
    have hlt := hs ▸ hi
    exact ⟨u, _, hu, Array.getElem?_eq_getElem hlt, hh i u _ hu (Array.getElem?_eq_getElem hlt)⟩
  | tup => cases hr
  | _ =>
    injection hr with hr
    injection hr with h1 h2
    injection h2 with h2 h3
    subst h1; subst h2; subst h3
    refine ⟨rfl, fun i hi => ?_⟩
    obtain rfl : i = 0 := by omega
    refine ⟨_, _, by rw [rget_set, if_pos rfl], rfl, ?_⟩
    constructor <;> assumption
theorem step_row (r : Rel ρ h w) {ty n esz room : Nat} {d : List (Nat × V)} {t : T V} {cs : Array Value} (hs : cs.size = room) (hn : n ≤ room) (hc : ∀ i, i < n → ∃ u x, rget d t i = some u ∧ cs[i]? = some x ∧ VRel ρ u x) :
    ∃ ρ' : Env, (newRow ty cs).run P w = .ok ⟨w.heap.size, 0, none⟩ { w with heap := w.heap.push (.cells cs ty) } ∧ Step ρ h w ρ' (h.push (.cells ty 0 esz false n d t)) { w with heap := w.heap.push (.cells cs ty) } ∧ ρ' h.next = some ⟨w.heap.size, 0, 0, room, esz, false⟩ := by
  refine ⟨_, by simp [newRow], Step.alloc r (.cells ty 0 esz false n d t) (.cells cs ty) ⟨w.heap.size, 0, 0, room, esz, false⟩ rfl ?_, if_pos rfl⟩
  intro ρ' x _
  refine ⟨rfl, rfl, rfl, cs, (0, 0), rfl, by rw [hs]; exact (Nat.zero_add _).symm, hn, fun i hi hf => absurd hf.2 (Nat.not_lt_zero _), fun i hi => ?_⟩
  obtain ⟨u, y, h1, h2, h3⟩ := hc i hi
  exact ⟨u, y, h1, by rw [Nat.zero_add]; exact h2, h3.ext x⟩
noncomputable def evNew (h : H) (ty : TypeId) (v : V) : Option (V × H) :=
  match rowOf v with
  | some (n, d, t) => some (.ptr h.next 0 0, h.push (.cells ty 0 0 false n d t))
  | none => none
/-- What came of an operation. -/
def Comes1 (P : Program) (ρ : Env) (h : H) (w : World) (s : Sem Value) (v : V) (h' : H) : Prop :=
  ∃ (q : Value) (w' : World) (ρ' : Env), s.run P w = .ok q w' ∧ Step ρ h w ρ' h' w' ∧ VRel ρ' v q
theorem evNew_sound (r : Rel ρ h w) {ty : TypeId} {v u : V} {c : Value} {h' : H} (hv : VRel ρ v c) (he : evNew h ty v = some (u, h')) : Comes1 P ρ h w (do pure (.pointer (some (← newVar ty c)))) u h' := by
  unfold evNew at he
  split at he
  · rename_i n d t hr
    injection he with he
    injection he with h1 h2
    subst h1; subst h2
    obtain ⟨g1, g2⟩ := rowOf_rel hv hr
    obtain ⟨ρ', h1, h2, h3⟩ := step_row (P := P) (ty := ty) (esz := 0) r g1 (Nat.le_refl _) g2
    refine ⟨.pointer (some ⟨w.heap.size, 0, none⟩), _, ρ', by rw [newVar, Sem.run_bind, h1]; rfl, h2, ?_⟩
    exact .ptr h3 rfl
  · cases he
noncomputable def evAlloc (P : Program) (h : H) (ty : TypeId) : Option (V × H) :=
  match P.info? ty with
  | some it => match it.zero with
    | some z => match constV z with
      | some v => evNew h ty v
      | none => none
    | none => none
  | none => none
theorem evAlloc_sound (r : Rel ρ h w) {ty : TypeId} {u : V} {h' : H} (he : evAlloc P h ty = some (u, h')) : Comes1 P ρ h w (Instr.alloc ty true (.tuple #[])) u h' := by
  unfold evAlloc at he
  split at he
  · rename_i it hit
    split at he
    · rename_i z hz
      split at he
      · rename_i v hc
        obtain ⟨q, w', ρ', h1, h2, h3⟩ := evNew_sound (P := P) r (constV_rel hc) he
        refine ⟨q, w', ρ', ?_, h2, h3⟩
        unfold Instr.alloc
        have : (zeroValue ty).run P w = .ok z w := by simp [zeroValue, typeInfo, hit, hz]
        rw [Sem.run_bind, this, Result.andThen_ok]
        exact h1
      · cases he
    · cases he
  · cases he
/-! ### slices made -/
noncomputable def evMakeSlice (P : Program) (h : H) (t : TypeId) (len cap : V) : Option (V × H) :=
  match natOf len, natOf cap, P.underlying t with
  | some l, some c, some (.slice elem) => match P.info? elem with
    | some it => match it.zero with
      | some z => match constS z, Nat.beq it.size 1, Nat.ble l c, Nat.ble (Nat.mul it.bytes c) 281474976710656, Nat.ble c 9223372036854775807 with
        | some v, true, true, true, true => some (.slice h.next 0 0 l (some c), h.push (.cells elem 0 1 false c [(c, v)] .e))
        | _, _, _, _, _ => none
      | none => none
    | none => none
  | _, _, _ => none
theorem constS_cells {z : Value} {v : V} (hc : constS z = some v) : z.cells = #[z] := by
  unfold constS at hc
  split at hc <;> first | rfl | cases hc
theorem evMakeSlice_sound (r : Rel ρ h w) {t : TypeId} {l c u : V} {cl cc : Value} {h' : H} (hl : VRel ρ l cl) (hc : VRel ρ c cc) (he : evMakeSlice P h t l c = some (u, h')) : Comes1 P ρ h w (Instr.makeSlice t cl cc) u h' := by
  unfold evMakeSlice at he
  split at he
  · rename_i ln cn elem hln hcn hu
    obtain ⟨k1, rfl⟩ := natOf_rel hl hln
    obtain ⟨k2, rfl⟩ := natOf_rel hc hcn
    split at he
    · rename_i it hit
      split at he
      · rename_i z hz
        split at he
        · rename_i v hv a1 a2 a3 a4
          have a1 := Nat.eq_of_beq_eq_true a1
          have a2 := Nat.le_of_ble_eq_true a2
          have a3 := Nat.le_of_ble_eq_true a3
          have a4 := Nat.le_of_ble_eq_true a4
          injection he with he
          injection he with h1 h2
          subst h1; subst h2
          have hw1 : IntKind.wrap .i64 (ln : Int) = ln := wrap_i64_in ln (by omega)
          have hw2 : IntKind.wrap .i64 (cn : Int) = cn := wrap_i64_in cn a4
          have hzv : (zeroValue elem).run P w = .ok z w := by simp [zeroValue, typeInfo, hit, hz]
          have hti : (typeInfo elem).run P w = .ok it w := by simp [typeInfo, hit]
          have hsz : (sizeOf elem).run P w = .ok 1 w := by rw [← a1]; simp [sizeOf, typeInfo, hit]
          have key : ∀ (zs : Array Value), (cn ≠ 0 → zs = #[z]) → ∃ q w' ρ', ((do let a ← newRow elem ((Array.range cn).map (zs[· % zs.size]!)); pure (Value.slice (some a) ln cn) : Sem Value)).run P w = .ok q w' ∧ Step ρ h w ρ' (h.push (.cells elem 0 1 false cn [(cn, v)] .e)) w' ∧ VRel ρ' (.slice h.next 0 0 ln (some cn)) q := by
            intro zs hzs
            obtain ⟨ρ', g1, g2, g3⟩ := step_row (P := P) (ty := elem) (esz := 1) (d := [(cn, v)]) (t := .e) (n := cn) (room := cn) (cs := (Array.range cn).map (zs[· % zs.size]!)) r (by simp) (Nat.le_refl _) (fun i hi => by
              have := hzs (by omega)
              subst this
              refine ⟨v, z, dget_cons_hit _ _ _ hi, ?_, constS_rel hv⟩
              simp [Array.getElem?_range, hi, Nat.mod_one])
            refine ⟨.slice (some ⟨w.heap.size, 0, none⟩) ln cn, _, ρ', by rw [Sem.run_bind, g1]; rfl, g2, ?_⟩
            exact .slice g3 rfl (fun x hx => by injection hx) a2 (fun hh => by cases hh)
          obtain ⟨q, w', ρ', g1, g2, g3⟩ := key (if cn = 0 then #[] else #[z]) (fun hne => if_neg hne)
          refine ⟨q, w', ρ', ?_, g2, g3⟩
          have hb1 : ¬ ((cn : Int) < 0) := by omega
          have hb2 : ¬ ((it.bytes : Int) * (cn : Int) > 2 ^ 48) := by
            have : ((it.bytes * cn : Nat) : Int) ≤ ((281474976710656 : Nat) : Int) := Int.ofNat_le.mpr a3
            have e2 : (2 : Int) ^ 48 = 281474976710656 := by decide
            rw [e2]
            rw [← Int.natCast_mul]
            omega
          have hb3 : ¬ ((ln : Int) < 0) := by omega
          have hb4 : ¬ ((ln : Int) > (cn : Int)) := by omega
          unfold Instr.makeSlice
          simp only [Sem.run_bind, run_und hu, Result.andThen_ok, asInt, asIntOf, Sem.run_pure, hti, hw1, hw2]
          have hbig : ((decide ((cn : Int) < 0) || decide ((it.bytes : Int) * (cn : Int) > 2 ^ 48)) || decide ((ln : Int) < 0) || decide ((ln : Int) > (cn : Int))) = false := by
            rw [decide_eq_false hb1, decide_eq_false hb2, decide_eq_false hb3, decide_eq_false hb4]; rfl
          simp only [hbig, Bool.false_eq_true, if_false, Sem.run_bind, run_askRoom, Result.andThen_ok, hsz, Sem.run_pure]
          have ht1 : (cn : Int).toNat = cn := rfl
          have ht2 : (ln : Int).toNat = ln := rfl
          simp only [ht1, ht2, Nat.mul_one]
          by_cases h0 : cn = 0
          · rw [if_pos h0] at g1
            simp only [h0, if_true, Sem.run_pure, Result.andThen_ok] at g1 ⊢
            exact g1
          · rw [if_neg h0] at g1
            simp only [if_neg h0, Sem.run_bind, hzv, Result.andThen_ok, Sem.run_pure, constS_cells hv]
            exact g1
        · cases he
      · cases he
    · cases he
  · cases he
/-! ### slices written out -/
noncomputable def evBuildSlice (P : Program) (h : H) (t : TypeId) (len : Nat) (parts : List (Nat × V)) : Option (V × H) :=
  match P.underlying t with
  | some (.slice elem) => match P.info? elem with
    | some it => match it.zero with
      | some z => match Nat.ble (Nat.mul len it.size) 16777216 with
        | true => match fillV (fun i => some (i * it.size, it.size)) (Nat.mul len it.size) .e parts with
          | some t' => match many [] t' 0 (Nat.mul len it.size) with
            | some _ => some (.slice h.next 0 0 len (some len), h.push (.cells elem 0 it.size false (Nat.mul len it.size) [] t'))
            | none => match constS z, Nat.beq it.size 1 with
              | some v, true => some (.slice h.next 0 0 len (some len), h.push (.cells elem 0 1 false len [(len, v)] t'))
              | _, _ => none
          | none => none
        | false => none
      | none => none
    | none => none
  | _ => none
theorem evBuildSlice_sound (r : Rel ρ h w) {t : TypeId} {len : Nat} {parts : List (Nat × V)} {parts' : Array (Nat × Value)} {u : V} {h' : H} (hp : PRel ρ parts parts'.toList) (he : evBuildSlice P h t len parts = some (u, h')) : Comes1 P ρ h w (Instr.buildSlice t len parts') u h' := by
  unfold evBuildSlice at he
  split at he
  · rename_i elem hu
    split at he
    · rename_i it hit
      split at he
      · rename_i z hz
        split at he
        · rename_i hle
          have hle : len * it.size ≤ 16777216 := Nat.le_of_ble_eq_true hle
          split at he
          · rename_i t' hf
            have hzv : (zeroValue elem).run P w = .ok z w := by simp [zeroValue, typeInfo, hit, hz]
            have hsz : (sizeOf elem).run P w = .ok it.size w := by simp [sizeOf, typeInfo, hit]
            have hgt : ¬ (len * it.size > 2 ^ 24) := by
              have : (2 : Nat) ^ 24 = 16777216 := by decide
              omega
            have run1 : ∀ (zs : Array Value), (if len * it.size = 0 then zs = #[] else zs = z.cells) → ∀ cells, Instr.fill (fun i => some (i * it.size, it.size)) ((Array.range (len * it.size)).map (zs[· % zs.size]!)) parts'.toList = some cells →
                (Instr.buildSlice t len parts').run P w = .ok (.slice (some ⟨w.heap.size, 0, none⟩) len len) { w with heap := w.heap.push (.cells cells elem) } := by
              intro zs hzs cells hfill
              unfold Instr.buildSlice
              simp only [Sem.run_bind, run_und hu, Result.andThen_ok, hsz, if_neg hgt, Sem.run_pure]
              by_cases h0 : len * it.size = 0
              · rw [if_pos h0] at hzs
                simp only [if_pos h0, Sem.run_pure, Result.andThen_ok]
                rw [← hzs]
                simp only [Sem.run_bind, Sem.run_pure, Result.andThen_ok, hfill]
                simp [newRow]
              · rw [if_neg h0] at hzs
                simp only [if_neg h0, Sem.run_bind, hzv, Sem.run_pure, Result.andThen_ok]
                rw [← hzs]
                simp only [Sem.run_bind, Sem.run_pure, Result.andThen_ok, hfill]
                simp [newRow]
            have hex : ∃ zs : Array Value, (if len * it.size = 0 then zs = #[] else zs = z.cells) := by
              by_cases h0 : len * it.size = 0
              · exact ⟨#[], by rw [if_pos h0]⟩
              · exact ⟨z.cells, by rw [if_neg h0]⟩
            obtain ⟨zs, hzs⟩ := hex
            split at he
            · rename_i l hm
              injection he with he
              injection he with h1 h2
              subst h1; subst h2
              obtain ⟨cells, g1, ⟨g2, g3⟩, _⟩ := fill_rel (d := []) parts parts'.toList .e t' ((Array.range (len * it.size)).map (zs[· % zs.size]!)) hf hp ⟨by simp, fun i v c hv => by
                have : rget [] .e i = none := rfl
                rw [this] at hv; cases hv⟩
              obtain ⟨m1, m2⟩ := many_spec _ _ _ _ _ hm
              obtain ⟨ρ', s1, s2, s3⟩ := step_row (P := P) (ty := elem) (esz := it.size) (d := []) (t := t') (n := len * it.size) (room := len * it.size) (cs := cells) r g2 (Nat.le_refl _) (fun i hi => by
                have hl : i < l.length := by rw [m1]; exact hi
                have hv := m2 i l[i] (List.getElem?_eq_getElem hl)
                rw [Nat.zero_add] at hv
                have hc : i < cells.size := by rw [g2]; exact hi
                exact ⟨l[i], cells[i], hv, Array.getElem?_eq_getElem hc, g3 i _ _ hv (Array.getElem?_eq_getElem hc)⟩)
              exact ⟨_, _, ρ', run1 zs hzs cells g1, s2, .slice s3 rfl (fun x hx => by injection hx) (Nat.le_refl _) (fun hh => by cases hh)⟩
            · split at he
              · rename_i v hv h1s
                have h1s := Nat.eq_of_beq_eq_true h1s
                injection he with he
                injection he with h1 h2
                subst h1; subst h2
                have hn : len * it.size = len := by rw [h1s, Nat.mul_one]
                have hf : fillV (fun i => some (i * it.size, it.size)) (len * it.size) .e parts = some t' := hf
                rw [hn] at hzs run1 hf
                obtain ⟨cells, g1, ⟨g2, g3⟩, g4⟩ := fill_rel (d := [(len, v)]) parts parts'.toList .e t' ((Array.range len).map (zs[· % zs.size]!)) hf hp ⟨by simp, fun i u c hu hc => by
                  have hi : i < len := by have := (Array.getElem?_eq_some_iff.mp hc).1; simpa using this
                  have hgu : rget [(len, v)] .e i = some v := dget_cons_hit _ _ _ hi
                  rw [hgu] at hu; injection hu with hu; subst hu
                  rw [if_neg (by omega)] at hzs
                  have : zs = #[z] := hzs.trans (constS_cells hv)
                  subst this
                  have : c = z := by simpa [Nat.mod_one, hi] using hc.symm
                  subst this
                  exact constS_rel hv⟩
                obtain ⟨ρ', s1, s2, s3⟩ := step_row (P := P) (ty := elem) (esz := 1) (d := [(len, v)]) (t := t') (n := len) (room := len) (cs := cells) r g2 (Nat.le_refl _) (fun i hi => by
                  obtain ⟨x, hx⟩ := g4 i ⟨v, dget_cons_hit _ _ _ hi⟩
                  have hc : i < cells.size := by rw [g2]; exact hi
                  exact ⟨x, cells[i], hx, Array.getElem?_eq_getElem hc, g3 i _ _ hx (Array.getElem?_eq_getElem hc)⟩)
                exact ⟨_, _, ρ', run1 zs hzs cells g1, s2, .slice s3 rfl (fun x hx => by injection hx) (Nat.le_refl _) (fun hh => by cases hh)⟩
              · cases he
          · cases he
        · cases he
      · cases he
    · cases he
  · cases he
noncomputable def evMakeMap (h : H) : V × H := (.map h.next, h.push (.map []))
theorem evMakeMap_sound (r : Rel ρ h w) {t : TypeId} : Comes1 P ρ h w (Instr.makeMap t none) (evMakeMap h).1 (evMakeMap h).2 := by
  refine ⟨.map (some w.heap.size), _, _, rfl, Step.alloc r (.map []) (.map #[] 0) ⟨w.heap.size, 0, 0, 0, 0, false⟩ rfl ?_, ?_⟩
  case refine_2 => exact VRel.map (e := ⟨w.heap.size, 0, 0, 0, 0, false⟩) (if_pos rfl) rfl
  intro ρ' x _
  exact ⟨rfl, rfl, #[], 0, rfl, ⟨.nil, [], .refl _, rfl, fun i p m hp _ => by simp at hp⟩, ⟨.nil, fun m hm => by simp at hm⟩⟩
/-! ### stores -/
noncomputable def evStore (P : Program) (h : H) (t : TypeId) (a v : V) : Option H :=
  match a, cellsV v, siz P t with
  | .ptr k gen off, some l, some n => match h.t.get k with
    | some (.cells ty g esz ro len d t') => match ro, Nat.beq g gen, Nat.beq l.length n, Nat.ble (off + l.length) len, l.all one with
      | false, true, true, true, true => T.force (setMany t' off l) fun t2 => some (h.put k (.cells ty g esz false len d t2))
      | _, _, _, _, _ => none
    | _ => none
  | _, _, _ => none
theorem evStore_sound (r : Rel ρ h w) {t : TypeId} {a v : V} {ca c : Value} {h' : H} (ha : VRel ρ a ca) (hv : VRel ρ v c) (he : evStore P h t a v = some h') : ∃ w', (Instr.storeAt t ca c).run P w = .ok () w' ∧ Step ρ h w ρ h' w' := by
  unfold evStore at he
  simp only [T.force_eq] at he
  split at he
  · rename_i k gen off l n hl hn
    split at he
    · rename_i ty g esz ro len d t' hk
      split at he
      · rename_i hg hln hle ho
        obtain rfl := Nat.eq_of_beq_eq_true hg
        have hln := Nat.eq_of_beq_eq_true hln
        have hle := Nat.le_of_ble_eq_true hle
        injection he with he; subst he
        obtain ⟨e, hek, rfl⟩ := ptr_now r ha hk
        obtain ⟨g1, g2⟩ := cellsV_rel hv hl
        obtain ⟨w', h1, h2⟩ := step_store (P := P) r hek hk (l := l) (cs := c.cells.toList) hle ho (by simpa using g1) (fun i u x hu hx => g2 i u x hu (by simpa using hx))
        refine ⟨w', ?_, h2⟩
        unfold Instr.storeAt storeVar
        simp only [Instr.sureAddr, Sem.run_bind, Sem.run_pure, Result.andThen_ok, run_siz hn]
        rw [if_neg (by rw [g1, hln]; simp)]
        exact h1
      · cases he
    · cases he
  · cases he
end
end Go.Ev
/- Append, and an entry laid into a map: reckoned by the kernel; and that the machine's operation comes to the same, whatever capacity it draws. No condition but what each theorem says. -/
namespace Go.Ev
set_option linter.unusedVariables false
set_option linter.unusedSimpArgs false
open Go
section
variable {P : Program} {ρ : Env} {h : H} {w : World}
/-! ### append -/
noncomputable def cellsAt (h : H) (size : Nat) : V → Option (Nat × List V)
  | .snil => some (0, [])
  | .semp => some (0, [])
  | .slice k gen off len _ => match h.t.get k with
    | some (.cells _ g _ _ n d t) => match Nat.beq g gen, Nat.ble (Nat.add off (Nat.mul len size)) n with
      | true, true => match many d t off (Nat.mul len size) with
        | some l => some (len, l)
        | none => none
      | _, _ => none
    | _ => none
  | _ => none
/-- The first n elements of a slice, in the world: n of a slice that is read now. -/
theorem cellsAt_sound (r : Rel ρ h w) {size n : Nat} {v : V} {c : Value} {l : List V} (hv : VRel ρ v c) (he : cellsAt h size v = some (n, l)) :
    (Builtin.lenOf c).run P w = .ok n w ∧ l.length = n * size ∧ ∃ cs : List Value, (Builtin.firstCells size n c).run P w = .ok cs.toArray w ∧ LRel ρ l cs := by
  unfold cellsAt at he
  split at he
  · injection he with he
    injection he with h1 h2
    subst h1; subst h2
    cases hv
    exact ⟨rfl, by simp, [], rfl, trivial⟩
  · injection he with he
    injection he with h1 h2
    subst h1; subst h2
    cases hv
    refine ⟨rfl, by simp, [], ?_, trivial⟩
    show (loadCells _ (0 * size)).run P w = _
    rw [Nat.zero_mul]; rfl
  · rename_i k gen off len cap
    split at he
    · rename_i ty g esz ro m d t hk
      split at he
      · rename_i hg hle
        obtain rfl := Nat.eq_of_beq_eq_true hg
        have hle : off + len * size ≤ m := Nat.le_of_ble_eq_true hle
        split at he
        · rename_i l' hl
          injection he with he
          injection he with h1 h2
          subst h1; subst h2
          obtain ⟨e, cc, hek, rfl, _, _, _⟩ := slice_now r hv hk
          obtain ⟨cs, h1, h2, h3⟩ := run_many (P := P) r hek hk hle hl
          exact ⟨rfl, (many_spec _ _ _ _ _ hl).1, cs, h1, LRel.of h2 h3⟩
        · cases he
      · cases he
    · cases he
  · cases he
noncomputable def evAppend (P : Program) (h : H) (ts : List TypeId) (s x : V) : Option (V × H) :=
  match ts with
  | [st, xt] => match Nat.beq st xt, P.underlying st with
    | true, some (.slice elem) => match P.info? elem with
      | some it => match it.zero with
        | some z => match cellsAt h it.size x, cellsAt h it.size s, Nat.beq z.cells.size it.size with
          | some (n, l), some (sl, old), true => match l.all one, Nat.ble (Nat.mul (sl + n) it.bytes) 140737488355328, Nat.ble (sl + n) 9223372036854775807 with
            | true, true, true => match s with
              | .snil => match n with
                | 0 => some (.snil, h)
                | n + 1 => T.force (setMany .e 0 l) fun t2 => some (.slice h.next 0 0 (n + 1) none, h.push (.cells elem 0 it.size false (Nat.mul (n + 1) it.size) [] t2))
              | .slice k gen off len (some c) => match Nat.ble (len + n) c with
                | true => match h.t.get k with
                  | some (.cells ty g esz ro m d t) => match ro, Nat.ble (Nat.add off (Nat.mul (len + n) it.size)) m with
                    | false, true => T.force (setMany t (Nat.add off (Nat.mul len it.size)) l) fun t2 => some (.slice k gen off (len + n) (some c), h.put k (.cells ty g esz false m d t2))
                    | _, _ => none
                  | _ => none
                | false => T.force (setMany .e 0 (old ++ l)) fun t2 => some (.slice h.next 0 0 (len + n) none, h.push (.cells elem 0 it.size false (Nat.mul (len + n) it.size) [] t2))
              | .slice k gen off len none => match off, h.t.get k with
                | 0, some (.cells ty g esz ro _ d t) => match ro, Nat.beq esz it.size, Nat.beq ty elem with
                  | false, true, true => T.force (setMany t (Nat.mul len it.size) l) fun t2 => some (.slice k (gen + 1) 0 (len + n) none, h.put k (.cells ty (gen + 1) esz false (Nat.mul (len + n) it.size) d t2))
                  | _, _, _ => none
                | _, _ => none
              | _ => none
            | _, _, _ => none
          | _, _, _ => none
        | none => none
      | none => none
    | _, _ => none
  | _ => none
theorem run_place (w : World) {ty st elem : TypeId} {it : TypeInfo} {base : Option Addr} {sl n cap : Nat} {xc : Value} {new : List Value}
    (hu : P.underlying st = some (.slice elem)) (hit : P.info? elem = some it)
    (hlen : (Builtin.lenOf xc).run P w = .ok n w) (hnew : (Builtin.firstCells it.size n xc).run P w = .ok new.toArray w) (hc : sl + n ≤ cap) :
    (Builtin.append_ #[st, st] ty #[.slice base sl cap, xc]).run P w = (((match base with | some a => storeCells (a.add (sl * it.size)) new | none => pure ()) : Sem Unit).run P w).andThen fun _ w' => .ok (.slice base (sl + n) cap) w' := by
  cases base with
  | none => simp [Builtin.append_, run_und hu, sizeOf, typeInfo, hit, hlen, hnew, hc]
  | some a => simp [Builtin.append_, run_und hu, sizeOf, typeInfo, hit, hlen, hnew, hc]
theorem run_grow (w : World) {ty st elem : TypeId} {it : TypeInfo} {z : Value} {base : Option Addr} {sl n cap : Nat} {xc : Value} {old new : List Value}
    (hu : P.underlying st = some (.slice elem)) (hit : P.info? elem = some it) (hz : it.zero = some z)
    (hlen : (Builtin.lenOf xc).run P w = .ok n w) (hnew : (Builtin.firstCells it.size n xc).run P w.drew = .ok new.toArray w.drew) (hold : (Builtin.firstCells it.size sl (.slice base sl cap)).run P w.drew = .ok old.toArray w.drew)
    (hb : (sl + n) * it.bytes ≤ 140737488355328) (hs : sl + n ≤ 9223372036854775807) (hc : cap < sl + n) :
    ∃ c, sl + n ≤ c ∧ (Builtin.append_ #[st, st] ty #[.slice base sl cap, xc]).run P w = .ok (.slice (some ⟨w.heap.size, 0, none⟩) (sl + n) c) (w.drew.alloc (.cells (old.toArray ++ new.toArray ++ Builtin.zeroCells z.cells (c - (sl + n))) elem)) := by
  have hn : ¬ (sl + n ≤ cap) := by omega
  have h63' : ¬ (9223372036854775807 < ((sl : Int) + (n : Int))) := by omega
  have h48' : ¬ (281474976710656 < Builtin.nextslicecap (sl + n) cap * it.bytes) := by
    have := growslice_fits hc hb
    omega
  refine ⟨grownCap w (sl + n) cap elem, by unfold grownCap Question.cut; simp only; omega, ?_⟩
  simp [Builtin.append_, run_und hu, sizeOf, typeInfo, zeroValue, hit, hz, hlen, hn, h63', h48', Question.forced, hnew, hold, newRow, grownCap]
  congr 2
  apply Array.ext'
  simp [List.append_assoc]
theorem zeroCells_size (z : Array Value) (n : Nat) : (Builtin.zeroCells z n).size = n * z.size := by simp [Builtin.zeroCells]
theorem rget_app {l : List V} (i : Nat) : rget [] (setMany .e 0 l) i = l[i]? := by
  rw [rget_setMany]
  by_cases hi : 0 ≤ i ∧ i < 0 + l.length
  · rw [if_pos hi]; rfl
  · rw [if_neg hi, List.getElem?_eq_none (by omega)]; rfl
theorem LRel.app {a b : List V} {c d : List Value} (h1 : LRel ρ a c) (h2 : LRel ρ b d) : LRel ρ (a ++ b) (c ++ d) := by
  induction a generalizing c with
  | nil => cases c with | nil => exact h2 | cons _ _ => exact h1.elim
  | cons v a ih => cases c with | nil => exact h1.elim | cons x c => exact ⟨h1.1, ih h1.2⟩
set_option maxHeartbeats 1000000 in
theorem evAppend_sound (r : Rel ρ h w) {ts : Array TypeId} {rt : TypeId} {s x u : V} {cs cx : Value} {h' : H} (hs : VRel ρ s cs) (hx : VRel ρ x cx) (he : evAppend P h ts.toList s x = some (u, h')) : Comes1 P ρ h w (Builtin.append_ ts rt #[cs, cx]) u h' := by
  unfold evAppend at he
  simp only [T.force_eq] at he
  split at he
  · rename_i st xt hts
    obtain rfl : ts = #[st, xt] := by cases ts; simp at hts; subst hts; rfl
    split at he
    · rename_i elem heq hu
      obtain rfl := Nat.eq_of_beq_eq_true heq
      split at he
      · rename_i it hit
        split at he
        · rename_i z hz
          split at he
          · rename_i n l sl old hxl hsl hzs
            have hzs := Nat.eq_of_beq_eq_true hzs
            obtain ⟨q1, q2, nw, q3, q4⟩ := cellsAt_sound (P := P) r hx hxl
            obtain ⟨_, _, nw', q3', q4'⟩ := cellsAt_sound (P := P) (r.drew (w' := w.drew) rfl) hx hxl
            obtain ⟨_, p2, ol, p3, p4⟩ := cellsAt_sound (P := P) (r.drew (w' := w.drew) rfl) hs hsl
            split at he
            · rename_i a1 a2 a3
              have a2 : (sl + n) * it.bytes ≤ 140737488355328 := Nat.le_of_ble_eq_true a2
              have a3 := Nat.le_of_ble_eq_true a3
              have hlo : ol.length = sl * it.size := p4.length.trans p2
              have hln : nw'.length = n * it.size := q4'.length.trans q2
              -- the cells that the machine lays behind what it copies
              have row : ∀ (c : Nat), sl + n ≤ c → (ol.toArray ++ nw'.toArray ++ Builtin.zeroCells z.cells (c - (sl + n))).size = c * it.size ∧
                  ∀ i, i < (sl + n) * it.size → ∃ u x, (old ++ l)[i]? = some u ∧ (ol.toArray ++ nw'.toArray ++ Builtin.zeroCells z.cells (c - (sl + n)))[i]? = some x ∧ VRel ρ u x := by
                intro c hc
                constructor
                · simp only [Array.size_append, List.size_toArray, zeroCells_size, hzs, hlo, hln]
                  rw [← Nat.add_mul, ← Nat.add_mul]; congr 1; omega
                · intro i hi
                  have hi1 : i < (old ++ l).length := by rw [List.length_append, p2, q2, ← Nat.add_mul]; exact hi
                  have hi2 : i < (ol ++ nw').length := by rw [List.length_append, hlo, hln, ← Nat.add_mul]; exact hi
                  refine ⟨_, (ol ++ nw')[i], List.getElem?_eq_getElem hi1, ?_, (p4.app q4').get i _ _ (List.getElem?_eq_getElem hi1) (List.getElem?_eq_getElem hi2)⟩
                  rw [Array.getElem?_append_left (by simpa using hi2)]
                  simp [List.getElem?_eq_getElem hi2]
              -- a new block, whose capacity the machine draws
              have fresh : ∀ {base : Option Addr} {cap : Nat}, cs = .slice base sl cap → cap < sl + n → ∃ (q : Value) (w' : World) (ρ' : Env), (Builtin.append_ #[st, st] rt #[cs, cx]).run P w = .ok q w' ∧ Step ρ h w ρ' (h.push (.cells elem 0 it.size false ((sl + n) * it.size) [] (setMany .e 0 (old ++ l)))) w' ∧ VRel ρ' (.slice h.next 0 0 (sl + n) none) q := by
                intro base cap hcs hc
                subst hcs
                obtain ⟨c, c1, c2⟩ := run_grow (P := P) (ty := rt) w hu hit hz q1 q3' p3 a2 a3 hc
                obtain ⟨r1, r2⟩ := row c c1
                obtain ⟨ρ', s1, s2, s3⟩ := step_row (P := P) (ty := elem) (esz := it.size) (d := []) (t := setMany .e 0 (old ++ l)) (n := (sl + n) * it.size) (r.drew (w' := w.drew) rfl) r1 (Nat.mul_le_mul_right _ c1) (fun i hi => by
                  obtain ⟨u, x, h1, h2, h3⟩ := r2 i hi
                  exact ⟨u, x, by rw [rget_app]; exact h1, h2, h3⟩)
                refine ⟨_, _, ρ', c2, (Step.drew (w' := w.drew) r rfl rfl rfl rfl).trans s2, ?_⟩
                exact .slice (c := c) s3 rfl (fun x hx => by cases hx) c1 (fun _ => by show 0 + c * it.size ≤ c * it.size; omega)
              split at he
              · cases hs
                injection hsl with hsl
                injection hsl with h1 h2
                subst h1; subst h2
                split at he
                · injection he with he
                  injection he with h1 h2
                  subst h1; subst h2
                  refine ⟨.slice none 0 0, w, ρ, ?_, Step.refl r, .snil⟩
                  rw [run_place (P := P) (ty := rt) w hu hit q1 q3 (Nat.le_refl _)]
                  rfl
                · rename_i n
                  injection he with he
                  injection he with h1 h2
                  subst h1; subst h2
                  have := fresh rfl (by omega)
                  rw [Nat.zero_add, List.nil_append] at this
                  exact this
              · rename_i k gen off len c
                obtain ⟨ty0, g0, esz0, ro0, m0, d0, t0, hk0⟩ : ∃ ty g esz ro m d t, h.t.get k = some (.cells ty g esz ro m d t) ∧ g = gen ∧ len = sl := by
                  unfold cellsAt at hsl
                  split at hsl
                  · rename_i heq; cases heq
                  · rename_i heq; cases heq
                  · rename_i heq; injection heq with e1 e2 e3 e4 e5; subst e1; subst e2; subst e3; subst e4
                    split at hsl
                    · rename_i hk
                      split at hsl
                      · rename_i hg _
                        split at hsl
                        · injection hsl with hsl; injection hsl with h1 h2
                          exact ⟨_, _, _, _, _, _, _, hk, Nat.eq_of_beq_eq_true hg, h1⟩
                        · cases hsl
                      · cases hsl
                    · cases hsl
                  · rename_i hne; exact absurd rfl (hne _ _ _ _ _)
                obtain ⟨hk0, rfl, rfl⟩ := hk0
                obtain ⟨e, cc, hek, rfl, hcap, hle, _⟩ := slice_now r hs hk0
                obtain rfl := hcap _ rfl
                split at he
                · rename_i hfit
                  have hfit := Nat.le_of_ble_eq_true hfit
                  split at he
                  · rename_i ty g esz ro m d t hk
                    rw [hk] at hk0
                    injection hk0 with hk0
                    injection hk0 with e1 e2 e3 e4 e5 e6 e7
                    subst e1; subst e2; subst e3; subst e4; subst e5; subst e6; subst e7
                    split at he
                    · rename_i hm
                      have hm : off + (len + n) * it.size ≤ m := Nat.le_of_ble_eq_true hm
                      injection he with he
                      injection he with h1 h2
                      subst h1; subst h2
                      obtain ⟨w', s1, s2⟩ := step_store (P := P) r hek hk (off := off + len * it.size) (l := l) (cs := nw) (by rw [q2, Nat.add_assoc, ← Nat.add_mul]; exact hm) a1 q4.length q4.get
                      refine ⟨.slice (some ⟨e.b, e.at_ + off, none⟩) (len + n) cc, w', ρ, ?_, s2, ?_⟩
                      · rw [run_place (P := P) (ty := rt) w hu hit q1 q3 hfit]
                        simp only [addr_add, Nat.add_assoc]
                        rw [s1]
                        rfl
                      · exact .slice hek (r.cells hek hk).1 (fun x hx => by injection hx) hfit (fun hh => by cases hh)
                    · cases he
                  · cases he
                · rename_i hfit
                  have hfit : cc < len + n := by
                    rcases Nat.lt_or_ge cc (len + n) with h0 | h0
                    · exact h0
                    · rw [Nat.ble_eq_true_of_le h0] at hfit; cases hfit
                  injection he with he
                  injection he with h1 h2
                  subst h1; subst h2
                  exact fresh rfl hfit
              · rename_i k gen off len
                split at he
                · rename_i ty g esz ro m d t hk
                  split at he
                  · rename_i hesz hty
                    obtain rfl := Nat.eq_of_beq_eq_true hesz
                    obtain rfl := Nat.eq_of_beq_eq_true hty
                    obtain ⟨rfl, rfl, hlm⟩ : g = gen ∧ len = sl ∧ len * it.size ≤ m := by
                      unfold cellsAt at hsl
                      split at hsl
                      · rename_i heq; cases heq
                      · rename_i heq; cases heq
                      · rename_i heq; injection heq with e1 e2 e3 e4 e5; subst e1; subst e2; subst e3; subst e4
                        rw [hk] at hsl
                        simp only at hsl
                        split at hsl
                        · rename_i hg hle
                          split at hsl
                          · injection hsl with hsl; injection hsl with h1 h2
                            have hle := Nat.le_of_ble_eq_true hle
                            have hle : 0 + _ * it.size ≤ m := hle
                            exact ⟨Nat.eq_of_beq_eq_true hg, h1, by omega⟩
                          · cases hsl
                        · cases hsl
                      · rename_i hne; exact absurd rfl (hne _ _ _ _ _)
                    injection he with he
                    injection he with h1 h2
                    subst h1; subst h2
                    obtain ⟨e, cc, hek, rfl, _, hle, hroom⟩ := slice_now r hs hk
                    have hroom := hroom rfl
                    obtain ⟨c1, c2, c3, xs, fz, c4, c5, c6, c7, c8⟩ := r.cells hek hk
                    rw [c2] at hroom
                    by_cases hfit : len + n ≤ cc
                    · -- the capacity holds them: they are laid where the block stands
                      have hsum : (len + n) * it.size = len * it.size + n * it.size := Nat.add_mul ..
                      have hmul : (len + n) * it.size ≤ cc * it.size := Nat.mul_le_mul_right _ hfit
                      obtain ⟨w', xs', s1, s2, s3, s4, s5, s6, s7, s8, s9⟩ := run_storeCells (P := P) nw w e.b (e.at_ + 0 + len * it.size) 0 xs ty fz c4 (by rw [q4.length, q2]; omega) c7 (one_all a1 q4.length q4.get)
                      refine ⟨.slice (some ⟨e.b, e.at_ + 0, none⟩) (len + n) cc, w', _, ?_, Step.turn r hek c3 (.cells ty (g + 1) it.size false ((len + n) * it.size) d (setMany t (len * it.size) l)) (.cells xs' ty fz) ⟨e.b, e.at_, g + 1, e.room, it.size, false⟩ (.inr (by show e.gen < g + 1; omega)) rfl (.inl rfl) s2 ?_ s7 s8 s9 (Nat.le_of_eq s6.symm) (fun b _ hne => s5 b hne), ?_⟩
                      · rw [run_place (P := P) (ty := rt) w hu hit q1 q3 hfit]
                        simp only [addr_add]
                        rw [s1]
                        rfl
                      · intro ρ' x _
                        refine ⟨rfl, rfl, rfl, xs', fz, rfl, s3.trans c5, ?_, by rw [s3]; exact c7, fun i hi => ?_⟩
                        · show (len + n) * it.size ≤ e.room
                          omega
                        · rw [rget_setMany, s4]
                          by_cases ci : len * it.size ≤ i ∧ i < len * it.size + l.length
                          · rw [if_pos ci]
                            have hlt : i - len * it.size < l.length := by omega
                            have hlt' : i - len * it.size < nw.length := by rw [q4.length]; exact hlt
                            refine ⟨l[i - len * it.size], nw[i - len * it.size], List.getElem?_eq_getElem hlt, ?_, (q4.get _ _ _ (List.getElem?_eq_getElem hlt) (List.getElem?_eq_getElem hlt')).ext x⟩
                            show (if e.at_ + 0 + len * it.size + 0 ≤ e.at_ + i ∧ e.at_ + i < e.at_ + 0 + len * it.size + 0 + nw.length then nw[e.at_ + i - (e.at_ + 0 + len * it.size + 0)]? else xs[e.at_ + i]?) = _
                            rw [if_pos (by rw [q4.length]; omega), show e.at_ + i - (e.at_ + 0 + len * it.size + 0) = i - len * it.size by omega]
                            exact List.getElem?_eq_getElem hlt'
                          · rw [if_neg ci]
                            have him : i < len * it.size := by rw [q2] at ci; omega
                            obtain ⟨v, y, d1, d2, d3⟩ := c8 i (by omega)
                            refine ⟨v, y, d1, ?_, d3.ext x⟩
                            show (if e.at_ + 0 + len * it.size + 0 ≤ e.at_ + i ∧ e.at_ + i < e.at_ + 0 + len * it.size + 0 + nw.length then nw[e.at_ + i - (e.at_ + 0 + len * it.size + 0)]? else xs[e.at_ + i]?) = _
                            rw [if_neg (by omega)]
                            exact d2
                      · exact VRel.slice (e := ⟨e.b, e.at_, g + 1, e.room, it.size, false⟩) (if_pos rfl) rfl (fun x hx => by cases hx) hfit (fun _ => by show 0 + cc * it.size ≤ e.room; omega)
                    · -- it doesn't: the block stands elsewhere from now on
                      obtain ⟨c, g1, g2⟩ := run_grow (P := P) (ty := rt) w hu hit hz q1 q3' p3 a2 a3 (by omega)
                      obtain ⟨r1, r2⟩ := row c g1
                      have hst := Step.turn (w' := w.drew.alloc (.cells (ol.toArray ++ nw'.toArray ++ Builtin.zeroCells z.cells (c - (len + n))) ty)) r hek c3 (.cells ty (g + 1) it.size false ((len + n) * it.size) d (setMany t (len * it.size) l)) (.cells (ol.toArray ++ nw'.toArray ++ Builtin.zeroCells z.cells (c - (len + n))) ty) ⟨w.heap.size, 0, g + 1, c * it.size, it.size, false⟩ (.inr (by show e.gen < g + 1; omega)) rfl (.inr (Nat.le_refl _)) (by show (w.heap.push _)[w.heap.size]? = _; simp) ?_ rfl rfl rfl (by show w.heap.size ≤ (w.heap.push _).size; simp) (fun b hb _ => by show (w.heap.push _)[b]? = _; rw [Array.getElem?_push, if_neg (by omega)])
                      · refine ⟨_, _, _, g2, hst, ?_⟩
                        exact VRel.slice (e := ⟨w.heap.size, 0, g + 1, c * it.size, it.size, false⟩) (if_pos rfl) rfl (fun x hx => by cases hx) g1 (fun _ => by show 0 + c * it.size ≤ c * it.size; omega)
                      · intro ρ' x _
                        refine ⟨rfl, rfl, rfl, _, (0, 0), rfl, by rw [r1]; show _ = 0 + c * it.size; omega, Nat.mul_le_mul_right _ g1, fun i hi hf => absurd hf.2 (Nat.not_lt_zero _), fun i hi => ?_⟩
                        obtain ⟨u, y, h1, h2, h3⟩ := r2 i hi
                        refine ⟨u, y, ?_, by rw [Nat.zero_add]; exact h2, h3.ext x⟩
                        rw [rget_setMany]
                        have hold : ∀ j, j < len * it.size → old[j]? = rget d t j := by
                          intro j hj
                          simp only [cellsAt, hk] at hsl
                          split at hsl
                          · split at hsl
                            · rename_i l0 hl0
                              injection hsl with hsl; injection hsl with _ h2'
                              subst h2'
                              have hjl : j < l0.length := by rw [p2]; exact hj
                              rw [List.getElem?_eq_getElem hjl]
                              have := (many_spec _ _ _ _ _ hl0).2 j _ (List.getElem?_eq_getElem hjl)
                              rw [Nat.zero_add] at this
                              exact this.symm
                            · cases hsl
                          · cases hsl
                        by_cases ci : len * it.size ≤ i ∧ i < len * it.size + l.length
                        · rw [if_pos ci]
                          rw [List.getElem?_append_right (by omega), p2] at h1
                          exact h1
                        · rw [if_neg ci]
                          have hsum : (len + n) * it.size = len * it.size + n * it.size := Nat.add_mul ..
                          have him : i < len * it.size := by rw [q2] at ci; omega
                          rw [List.getElem?_append_left (by omega)] at h1
                          rw [← hold i him]
                          exact h1
                  · cases he
                · cases he
              · cases he
            · cases he
          · cases he
        · cases he
      · cases he
    · cases he
  · cases he
end
end Go.Ev
/- An entry laid into a map, and any operation that makes or changes memory, by its kind: reckoned by the kernel; and that the machine's operation comes to the same. No condition but what each theorem says. -/
namespace Go.Ev
set_option linter.unusedVariables false
set_option linter.unusedSimpArgs false
open Go
section
variable {P : Program} {ρ : Env} {h : H} {w : World}
def setKey (key v : V) (p : V × V) : V × V := match eqKey key p.1 with | some true => (key, v) | _ => p
theorem setKey_fst (key v : V) (p : V × V) : (setKey key v p).1 = p.1 := by
  unfold setKey
  split
  · rename_i hk; exact eqKey_eq hk
  · rfl
noncomputable def evMapUpdate (P : Program) (h : H) (t : TypeId) (m key v : V) : Option H :=
  match P.underlying t, m with
  | some (.map kt _), .map k => match keyOk P kt key, h.t.get k with
    | true, some (.map es) => match allKeys key es with
      | true => match evFind key es with
        | some _ => some (h.put k (.map (es.map (setKey key v))))
        | none => some (h.put k (.map ((key, v) :: es)))
      | false => none
    | _, _ => none
  | _, _ => none
theorem sameBits_self {t : TypeId} {key : V} {a b : Value} (h1 : VRel ρ key a) (h2 : VRel ρ key b) (ho : keyOk P t key = true) : a = b ∧ Instr.sameBits 10000 a b = true := by
  unfold keyOk at ho
  split at ho
  · cases h1; cases h2
    exact ⟨rfl, by simp [Instr.sameBits]⟩
  · cases h1; cases h2
    rename_i s
    refine ⟨rfl, ?_⟩
    obtain ⟨⟨s⟩⟩ := s
    show ((⟨s⟩ : Array UInt8) == ⟨s⟩) = true
    exact beq_self_eq_true _
  · cases ho
theorem run_setMap (w : World) {b : Nat} {es : Array MapEntry} {clock : Nat} (hb : w.heap[b]? = some (.map es clock)) (o : Obj) : (setObj b o).run P w = .ok () { w with heap := w.heap.setIfInBounds b o } := by
  simp [setObj, Sem.run, hb]
theorem evMapUpdate_sound (r : Rel ρ h w) {t : TypeId} {m key v : V} {cm ck cv : Value} {h' : H} (hm : VRel ρ m cm) (hk : VRel ρ key ck) (hv : VRel ρ v cv) (he : evMapUpdate P h t m key v = some h') : ∃ w', (Instr.mapUpdate t cm ck cv).run P w = .ok () w' ∧ Step ρ h w ρ h' w' := by
  unfold evMapUpdate at he
  split at he
  · rename_i kt et k hu
    split at he
    · rename_i es ho hget
      split at he
      · rename_i ha
        obtain ⟨e, es', clock, hek, hg0, hro, rfl, hb, ⟨hky, l, hp, hl, hr⟩, hok⟩ := map_now r hm hget
        have hun : ∃ dd, P.underlying kt = some dd := by
          cases hq : P.underlying kt with
          | some dd => exact ⟨dd, rfl⟩
          | none => unfold keyOk at ho; rw [hq] at ho; split at ho <;> simp at ho
        obtain ⟨dd, hdd⟩ := hun
        have hall : ∀ p, p ∈ l → ∃ b, eqKey key p.1 = some b := fun p hpm => allKeys_mem ha (hp.mem_iff.mp hpm)
        have hsp := findNow_spec hdd ho hk l es'.toList 0 hl hr hall
        have hlt : e.b < w.heap.size := r.b_lt hek
        have turn : ∀ (es2 : List (V × V)) (en : Array MapEntry) (cl : Nat), MRel ρ es2 en.toList → MapOk en.toList cl → Step ρ h w ρ (h.put k (.map es2)) { w with heap := w.heap.setIfInBounds e.b (.map en cl) } := by
          intro es2 en cl hmr hmo
          have hst := Step.turn (w' := { w with heap := w.heap.setIfInBounds e.b (.map en cl) }) r hek hro (.map es2) (.map en cl) e (.inl rfl) hro (.inl rfl) (by show (w.heap.setIfInBounds e.b _)[e.b]? = _; simp [hlt]) ?_ rfl rfl rfl (by show w.heap.size ≤ (w.heap.setIfInBounds _ _).size; simp) (fun b _ hne => by show (w.heap.setIfInBounds _ _)[b]? = _; rw [Array.getElem?_setIfInBounds, if_neg (Ne.symm hne)])
          · rw [env_same hek] at hst; exact hst
          · intro ρ' x _
            obtain ⟨m0, l2, m1, m2, m3⟩ := hmr
            exact ⟨hg0, hro, en, cl, rfl, ⟨m0, l2, m1, m2, fun i p q h1 h2 => ⟨(m3 i p q h1 h2).1.ext x, (m3 i p q h1 h2).2.ext x⟩⟩, hmo⟩
        have run1 : (Instr.mapUpdate t (.map (some e.b)) ck cv).run P w = ((match Instr.findNow dd ck es'.toList 0 with
            | some r => pure r
            | none => Instr.findAsking kt ck es'.toList : Sem (Option (Nat × Value))).run P w).andThen fun o w' => ((match o with
              | some (i, _) => do
                let key ← Instr.keyThatStays (((es'[i]?).map (·.key)).getD ck) ck
                setObj e.b (.map (es'.modify i fun e => { e with key, val := cv }) clock)
              | none => setObj e.b (.map (es'.push { key := ck, val := cv, born := clock }) (clock + 1)) : Sem Unit)).run P w' := by
          unfold Instr.mapUpdate
          simp only [Sem.run_bind, run_und hu, Result.andThen_ok, run_getMap w hb, run_checkKey w hdd ho hk, Instr.findKey, run_und hdd]
          rfl
        split at he
        · rename_i v0 hf
          injection he with he; subst he
          obtain ⟨k0, hm0, hk0⟩ := evFind_some hf
          rcases hsp with ⟨_, hno⟩ | ⟨j, p, m, h1, h2, h3, h4⟩
          · have := hno _ (hp.mem_iff.mpr hm0)
            rw [hk0] at this; cases this
          · rw [Nat.zero_add] at h1
            have hjp : p.1 = key := (eqKey_eq h4).symm
            have hkm := (hr j p m h2 h3).1
            rw [hjp] at hkm
            obtain ⟨rfl, hsb⟩ := sameBits_self (P := P) hkm hk ho
            have h3' : es'[j]? = some m := by rw [← h3, Array.getElem?_toList]
            refine ⟨_, ?_, turn (es.map (setKey key v)) (es'.modify j fun e => { e with key := m.key, val := cv }) clock ?_ ?_⟩
            · rw [run1, h1]
              simp only [Sem.run_pure, Result.andThen_ok, Sem.run_bind, h3', Option.map_some, Option.getD_some, Instr.keyThatStays, hsb, if_true]
              exact run_setMap w hb _
            · refine ⟨?_, l.map (setKey key v), hp.map _, by simpa using hl, ?_⟩
              · rw [List.pairwise_map]
                exact hky.imp fun {a b} hab => by rw [setKey_fst, setKey_fst]; exact hab
              · intro i q m' hq hm'
                rw [List.getElem?_map] at hq
                rw [Array.getElem?_toList, Array.getElem?_modify] at hm'
                cases hli : l[i]? with
                | none => rw [hli] at hq; cases hq
                | some q0 =>
                  rw [hli] at hq
                  have hq : setKey key v q0 = q := by simpa using hq
                  by_cases hij : j = i
                  · subst hij
                    rw [if_pos rfl, h3'] at hm'
                    injection hm' with hm'; subst hm'
                    rw [h2] at hli; injection hli with hli; subst hli
                    have : setKey key v p = (key, v) := by unfold setKey; rw [h4]
                    rw [this] at hq; subst hq
                    exact ⟨hk, hv⟩
                  · rw [if_neg hij] at hm'
                    have hne : eqKey key q0.1 ≠ some true := by
                      intro hc
                      have e1 := keys_inj hky (hp.mem_iff.mp (List.mem_of_getElem? hli)) (hp.mem_iff.mp (List.mem_of_getElem? h2)) ((eqKey_eq hc).symm.trans hjp.symm)
                      have hpl : l.Pairwise (fun p q => p.1 ≠ q.1) := hp.symm.pairwise hky (fun {a b} hab => Ne.symm hab)
                      have hi1 := (List.getElem?_eq_some_iff.mp hli)
                      have hj1 := (List.getElem?_eq_some_iff.mp h2)
                      obtain ⟨hi1, hi2⟩ := hi1
                      obtain ⟨hj1, hj2⟩ := hj1
                      rcases Nat.lt_or_gt_of_ne hij with hlt | hlt
                      · exact List.pairwise_iff_getElem.mp hpl j i hj1 hi1 hlt (by rw [hi2, hj2, e1])
                      · exact List.pairwise_iff_getElem.mp hpl i j hi1 hj1 hlt (by rw [hi2, hj2, e1])
                    have : setKey key v q0 = q0 := by
                      unfold setKey
                      split
                      · rename_i hc; exact absurd hc hne
                      · rfl
                    rw [this] at hq; subst hq
                    exact hr i q0 m' hli (by rw [Array.getElem?_toList]; exact hm')
            · have hmap : (es'.modify j fun e => { e with key := m.key, val := cv }).toList.map (·.born) = es'.toList.map (·.born) := by
                apply List.ext_getElem?
                intro i
                rw [List.getElem?_map, List.getElem?_map, Array.getElem?_toList, Array.getElem?_toList, Array.getElem?_modify]
                split <;> cases es'[i]? <;> rfl
              refine ⟨by rw [hmap]; exact hok.1, fun q hq => ?_⟩
              have : q.born ∈ (es'.toList.map (·.born)) := by rw [← hmap]; exact List.mem_map.mpr ⟨q, hq, rfl⟩
              obtain ⟨q', hq', hb'⟩ := List.mem_map.mp this
              rw [← hb']; exact hok.2 q' hq'
        · rename_i hf
          injection he with he; subst he
          have hnone : Instr.findNow dd ck es'.toList 0 = some none := by
            rcases hsp with ⟨h1, _⟩ | ⟨j, p, m, h1, h2, h3, h4⟩
            · exact h1
            · exact absurd h4 (evFind_none hf (hp.mem_iff.mp (List.mem_of_getElem? h2)))
          refine ⟨_, ?_, turn ((key, v) :: es) (es'.push { key := ck, val := cv, born := clock }) (clock + 1) ?_ ?_⟩
          · rw [run1, hnone]
            simp only [Sem.run_pure, Result.andThen_ok]
            exact run_setMap w hb _
          · refine ⟨List.Pairwise.cons (fun q hq e1 => ?_) hky, l ++ [(key, v)], ?_, by simp [hl], ?_⟩
            · have e1 : key = q.1 := e1
              obtain ⟨b, hb'⟩ := allKeys_mem ha hq
              have : eqKey key q.1 = some true := by
                rw [← e1]
                unfold keyOk at ho
                split at ho
                · have kr : ∀ k : IntKind, kindB k k = true := fun k => by cases k <;> rfl
                  simp [eqKey, kr, eqI_eq]
                · simp [eqKey, eqS, eqL_eq]
                · cases ho
              exact evFind_none hf hq this
            · exact (List.perm_append_comm).trans ((List.Perm.refl [(key, v)]).append hp)
            · intro i q m' hq hm'
              rw [Array.toList_push] at hm'
              by_cases hi : i < l.length
              · rw [List.getElem?_append_left hi] at hq
                rw [List.getElem?_append_left (by rw [← hl]; exact hi)] at hm'
                exact hr i q m' hq hm'
              · have hi2 : i = l.length := by
                  have := (List.getElem?_eq_some_iff.mp hq).1
                  simp at this; omega
                subst hi2
                rw [List.getElem?_append_right (Nat.le_refl _), Nat.sub_self] at hq
                rw [List.getElem?_append_right (by rw [hl]; exact Nat.le_refl _), hl, Nat.sub_self] at hm'
                injection hq with hq; injection hm' with hm'; subst hq; subst hm'
                exact ⟨hk, hv⟩
          · refine ⟨?_, fun q hq => ?_⟩
            · rw [Array.toList_push, List.map_append, List.nodup_append]
              refine ⟨hok.1, by simp, fun a ha b hb' => ?_⟩
              simp at hb'; subst hb'
              obtain ⟨q, hq, rfl⟩ := List.mem_map.mp ha
              exact Nat.ne_of_lt (hok.2 q hq)
            · rw [Array.toList_push] at hq
              rcases List.mem_append.mp hq with hq | hq
              · exact Nat.lt_succ_of_lt (hok.2 q hq)
              · simp at hq; subst hq; exact Nat.lt_succ_self _
      · cases he
    · cases he
  · cases he
end
end Go.Ev
/- Any operation but a call: reckoned by the kernel; and that the machine's operation comes to the same. No condition but what each theorem says. -/
namespace Go.Ev
set_option linter.unusedVariables false
set_option linter.unusedSimpArgs false
open Go
section
variable {P : Program} {ρ : Env} {h : H} {w : World}
noncomputable def eBox (ev : Operand → Option V) (h : H) (t : TypeId) (x : Operand) : Option (V × H) := match ev x with | some v => evNew h t v | none => none
noncomputable def eBuildSlice (P : Program) (ev : Operand → Option V) (h : H) (t : TypeId) (n : Nat) (parts : Array (Nat × Operand)) : Option (V × H) := match evP ev parts.toList with | some l => evBuildSlice P h t n l | none => none
noncomputable def eMakeMap (h : H) (r : Option Operand) : Option (V × H) := match r with | none => some (evMakeMap h) | some _ => none
noncomputable def eMakeSlice (P : Program) (ev : Operand → Option V) (h : H) (t : TypeId) (l c : Operand) : Option (V × H) :=
  match ev l with
  | some a => match ev c with | some b => evMakeSlice P h t a b | none => none
  | none => none
noncomputable def eStore (P : Program) (ev : Operand → Option V) (h : H) (t : TypeId) (a x : Operand) : Option (V × H) :=
  match ev a with
  | some p => match ev x with
    | some v => match evStore P h t p v with | some h' => some (.tup [], h') | none => none
    | none => none
  | none => none
noncomputable def eMapUpdate (P : Program) (ev : Operand → Option V) (h : H) (t : TypeId) (m k x : Operand) : Option (V × H) :=
  match ev m with
  | some a => match ev k with
    | some b => match ev x with
      | some v => match one v, evMapUpdate P h t a b v with | true, some h' => some (.tup [], h') | _, _ => none
      | none => none
    | none => none
  | none => none
noncomputable def eCall (P : Program) (ev : Operand → Option V) (h : H) (c : Call) : Option (V × H) :=
  match c.callee with
  | .builtin b => match b with
    | .append => match evL ev c.args.toList with
      | some [s, x] => evAppend P h c.argTypes.toList s x
      | _ => none
    | _ => none
  | _ => none
/-- What an operation that makes or changes memory comes to. -/
noncomputable def evE (P : Program) (ev : Operand → Option V) (h : H) (o : Op) : Option (V × H) :=
  match o with
  | .alloc t => evAlloc P h t
  | .box t x => eBox ev h t x
  | .buildSlice t n parts => eBuildSlice P ev h t n parts
  | .makeMap _ r => eMakeMap h r
  | .makeSlice t l c => eMakeSlice P ev h t l c
  | .store t a x => eStore P ev h t a x
  | .mapUpdate t m k x => eMapUpdate P ev h t m k x
  | .call c => eCall P ev h c
  | _ => none
/-- An operation's kind, and what reckons it. -/
inductive K where
  | p (f : (Operand → Option V) → Option V)
  | r (f : (Operand → Option V) → H → Option V)
  | e (f : (Operand → Option V) → H → Option (V × H))
  | c (f : Operand) (args : List Operand)
  | i (x : Operand) (name : String) (args : List Operand)
  | no
noncomputable def kindOf (P : Program) (o : Op) : K :=
  match o with
  | .move x => .p fun ev => ev x
  | .assign x => .p fun ev => ev x
  | .pick c a b => .p fun ev => rPick ev c a b
  | .load t a => .r fun ev h => rLoad P ev h t a
  | .nilCheck x => .p fun ev => rNil ev x
  | .binOp op t x y _ => .r fun ev h => rBin P ev h op t x y
  | .unOp op _ x => .p fun ev => rUn ev op x
  | .convert s d x => .r fun ev h => rConvert P ev h s d x
  | .makeInterface t x => .p fun ev => rIface P ev t x
  | .makeFunc fn first captured => .p fun ev => rFunc ev fn first captured
  | .slice t x lo hi mx => .r fun ev h => rSlice P ev h t x lo hi mx
  | .fieldAddr t x f => .p fun ev => rFieldAddr P ev t x f
  | .field t x f => .p fun ev => rField P ev t x f
  | .indexAddr t x i => .r fun ev h => rIndexAddr P ev h t x i
  | .index t x i => .p fun ev => rIndex P ev t x i
  | .lookup t x i ok => .r fun ev h => rLookup P ev h t x i ok
  | .extract x i => .p fun ev => rExtract ev x i
  | .build t parts => .p fun ev => rBuild P ev t parts
  | .alloc t => .e fun _ h => evAlloc P h t
  | .box t x => .e fun ev h => eBox ev h t x
  | .buildSlice t n parts => .e fun ev h => eBuildSlice P ev h t n parts
  | .makeMap _ r => .e fun _ h => eMakeMap h r
  | .makeSlice t l c => .e fun ev h => eMakeSlice P ev h t l c
  | .store t a x => .e fun ev h => eStore P ev h t a x
  | .mapUpdate t m k x => .e fun ev h => eMapUpdate P ev h t m k x
  | .call c => match c.callee with
    | .builtin b => match b with
      | .append => .e fun ev h => eCall P ev h c
      | _ => .r fun ev h => rCall P ev h c
    | .value f => .c f c.args.toList
    | .invoke x name => .i x name c.args.toList
  | _ => .no
theorem kindOf_p {P : Program} {o : Op} {f : (Operand → Option V) → Option V} (hk : kindOf P o = .p f) (ev : Operand → Option V) (h : H) : f ev = evR P ev h o := by
  unfold kindOf at hk
  split at hk <;> first | (cases hk; done) | (injection hk with hk; subst hk; rfl) | skip
  · split at hk
    · split at hk
      · cases hk
      · cases hk
    · cases hk
    · cases hk
theorem kindOf_r {P : Program} {o : Op} {f : (Operand → Option V) → H → Option V} (hk : kindOf P o = .r f) (ev : Operand → Option V) (h : H) : f ev h = evR P ev h o := by
  unfold kindOf at hk
  split at hk <;> first | (cases hk; done) | (injection hk with hk; subst hk; rfl) | skip
  · split at hk
    · split at hk
      · cases hk
      · injection hk with hk; subst hk; rfl
    · cases hk
    · cases hk
theorem kindOf_e {P : Program} {o : Op} {f : (Operand → Option V) → H → Option (V × H)} (hk : kindOf P o = .e f) (ev : Operand → Option V) (h : H) : f ev h = evE P ev h o := by
  unfold kindOf at hk
  split at hk <;> first | (cases hk; done) | (injection hk with hk; subst hk; rfl) | skip
  · split at hk
    · split at hk
      · injection hk with hk; subst hk; rfl
      · cases hk
    · cases hk
    · cases hk
theorem kindOf_c {P : Program} {o : Op} {f : Operand} {args : List Operand} (hk : kindOf P o = .c f args) : ∃ c, o = .call c ∧ c.callee = .value f ∧ args = c.args.toList := by
  unfold kindOf at hk
  split at hk <;> first | (cases hk; done) | skip
  rename_i c
  split at hk
  · split at hk <;> cases hk
  · rename_i g hc
    injection hk with h1 h2
    subst h1; subst h2
    exact ⟨c, rfl, hc, rfl⟩
  · cases hk
theorem kindOf_i {P : Program} {o : Op} {x : Operand} {name : String} {args : List Operand} (hk : kindOf P o = .i x name args) : ∃ c, o = .call c ∧ c.callee = .invoke x name ∧ args = c.args.toList := by
  unfold kindOf at hk
  split at hk <;> first | (cases hk; done) | skip
  rename_i c
  split at hk
  · split at hk <;> cases hk
  · cases hk
  · rename_i g nm hc
    injection hk with h1 h2 h3
    subst h1; subst h2; subst h3
    exact ⟨c, rfl, hc, rfl⟩
/-- How an operation ends: with a value, or without. -/
def OpDone (P : Program) (s : Sem Next) (w : World) (q : Value) (w' : World) : Prop := s.run P w = .ok (.value q) w' ∨ (s.run P w = .ok .skip w' ∧ q = undef)
theorem Comes1.op {s : Sem Value} {v : V} {h' : H} (hc : Comes1 P ρ h w s v h') : ∃ q w' ρ', OpDone P (do pure (.value (← s)) : Sem Next) w q w' ∧ Step ρ h w ρ' h' w' ∧ VRel ρ' v q := by
  obtain ⟨q, w', ρ', h1, h2, h3⟩ := hc
  exact ⟨q, w', ρ', .inl (by rw [Sem.run_bind, h1]; rfl), h2, h3⟩
theorem undef_rel : VRel ρ (.tup []) undef := .tup rfl fun i v c hv _ => by simp at hv
theorem unit_op {s : Sem Unit} {h' : H} (hc : ∃ w', s.run P w = .ok () w' ∧ Step ρ h w ρ h' w') : ∃ q w' ρ', OpDone P (do s; pure .skip : Sem Next) w q w' ∧ Step ρ h w ρ' h' w' ∧ VRel ρ' (.tup []) q := by
  obtain ⟨w', h1, h2⟩ := hc
  exact ⟨undef, w', ρ, .inr ⟨by rw [Sem.run_bind, h1]; rfl, rfl⟩, h2, undef_rel⟩
set_option maxHeartbeats 1000000 in
theorem evE_sound (r : Rel ρ h w) {ev : Operand → Option V} {re : Operand → Value} {o : Oper} {v : V} {h' : H} (hev : ∀ x, x ∈ o.op.operands → ∀ u, ev x = some u → VRel ρ u (re x)) (he : evE P ev h o.op = some (v, h')) :
    ∃ q w' ρ', OpDone P (execOp re o) w q w' ∧ Step ρ h w ρ' h' w' ∧ VRel ρ' v q := by
  obtain ⟨dst, op, type, pos, after, guard⟩ := o
  simp only at he hev
  unfold evE at he
  unfold execOp
  split at he
  · exact (evAlloc_sound r he).op
  · rename_i t x
    unfold eBox at he
    split at he
    · rename_i u hu
      exact (evNew_sound r (hev x (by simp [Op.operands]) _ hu) he).op
    · cases he
  · rename_i t n parts
    unfold eBuildSlice at he
    split at he
    · rename_i l hl
      have h1 := evP_rel (re := re) parts.toList l (fun p hp => hev p.2 (by simp only [Op.operands, List.mem_toArray, List.mem_map]; exact ⟨p, hp, rfl⟩)) hl
      exact (evBuildSlice_sound (parts' := parts.map fun (i, x) => (i, re x)) r (by simpa using h1) he).op
    · cases he
  · rename_i t rr
    unfold eMakeMap at he
    split at he
    · injection he with he
      injection he with h1 h2
      subst h1; subst h2
      exact (evMakeMap_sound r).op
    · cases he
  · rename_i t l c
    unfold eMakeSlice at he
    split at he
    · rename_i a ha
      split at he
      · rename_i b hb
        exact (evMakeSlice_sound r (hev l (by simp [Op.operands]) _ ha) (hev c (by simp [Op.operands]) _ hb) he).op
      · cases he
    · cases he
  · rename_i t a x
    unfold eStore at he
    split at he
    · rename_i p hp
      split at he
      · rename_i u hu
        split at he
        · rename_i h'' hs
          injection he with he
          injection he with h1 h2
          subst h1; subst h2
          exact unit_op (evStore_sound r (hev a (by simp [Op.operands]) _ hp) (hev x (by simp [Op.operands]) _ hu) hs)
        · cases he
      · cases he
    · cases he
  · rename_i t m k x
    unfold eMapUpdate at he
    split at he
    · rename_i a ha
      split at he
      · rename_i b hb
        split at he
        · rename_i u hu
          split at he
          · rename_i h'' _ hs
            injection he with he
            injection he with h1 h2
            subst h1; subst h2
            exact unit_op (evMapUpdate_sound r (hev m (by simp [Op.operands]) _ ha) (hev k (by simp [Op.operands]) _ hb) (hev x (by simp [Op.operands]) _ hu) hs)
          · cases he
        · cases he
      · cases he
    · cases he
  · rename_i c
    unfold eCall at he
    split at he
    · rename_i b hb
      split at he
      · split at he
        · rename_i s x hl
          have h1 := evL_rel (re := re) c.args.toList [s, x] (fun y hy => hev y (by simp only [Op.operands, Call.operands, Array.mem_append]; exact .inr (by simpa using hy))) hl
          have hres : (resolve re c type).run P w = .ok { target := .builtin .append c.argTypes type (c.args.map fun | .const _ => true | _ => false), args := c.args.map re } w := by
            unfold resolve; rw [hb]; rfl
          obtain ⟨cs, hcs⟩ : ∃ cs, c.args.toList.map re = cs := ⟨_, rfl⟩
          rw [hcs] at h1
          match cs, h1 with
          | [a, b], h1 =>
            obtain ⟨q, w', ρ', g1, g2, g3⟩ := evAppend_sound (P := P) (rt := type) r h1.1 h1.2.1 he
            refine ⟨q, w', ρ', .inl ?_, g2, g3⟩
            have hargs : c.args.map re = #[a, b] := by
              apply Array.toList_inj.mp
              simpa using hcs
            dsimp only
            rw [Sem.run_bind, hres, Result.andThen_ok, hargs]
            show ((do pure (.value (← Builtin.append_ c.argTypes type #[a, b])) : Sem Next)).run P w = _
            rw [Sem.run_bind, g1]
            rfl
        · cases he
      · cases he
    · cases he
  · cases he
end
end Go.Ev
/- A function's body, and its calls, reckoned by the kernel. No condition but what each theorem says. -/
namespace Go.Ev
set_option linter.unusedVariables false
set_option linter.unusedSimpArgs false
open Go
noncomputable def forceN {β : Type} (n : Nat) (f : Nat → β) : β := Nat.rec (motive := fun _ => β) (f 0) (fun p _ => f (Nat.succ p)) n
theorem forceN_eq {β : Type} (n : Nat) (f : Nat → β) : forceN n f = f n := by cases n <;> rfl
noncomputable def forceI {β : Type} (n : Int) (f : Int → β) : β := Int.casesOn (motive := fun _ => β) n (fun m => forceN m fun m => f (.ofNat m)) (fun m => forceN m fun m => f (.negSucc m))
theorem forceI_eq {β : Type} (n : Int) (f : Int → β) : forceI n f = f n := by
  cases n with
  | ofNat m => exact forceN_eq m fun m => f (.ofNat m)
  | negSucc m => exact forceN_eq m fun m => f (.negSucc m)
noncomputable def forceV {β : Type} (v : V) (f : V → β) : β :=
  match v with
  | .int k n => forceI n fun n => f (.int k n)
  | .bool b => match b with | true => f (.bool true) | false => f (.bool false)
  | .ptr k g o => forceN k fun k => forceN g fun g => forceN o fun o => f (.ptr k g o)
  | .slice k g o l c => forceN k fun k => forceN g fun g => forceN o fun o => forceN l fun l => match c with
    | none => f (.slice k g o l none)
    | some c => forceN c fun c => f (.slice k g o l (some c))
  | v => f v
theorem forceV_eq {β : Type} (v : V) (f : V → β) : forceV v f = f v := by
  cases v <;> simp only [forceV, forceI_eq, forceN_eq]
  · split <;> rfl
  · split <;> rfl
/-- How a piece of code ends. -/
inductive Ex where
  | normal
  | exit (id : Nat)
  | ret
noncomputable def putA (N : Nat) (a : T V) (o : Oper) (v : V) : Option (T V) :=
  match o.dst with
  | none => some a
  | some d => match Nat.ble (d + 1) N with
    | true => forceV v fun v' => T.setK (d + 1) (some v') a d fun a' => some a'
    | false => none
noncomputable def forceH {β : Type} (h : H) (k : H → β) : β := match h with | ⟨n, t⟩ => forceN n fun n => T.force t fun t => k ⟨n, t⟩
/-- Is an operation carried out? -/
noncomputable def want (ops : Array Oper) (a : T V) (o : Oper) : Option Bool :=
  match o.guard with
  | none => some true
  | some (j, w) => match (ops[j]?).bind (·.dst) with
    | some t => match a.get t with
      | some (.bool b) => match b, w with
        | true, true => some true
        | false, false => some true
        | _, _ => some false
      | some _ => some false
      | none => none
    | none => some false
abbrev St := (Operand → Option V) → H → Oper → Option (V × H)
noncomputable def regN (st : St) (N : Nat) (ops : Array Oper) : List Oper → T V → H → Option (T V × H)
  | [], a, h => some (a, h)
  | o :: r, a, h => match want ops a o with
    | some true => match st (evA a) h o with
      | some (v, h') => match putA N a o v with
        | some a' => regN st N ops r a' h'
        | none => none
      | none => none
    | some false => match putA N a o (.tup []) with
      | some a' => regN st N ops r a' h
      | none => none
    | none => none
def evMethod (P : Program) (t : TypeId) (name : String) : Option FuncId :=
  match P.info? t with
  | some i => match i.methods.find? (·.name == name) with
    | some m => match m.path.toList, m.func, P.underlying t with
      | [], some (f, true), some (.pointer _) => some f
      | [], some (_, false), some (.pointer _) => none
      | [], some (f, false), some _ => some f
      | _, _, _ => none
    | none => none
  | none => none
abbrev CallF := FuncId → List V → H → Option (V × H)
noncomputable def stE : Option (V × H) → Option (V × H)
  | some (v, h') => forceH h' fun h' => some (v, h')
  | none => none
noncomputable def stR (h : H) : Option V → Option (V × H)
  | some v => some (v, h)
  | none => none
noncomputable def stC (call : CallF) (ev : Operand → Option V) (h : H) (args : List Operand) : Option V → Option (V × H)
  | some (.func fid caps) => match evL ev args with
    | some l => call fid (l ++ caps) h
    | none => none
  | _ => none
noncomputable def stI (P : Program) (call : CallF) (ev : Operand → Option V) (h : H) (name : String) (args : List Operand) : Option V → Option (V × H)
  | some (.iface t v) => match evMethod P t name with
    | some fid => match evL ev args with
      | some l => call fid (v :: l) h
      | none => none
    | none => none
  | _ => none
noncomputable def stepK (P : Program) (call : CallF) (ev : Operand → Option V) (h : H) : K → Option (V × H)
  | .p f => stR h (f ev)
  | .r f => stR h (f ev h)
  | .e f => stE (f ev h)
  | .c f args => stC call ev h args (ev f)
  | .i x name args => stI P call ev h name args (ev x)
  | .no => none
noncomputable def stepV (P : Program) (call : CallF) : St := fun ev h o => stepK P call ev h (kindOf P o.op)
noncomputable def resL (P : Program) (a : T V) (h : H) : List ResultVar → Option (List V)
  | [] => some []
  | .tmp t :: r => match a.get t with
    | some v => match resL P a h r with | some l => some (v :: l) | none => none
    | none => none
  | .cell t ty :: r => match a.get t with
    | some p => match evLoad P h ty p with
      | some v => match resL P a h r with | some l => some (v :: l) | none => none
      | none => none
    | none => none
noncomputable def evRes (P : Program) (fn : Func) (a : T V) (h : H) : Option (V × H) :=
  match resL P a h fn.results.toList with
  | some l => match l with
    | [v] => some (v, h)
    | l => some (.tup l, h)
  | none => none
noncomputable def callV (P : Program) (ov : FuncId → Option (List V → H → Option (V × H))) (body : Nat → Code → T V → H → Option (Ex × T V × H)) : CallF := fun f args h =>
  match ov f with
  | some g => g args h
  | none => match P.funcs[f]? with
    | some fn => match fn.body with
      | some c => match Nat.ble args.length fn.ntmps with
        | true => T.force (setMany .e 0 args) fun a0 => match body fn.ntmps c a0 h with
          | some (e, a, h') => match e with
            | .normal => evRes P fn a h'
            | .ret => evRes P fn a h'
            | .exit _ => none
          | none => none
        | false => none
      | none => none
    | none => none
abbrev Run := Nat → Code → T V → H → Option (Ex × T V × H)
noncomputable def cSeq (ih : Run) (N : Nat) (y : Code) : Option (Ex × T V × H) → Option (Ex × T V × H)
  | some (e, a', h') => match e with
    | .normal => ih N y a' h'
    | e => some (e, a', h')
  | none => none
noncomputable def cCond (ih : Run) (N : Nat) (x y : Code) (a : T V) (h : H) : Option V → Option (Ex × T V × H)
  | some (.bool b) => match b with
    | true => ih N x a h
    | false => ih N y a h
  | _ => none
noncomputable def cBlock (id : Nat) : Option (Ex × T V × H) → Option (Ex × T V × H)
  | some (e, a', h') => match e with
    | .exit id' => match Nat.beq id' id with
      | true => some (.normal, a', h')
      | false => some (.exit id', a', h')
    | e => some (e, a', h')
  | none => none
noncomputable def cReg : Option (T V × H) → Option (Ex × T V × H)
  | some (a', h') => some (.normal, a', h')
  | none => none
noncomputable def cRegion (P : Program) (ov : FuncId → Option (List V → H → Option (V × H))) (rd : St → Nat → Array Oper → T V → H → Option (T V × H)) (ih : Run) (N : Nat) (ops : Array Oper) (draw : Bool) (a : T V) (h : H) : Option (Ex × T V × H) :=
  match draw with
  | false => cReg (regN (stepV P (callV P ov ih)) N ops ops.toList a h)
  | true => cReg (rd (stepV P (callV P ov ih)) N ops a h)
noncomputable def evC1 (P : Program) (ov : FuncId → Option (List V → H → Option (V × H))) (rd : St → Nat → Array Oper → T V → H → Option (T V × H)) (ih : Run) : Run := fun N c a h =>
  match c with
  | .skip => some (.normal, a, h)
  | .label _ => some (.normal, a, h)
  | .ret => some (.ret, a, h)
  | .exit id => some (.exit id, a, h)
  | .seq x y => cSeq ih N y (ih N x a h)
  | .cond c x y => cCond ih N x y a h (evA a c)
  | .block id c => cBlock id (ih N c a h)
  | .loop c => cSeq ih N (.loop c) (ih N c a h)
  | .region _ ops draw => cRegion P ov rd ih N ops draw a h
  | _ => none
/-- A piece of code, from here to its end. -/
noncomputable def evC (P : Program) (ov : FuncId → Option (List V → H → Option (V × H))) (rd : St → Nat → Array Oper → T V → H → Option (T V × H)) (fuel : Nat) : Run :=
  Nat.rec (motive := fun _ => Run) (fun _ _ _ _ => none) (fun _ ih => evC1 P ov rd ih) fuel
end Go.Ev
