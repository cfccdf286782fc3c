/- Values and memory of a run that the kernel reckons by itself, and what it is for them to stand in a world: blocks under other numbers, slices whose capacity isn't known. No condition but what each theorem says. -/
import Derived.Test.YtpjilbhhhpikaaaGreatEvT
import Derived.Calls
import Derived.Below
import Derived.Laws.Sem
namespace Go.Ev
set_option linter.unusedVariables false
set_option linter.unusedSimpArgs false
open Go
inductive V where
  | bool (b : Bool)
  | int (k : IntKind) (n : Int)
  | str (s : ByteArray)
  | ptr (k gen off : Nat)
  | pnil
  | slice (k gen off len : Nat) (cap : Option Nat)
  | snil
  | semp
  | map (k : Nat)
  | mnil
  | func (f : FuncId) (caps : List V)
  | fnil
  | iface (t : TypeId) (v : V)
  | inil
  | agg (len : Nat) (d : List (Nat × V)) (t : T V)
  | tup (vs : List V)
def dget (d : List (Nat × V)) (i : Nat) : Option V :=
  match d with
  | [] => none
  | (n, v) :: r => cond (Nat.ble n i) (dget r (Nat.sub i n)) (some v)
/-- A row's cell: what was set, or what it began as. -/
noncomputable def rget (d : List (Nat × V)) (t : T V) (i : Nat) : Option V :=
  Option.rec (motive := fun _ => Option V) (dget d i) (fun v => some v) (t.get i)
theorem rget_set (d : List (Nat × V)) (t : T V) (i k : Nat) (x : V) : rget d (t.set i x) k = if i = k then some x else rget d t k := by
  unfold rget
  rw [T.get_set]
  by_cases h : i = k
  · rw [if_pos h, if_pos h]
  · rw [if_neg h, if_neg h]
/-- Where a block stands in the world: its number there, how many cells are ahead of it, how often it was given away, how many cells there are, cells of an element, whether it is only read. -/
structure Ent where
  b : Nat
  at_ : Nat
  gen : Nat
  room : Nat
  esz : Nat
  ro : Bool
abbrev Env := Nat → Option Ent
inductive VRel (ρ : Env) : V → Value → Prop where
  | bool (b : Bool) : VRel ρ (.bool b) (.bool b)
  | int (k : IntKind) (n : Int) : VRel ρ (.int k n) (.int k n)
  | str (s : ByteArray) : VRel ρ (.str s) (.string s)
  | ptr {k gen off : Nat} {e : Ent} (he : ρ k = some e) (hg : e.gen = gen) : VRel ρ (.ptr k gen off) (.pointer (some ⟨e.b, e.at_ + off, none⟩))
  | ptrOld {k gen off : Nat} {e : Ent} {a : Addr} (he : ρ k = some e) (hg : gen < e.gen) : VRel ρ (.ptr k gen off) (.pointer (some a))
  | pnil : VRel ρ .pnil (.pointer none)
  | slice {k gen off len : Nat} {cap : Option Nat} {e : Ent} {c : Nat} (he : ρ k = some e) (hg : e.gen = gen) (hc : ∀ n, cap = some n → c = n)
      (hl : len ≤ c) (hn : cap = none → off + c * e.esz ≤ e.room) : VRel ρ (.slice k gen off len cap) (.slice (some ⟨e.b, e.at_ + off, none⟩) len c)
  | sliceOld {k gen off len : Nat} {cap : Option Nat} {e : Ent} {a : Addr} {n c : Nat} (he : ρ k = some e) (hg : gen < e.gen) : VRel ρ (.slice k gen off len cap) (.slice (some a) n c)
  | snil : VRel ρ .snil (.slice none 0 0)
  | semp {a : Addr} {c : Nat} : VRel ρ .semp (.slice (some a) 0 c)
  | map {k : Nat} {e : Ent} (he : ρ k = some e) (hg : e.gen = 0) : VRel ρ (.map k) (.map (some e.b))
  | mapOld {k : Nat} {e : Ent} {r : Nat} (he : ρ k = some e) (hg : 0 < e.gen) : VRel ρ (.map k) (.map (some r))
  | mnil : VRel ρ .mnil (.map none)
  | func {f : FuncId} {l : List V} {cs : Array Value} (hs : cs.size = l.length) (h : ∀ (i : Nat) (v : V) (c : Value), l[i]? = some v → cs[i]? = some c → VRel ρ v c) : VRel ρ (.func f l) (.func (.func f) #[] cs)
  | fnil : VRel ρ .fnil .nilFunc
  | iface {t : TypeId} {v : V} {c : Value} (h : VRel ρ v c) : VRel ρ (.iface t v) (.iface t c)
  | inil : VRel ρ .inil .nilIface
  | agg {len : Nat} {d : List (Nat × V)} {t : T V} {cs : Array Value} (hs : cs.size = len) (hd : ∀ i, i < len → ∃ v, rget d t i = some v)
      (h : ∀ (i : Nat) (v : V) (c : Value), rget d t i = some v → cs[i]? = some c → VRel ρ v c) : VRel ρ (.agg len d t) (.agg cs)
  | tup {l : List V} {cs : Array Value} (hs : cs.size = l.length) (h : ∀ (i : Nat) (v : V) (c : Value), l[i]? = some v → cs[i]? = some c → VRel ρ v c) : VRel ρ (.tup l) (.tuple cs)
/-- The blocks that stood go on, or were given away; what is new stands where nothing stood. -/
structure Ext (n m : Nat) (ρ ρ' : Env) : Prop where
  old : ∀ k e, ρ k = some e → ∃ e', ρ' k = some e' ∧ (e' = e ∨ (e.gen < e'.gen ∧ e.ro = false)) ∧ e'.ro = e.ro
  new : ∀ k e', ρ' k = some e' → (∃ e, ρ k = some e ∧ (e'.b = e.b ∨ n ≤ e'.b)) ∨ (ρ k = none ∧ m ≤ k ∧ n ≤ e'.b)
theorem Ext.refl (n m : Nat) (ρ : Env) : Ext n m ρ ρ := ⟨fun _ e h => ⟨e, h, .inl rfl, rfl⟩, fun _ e h => .inl ⟨e, h, .inl rfl⟩⟩
theorem Ext.trans {n m n' m' : Nat} {ρ ρ' ρ'' : Env} (h : Ext n m ρ ρ') (h' : Ext n' m' ρ' ρ'') (hn : n ≤ n') (hm : m ≤ m') : Ext n m ρ ρ'' := by
  constructor
  · intro k e he
    obtain ⟨e', he', h1, r1⟩ := h.old k e he
    obtain ⟨e'', he'', h2, r2⟩ := h'.old k e' he'
    refine ⟨e'', he'', ?_, r2.trans r1⟩
    rcases h1 with rfl | h1 <;> rcases h2 with rfl | h2
    · exact .inl rfl
    · exact .inr h2
    · exact .inr h1
    · exact .inr ⟨Nat.lt_trans h1.1 h2.1, h1.2⟩
  · intro k e'' he''
    rcases h'.new k e'' he'' with ⟨e', he', h1⟩ | ⟨h0, h1, h2⟩
    · rcases h.new k e' he' with ⟨e, he, h2⟩ | ⟨g0, g1, g2⟩
      · refine .inl ⟨e, he, ?_⟩
        rcases h1 with h1 | h1
        · rw [h1]; exact h2
        · exact .inr (Nat.le_trans hn h1)
      · refine .inr ⟨g0, g1, ?_⟩
        rcases h1 with h1 | h1
        · rw [h1]; exact g2
        · exact Nat.le_trans hn h1
    · cases hk : ρ k with
      | none => exact .inr ⟨rfl, Nat.le_trans hm h1, Nat.le_trans hn h2⟩
      | some e =>
        obtain ⟨e', he', _⟩ := h.old k e hk
        rw [h0] at he'; cases he'
theorem VRel.ext {n m : Nat} {ρ ρ' : Env} (x : Ext n m ρ ρ') {v : V} {c : Value} (h : VRel ρ v c) : VRel ρ' v c := by
  induction h with
  | bool b => exact .bool b
  | int k n => exact .int k n
  | str s => exact .str s
  | @ptr k gen off e he hg =>
    obtain ⟨e', he', h | ⟨h, _⟩, _⟩ := x.old _ _ he
    · subst h; exact .ptr he' hg
    · exact .ptrOld he' (hg ▸ h)
  | @ptrOld k gen off e a he hg =>
    obtain ⟨e', he', h | ⟨h, _⟩, _⟩ := x.old _ _ he
    · subst h; exact .ptrOld he' hg
    · exact .ptrOld he' (Nat.lt_trans hg h)
  | pnil => exact .pnil
  | @slice k gen off len cap e c he hg hc hl hn =>
    obtain ⟨e', he', h | ⟨h, _⟩, _⟩ := x.old _ _ he
    · subst h; exact .slice he' hg hc hl hn
    · exact .sliceOld he' (hg ▸ h)
  | @sliceOld k gen off len cap e a n c he hg =>
    obtain ⟨e', he', h | ⟨h, _⟩, _⟩ := x.old _ _ he
    · subst h; exact .sliceOld he' hg
    · exact .sliceOld he' (Nat.lt_trans hg h)
  | snil => exact .snil
  | semp => exact .semp
  | @map k e he hg =>
    obtain ⟨e', he', h | ⟨h, _⟩, _⟩ := x.old _ _ he
    · subst h; exact .map he' hg
    · exact .mapOld he' (hg ▸ h)
  | @mapOld k e r he hg =>
    obtain ⟨e', he', h | ⟨h, _⟩, _⟩ := x.old _ _ he
    · subst h; exact .mapOld he' hg
    · exact .mapOld he' (Nat.lt_trans hg h)
  | mnil => exact .mnil
  | func hs _ ih => exact .func hs ih
  | fnil => exact .fnil
  | iface _ ih => exact .iface ih
  | inil => exact .inil
  | agg hs hd _ ih => exact .agg hs hd ih
  | tup hs _ ih => exact .tup hs ih
/-- What a block holds: cells (their type, how often they were given away, cells of an element, whether they are only read, how many, what they began as, what was set), or a map's entries. -/
inductive O where
  | cells (ty : TypeId) (gen esz : Nat) (ro : Bool) (len : Nat) (d : List (Nat × V)) (t : T V)
  | map (es : List (V × V))
structure H where
  next : Nat
  t : T O
def MRel (ρ : Env) (es : List (V × V)) (es' : List MapEntry) : Prop :=
  es.Pairwise (fun p q => p.1 ≠ q.1) ∧ ∃ l : List (V × V), l.Perm es ∧ l.length = es'.length ∧ ∀ (i : Nat) (p : V × V) (m : MapEntry), l[i]? = some p → es'[i]? = some m → VRel ρ p.1 m.key ∧ VRel ρ p.2 m.val
theorem keys_inj {es : List (V × V)} (hp : es.Pairwise (fun p q => p.1 ≠ q.1)) {p q : V × V} (h1 : p ∈ es) (h2 : q ∈ es) (he : p.1 = q.1) : p = q := by
  induction hp with
  | nil => cases h1
  | @cons a l ha _ ih =>
    cases h1 with
    | head =>
      cases h2 with
      | head => rfl
      | tail _ h2 => exact absurd he (ha q h2)
    | tail _ h1 =>
      cases h2 with
      | head => exact absurd he.symm (ha p h1)
      | tail _ h2 => exact ih h1 h2
def MapOk (es' : List MapEntry) (clock : Nat) : Prop := (es'.map (·.born)).Nodup ∧ ∀ m ∈ es', m.born < clock
def ORel (ρ : Env) (e : Ent) : O → Obj → Prop
  | .cells ty gen esz ro len d t, ob => e.gen = gen ∧ e.esz = esz ∧ e.ro = ro ∧ ∃ cs fz, ob = .cells cs ty fz ∧ cs.size = e.at_ + e.room ∧ len ≤ e.room ∧
      (∀ i, i < cs.size → ¬ (fz.1 ≤ i ∧ i < fz.2)) ∧ ∀ i, i < len → ∃ v c, rget d t i = some v ∧ cs[e.at_ + i]? = some c ∧ VRel ρ v c
  | .map es, ob => e.gen = 0 ∧ e.ro = false ∧ ∃ es' clock, ob = .map es' clock ∧ MRel ρ es es'.toList ∧ MapOk es'.toList clock
theorem ORel.ext {n m : Nat} {ρ ρ' : Env} (x : Ext n m ρ ρ') {e : Ent} {o : O} {ob : Obj} (h : ORel ρ e o ob) : ORel ρ' e o ob := by
  cases o with
  | cells ty gen esz ro len d t =>
    obtain ⟨h1, h2, h2', cs, fz, h3, h4, h5, h6, h7⟩ := h
    refine ⟨h1, h2, h2', cs, fz, h3, h4, h5, h6, fun i hi => ?_⟩
    obtain ⟨v, c, g1, g2, g3⟩ := h7 i hi
    exact ⟨v, c, g1, g2, g3.ext x⟩
  | map es =>
    obtain ⟨h1, h1', es', clock, h2, ⟨h0, l, h3, h4, h5⟩, h6⟩ := h
    exact ⟨h1, h1', es', clock, h2, ⟨h0, l, h3, h4, fun i p q hp hq => ⟨(h5 i p q hp hq).1.ext x, (h5 i p q hp hq).2.ext x⟩⟩, h6⟩
/-- The memory h stands in the world w. -/
structure Rel (ρ : Env) (h : H) (w : World) : Prop where
  obj : ∀ k e, ρ k = some e → ∃ o ob, h.t.get k = some o ∧ w.heap[e.b]? = some ob ∧ ORel ρ e o ob
  inj : ∀ k k' e e', ρ k = some e → ρ k' = some e' → e.b = e'.b → k = k'
  lt : ∀ k e, ρ k = some e → k < h.next
theorem Rel.b_lt {ρ : Env} {h : H} {w : World} (r : Rel ρ h w) {k : Nat} {e : Ent} (he : ρ k = some e) : e.b < w.heap.size := by
  obtain ⟨o, ob, _, hb, _⟩ := r.obj k e he
  exact (Array.getElem?_eq_some_iff.mp hb).1
/-- What a step leaves: the world's other blocks, the run's other blocks. -/
structure Step (ρ : Env) (h : H) (w : World) (ρ' : Env) (h' : H) (w' : World) : Prop where
  ext : Ext w.heap.size h.next ρ ρ'
  rel : Rel ρ' h' w'
  os : w'.os = w.os
  tape : w'.tape = w.tape
  output : w'.output = w.output
  size : w.heap.size ≤ w'.heap.size
  frame : ∀ b, b < w.heap.size → (∀ k e, ρ k = some e → e.b = b → e.ro = true) → w'.heap[b]? = w.heap[b]?
  next : h.next ≤ h'.next
  own : ∀ k, k < h.next → ρ k = none → h'.t.get k = h.t.get k
theorem Step.refl {ρ : Env} {h : H} {w : World} (r : Rel ρ h w) : Step ρ h w ρ h w :=
  ⟨Ext.refl _ _ _, r, rfl, rfl, rfl, Nat.le_refl _, fun _ _ _ => rfl, Nat.le_refl _, fun _ _ _ => rfl⟩
theorem Step.trans {ρ ρ' ρ'' : Env} {h h' h'' : H} {w w' w'' : World} (a : Step ρ h w ρ' h' w') (b : Step ρ' h' w' ρ'' h'' w'') : Step ρ h w ρ'' h'' w'' := by
  refine ⟨a.ext.trans b.ext a.size a.next, b.rel, b.os.trans a.os, b.tape.trans a.tape, b.output.trans a.output, Nat.le_trans a.size b.size, fun p hp hr => ?_, Nat.le_trans a.next b.next, fun k hk hn => ?_⟩
  · refine (b.frame p (Nat.lt_of_lt_of_le hp a.size) fun k e' he' hb => ?_).trans (a.frame p hp hr)
    rcases a.ext.new k e' he' with ⟨e, he, h1 | h1⟩ | ⟨_, _, h1⟩
    · obtain ⟨e2, he2, _, h3⟩ := a.ext.old k e he
      rw [he'] at he2; injection he2 with he2; subst he2
      rw [h3]; exact hr k e he (h1.symm.trans hb)
    · omega
    · omega
  · refine (b.own k (Nat.lt_of_lt_of_le hk a.next) ?_).trans (a.own k hk hn)
    cases hk' : ρ' k with
    | none => rfl
    | some e' =>
      rcases a.ext.new k e' hk' with ⟨e, he, _⟩ | ⟨_, h1, _⟩
      · rw [hn] at he; cases he
      · omega
theorem Rel.drew {ρ : Env} {h : H} {w w' : World} (r : Rel ρ h w) (hh : w'.heap = w.heap) : Rel ρ h w' :=
  ⟨fun k e he => by rw [hh]; exact r.obj k e he, r.inj, r.lt⟩
theorem Step.drew {ρ : Env} {h : H} {w w' : World} (r : Rel ρ h w) (hh : w'.heap = w.heap) (ho : w'.os = w.os) (ht : w'.tape = w.tape) (hp : w'.output = w.output) : Step ρ h w ρ h w' :=
  ⟨Ext.refl _ _ _, r.drew hh, ho, ht, hp, by rw [hh]; exact Nat.le_refl _, fun _ _ _ => by rw [hh], Nat.le_refl _, fun _ _ _ => rfl⟩
noncomputable def H.put (h : H) (k : Nat) (o : O) : H := ⟨h.next, h.t.set k o⟩
noncomputable def H.push (h : H) (o : O) : H := ⟨Nat.add h.next 1, h.t.set h.next o⟩
theorem Ext.one {n m : Nat} {ρ : Env} {e : Ent} {k : Nat} (hn : ρ k = none) (hm : m ≤ k) (hb : n ≤ e.b) : Ext n m ρ (fun j => if j = k then some e else ρ j) := by
  constructor
  · intro j e' he
    have : j ≠ k := fun h => by rw [h, hn] at he; cases he
    exact ⟨e', by show (if j = k then _ else _) = _; rw [if_neg this]; exact he, .inl rfl, rfl⟩
  · intro j e' he
    have he : (if j = k then some e else ρ j) = some e' := he
    by_cases h : j = k
    · rw [if_pos h] at he; injection he with he; subst he
      exact .inr ⟨h ▸ hn, h ▸ hm, hb⟩
    · rw [if_neg h] at he; exact .inl ⟨e', he, .inl rfl⟩
/-- A new block. -/
theorem Step.alloc {ρ : Env} {h : H} {w : World} (r : Rel ρ h w) (o : O) (ob : Obj) (e : Ent) (hb : e.b = w.heap.size)
    (ho : ∀ ρ', Ext w.heap.size h.next ρ ρ' → ρ' h.next = some e → ORel ρ' e o ob) :
    Step ρ h w (fun j => if j = h.next then some e else ρ j) (h.push o) { w with heap := w.heap.push ob } := by
  have hn : ρ h.next = none := by
    cases hk : ρ h.next with
    | none => rfl
    | some e' => exact absurd (r.lt _ _ hk) (Nat.lt_irrefl _)
  have x : Ext w.heap.size h.next ρ (fun j => if j = h.next then some e else ρ j) := Ext.one hn (Nat.le_refl _) (Nat.le_of_eq hb.symm)
  refine ⟨x, ⟨?_, ?_, ?_⟩, rfl, rfl, rfl, by simp, ?_, Nat.le_succ _, ?_⟩
  · intro k e' he
    have he : (if k = h.next then some e else ρ k) = some e' := he
    by_cases hk : k = h.next
    · rw [if_pos hk] at he; injection he with he; subst he
      refine ⟨o, ob, ?_, ?_, ho _ x (if_pos rfl)⟩
      · show (h.t.set h.next o).get k = _
        rw [hk, T.get_set_same]
      · show (w.heap.push ob)[e.b]? = _
        rw [hb, Array.getElem?_push, if_pos rfl]
    · rw [if_neg hk] at he
      obtain ⟨o', ob', h1, h2, h3⟩ := r.obj k e' he
      refine ⟨o', ob', ?_, ?_, h3.ext x⟩
      · show (h.t.set h.next o).get k = _
        rw [T.get_set_ne _ _ (Ne.symm hk)]; exact h1
      · show (w.heap.push ob)[e'.b]? = _
        rw [Array.getElem?_push, if_neg (Nat.ne_of_lt (r.b_lt he))]; exact h2
  · intro k k' e1 e2 h1 h2 hbb
    have h1 : (if k = h.next then some e else ρ k) = some e1 := h1
    have h2 : (if k' = h.next then some e else ρ k') = some e2 := h2
    by_cases c1 : k = h.next <;> by_cases c2 : k' = h.next
    · rw [c1, c2]
    · rw [if_pos c1] at h1; rw [if_neg c2] at h2; injection h1 with h1; subst h1
      exact absurd (r.b_lt h2) (by rw [← hbb, hb]; exact Nat.lt_irrefl _)
    · rw [if_neg c1] at h1; rw [if_pos c2] at h2; injection h2 with h2; subst h2
      exact absurd (r.b_lt h1) (by rw [hbb, hb]; exact Nat.lt_irrefl _)
    · rw [if_neg c1] at h1; rw [if_neg c2] at h2; exact r.inj _ _ _ _ h1 h2 hbb
  · intro k e' he
    have he : (if k = h.next then some e else ρ k) = some e' := he
    by_cases c : k = h.next
    · rw [c]; exact Nat.lt_succ_self _
    · rw [if_neg c] at he; exact Nat.lt_succ_of_lt (r.lt _ _ he)
  · intro b hb' _
    show (w.heap.push ob)[b]? = _
    rw [Array.getElem?_push, if_neg (Nat.ne_of_lt hb')]
  · intro k hk _
    show (h.t.set h.next o).get k = _
    rw [T.get_set_ne _ _ (Nat.ne_of_gt hk)]
/-- A block that is written, or given away: it stands where it stood, or at a new place. -/
theorem Step.turn {ρ : Env} {h : H} {w w' : World} (r : Rel ρ h w) {k : Nat} {e : Ent} (he : ρ k = some e) (hro : e.ro = false) (o : O) (ob : Obj) (e' : Ent)
    (hg : e' = e ∨ e.gen < e'.gen) (hro' : e'.ro = false) (hb : e'.b = e.b ∨ w.heap.size ≤ e'.b) (hob : w'.heap[e'.b]? = some ob)
    (ho : ∀ ρ', Ext w.heap.size h.next ρ ρ' → ρ' k = some e' → ORel ρ' e' o ob)
    (hos : w'.os = w.os) (ht : w'.tape = w.tape) (hp : w'.output = w.output) (hs : w.heap.size ≤ w'.heap.size) (hf : ∀ b, b < w.heap.size → b ≠ e.b → w'.heap[b]? = w.heap[b]?) :
    Step ρ h w (fun j => if j = k then some e' else ρ j) (h.put k o) w' := by
  have x : Ext w.heap.size h.next ρ (fun j => if j = k then some e' else ρ j) := by
    constructor
    · intro j e1 h1
      by_cases c : j = k
      · subst c; rw [he] at h1; injection h1 with h1; subst h1
        exact ⟨e', if_pos rfl, hg.imp id (fun g => ⟨g, hro⟩), hro'.trans hro.symm⟩
      · exact ⟨e1, by show (if j = k then _ else _) = _; rw [if_neg c]; exact h1, .inl rfl, rfl⟩
    · intro j e1 h1
      have h1 : (if j = k then some e' else ρ j) = some e1 := h1
      by_cases c : j = k
      · rw [if_pos c] at h1; injection h1 with h1; subst h1
        exact .inl ⟨e, c ▸ he, hb⟩
      · rw [if_neg c] at h1; exact .inl ⟨e1, h1, .inl rfl⟩
  refine ⟨x, ⟨?_, ?_, ?_⟩, hos, ht, hp, hs, ?_, Nat.le_refl _, ?_⟩
  · intro j e1 h1
    have h1' : (if j = k then some e' else ρ j) = some e1 := h1
    by_cases c : j = k
    · rw [if_pos c] at h1'; injection h1' with h1'; subst h1'
      refine ⟨o, ob, ?_, hob, ho _ x (if_pos rfl)⟩
      show (h.t.set k o).get j = _
      rw [c, T.get_set_same]
    · rw [if_neg c] at h1'
      obtain ⟨o1, ob1, g1, g2, g3⟩ := r.obj j e1 h1'
      refine ⟨o1, ob1, ?_, ?_, g3.ext x⟩
      · show (h.t.set k o).get j = _
        rw [T.get_set_ne _ _ (Ne.symm c)]; exact g1
      · rw [hf _ (r.b_lt h1') fun hbe => c (r.inj _ _ _ _ h1' he hbe)]; exact g2
  · intro j j' e1 e2 h1 h2 hbb
    have h1' : (if j = k then some e' else ρ j) = some e1 := h1
    have h2' : (if j' = k then some e' else ρ j') = some e2 := h2
    by_cases c1 : j = k <;> by_cases c2 : j' = k
    · rw [c1, c2]
    · rw [if_pos c1] at h1'; rw [if_neg c2] at h2'; injection h1' with h1'; subst h1'
      rcases hb with hb | hb
      · exact absurd (r.inj _ _ _ _ h2' he (hbb.symm.trans hb)) c2
      · exact absurd (r.b_lt h2') (by omega)
    · rw [if_neg c1] at h1'; rw [if_pos c2] at h2'; injection h2' with h2'; subst h2'
      rcases hb with hb | hb
      · exact absurd (r.inj _ _ _ _ h1' he (hbb.trans hb)) c1
      · exact absurd (r.b_lt h1') (by omega)
    · rw [if_neg c1] at h1'; rw [if_neg c2] at h2'; exact r.inj _ _ _ _ h1' h2' hbb
  · intro j e1 h1
    have h1' : (if j = k then some e' else ρ j) = some e1 := h1
    by_cases c : j = k
    · rw [c]; exact r.lt _ _ he
    · rw [if_neg c] at h1'; exact r.lt _ _ h1'
  · intro b hb' hr
    exact hf b hb' fun hbe => by have := hr k e he hbe.symm; rw [hro] at this; cases this
  · intro j hj hn
    show (h.t.set k o).get j = _
    rw [T.get_set_ne]
    intro c; rw [← c, he] at hn; cases hn
end Go.Ev
