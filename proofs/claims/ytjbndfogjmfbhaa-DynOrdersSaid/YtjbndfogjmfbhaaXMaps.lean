/- Words for maps that the call itself makes: what they hold told by a function on keys; made, looked into, stored into, and the entry of a map's literal. No condition but what each says. -/
import Derived.Test.YtjbndfogjmfbhaaProg
import Derived.Test.YtjbndfogjmfbhaaXErr
import Derived.Maps.OwnOps
import Derived.Maps.OwnSet
import Derived.Maps.RangeWalk
import Derived.WalkKit
namespace Go.Proofs.YtjbndfogjmfbhaaX
open Go Go.RowKit Go.Maps
theorem wpList_insert_own {H : Type} {P : Program} (w : World) {ops : Array Oper} {rest : List Oper} {o : Oper} {a : Act} {Q : Exit → Act → World → Prop}
    (hg : o.guard = none) (m x v : Operand) (t : TypeId) (hop : o.op = Op.insert t m x v)
    (k e : TypeId) (K : Keyed P k) (ht : P.underlying t = some (.map k e)) (R : Value → Option (DataW H × List MemPlace)) (b n : Nat) (D : DataW H)
    (hm : a.eval m = .map (some b)) (hown : w.ownsMap P k R b n D) (hn : n < maxLen) (key val : Value) (kl : Lit) (hx : a.eval x = key) (hv : a.eval v = val) (hkey : keyOf P k key = some kl)
    (d : DataW H) (ps : List MemPlace) (hval : R val = some (d, ps))
    (hK : ∀ w', w'.ownsMap P k R b (n + 1) (D.put kl d) → w.grownBy w' (some b) → wpList P ops Q rest (a.put o.dst undef) w') :
    wpList P ops Q (o :: rest) a w := by
  refine wpList_plain hg fun K' hK' => ?_
  obtain ⟨w', hrun, r1, r2⟩ := hown.update K ht hn hkey hval
  unfold Oper.wp
  simp [execOp, hop, hm, hx, hv, hrun, Result.andThen]
  exact hK' _ _ (hK w' r1 r2)
/-- Block b of w is a map of at most n numbers by numbers, which holds what f says. -/
def MapN (P : Program) (k e : TypeId) (w : World) (b n : Nat) (f : Int → Option Int) : Prop :=
  ∃ D : DataW Unit, w.ownsMap P k (plainElem P e) b n D ∧ IsMap D ∧ ∀ x, (Lit.int .u64 x).wf = true → (f x = none ∧ Maps.has D (.int .u64 x) = false) ∨ (∃ v, f x = some v ∧ Maps.has D (.int .u64 x) = true ∧ D.atKey (.int .u64 x) (.lit (.int .u64 0)) = .lit (.int .u64 v))
theorem MapN.made (P : Program) (k e : TypeId) (w : World) : MapN P k e (w.alloc (.map #[] 0)) w.heap.size 0 (fun _ => none) :=
  ⟨.map [], World.ownsMap_made _ _ _ _, isMap_empty, fun _ _ => .inl ⟨rfl, rfl⟩⟩
theorem MapN.grown {P : Program} {k e : TypeId} {w w' : World} {b n : Nat} {f : Int → Option Int} {row : Option Nat} (h : MapN P k e w b n f) (hg : w.grownBy w' row) (hne : some b ≠ row) : MapN P k e w' b n f := by
  obtain ⟨D, h1, h2⟩ := h
  exact ⟨D, h1.kept hg hne, h2⟩
theorem MapN.lt {P : Program} {k e : TypeId} {w : World} {b n : Nat} {f : Int → Option Int} (h : MapN P k e w b n f) : b < w.heap.size := by
  obtain ⟨D, h1, _⟩ := h
  exact h1.lt
theorem MapN.look {P : Program} {k e t : TypeId} {w : World} {b n : Nat} {f : Int → Option Int} (h : MapN P k e w b n f) (hk : P.underlying k = some (.int .u64)) (he : P.underlying e = some (.int .u64)) (ht : P.underlying t = some (.map k e))
    (hz : (zeroValue e).run P w = .ok (.int .u64 0) w) {x : Int} (hx : (Lit.int .u64 x).wf = true) : (Instr.lookup t (.map (some b)) (.int .u64 x) true).run P w = .ok (.tuple #[.int .u64 ((f x).getD 0), .bool (f x).isSome]) w := by
  obtain ⟨D, hown, hD, hf⟩ := h
  obtain ⟨v, ps, hrun, hv⟩ := hown.look_ok (int_keyed hk) ht hz (plainElem_int he (by decide)) (keyOf_int_mk hk hx)
  obtain ⟨c, rfl, hc, hwc⟩ := plainElem_int_inv he hv
  have hc := congrArg Prod.fst hc
  dsimp only at hc
  rcases hf x hx with ⟨h0, h1⟩ | ⟨v0, h0, h1, h2⟩
  · rw [atKey_of_not_has h1] at hc
    cases hc
    rw [hrun, h0, h1]
    rfl
  · rw [h2] at hc
    cases hc
    rw [hrun, h0, h1]
    rfl
def updN (f : Int → Option Int) (x v : Int) : Int → Option Int := fun y => if y = x then some v else f y
theorem MapN.put {P : Program} {k e : TypeId} {w' : World} {b n : Nat} {f : Int → Option Int} {D : DataW Unit} (hD : IsMap D) (hf : ∀ x, (Lit.int .u64 x).wf = true → (f x = none ∧ Maps.has D (.int .u64 x) = false) ∨ (∃ v, f x = some v ∧ Maps.has D (.int .u64 x) = true ∧ D.atKey (.int .u64 x) (.lit (.int .u64 0)) = .lit (.int .u64 v)))
    {x v : Int} (hown : w'.ownsMap P k (plainElem P e) b (n + 1) (D.put (.int .u64 x) (.lit (.int .u64 v)))) : MapN P k e w' b (n + 1) (updN f x v) := by
  refine ⟨_, hown, hD.put _ _, fun y hy => ?_⟩
  unfold updN
  by_cases c : y = x
  · subst c
    exact .inr ⟨v, if_pos rfl, has_put_same hD (show WideAt.IsKeyLit (Lit.int .u64 y) from trivial) _, atKey_put_same hD (show WideAt.IsKeyLit (Lit.int .u64 y) from trivial) _ _⟩
  · have hne : (Lit.int .u64 y) ≠ (Lit.int .u64 x) := fun e => c (by cases e; rfl)
    rw [if_neg c, has_put_other hne, atKey_put_other hne]
    exact hf y hy
theorem MapN.store {P : Program} (w : World) {ops : Array Oper} {rest : List Oper} {o : Oper} {a : Act} {Q : Exit → Act → World → Prop}
    (hg : o.guard = none) (m x v : Operand) (t : TypeId) (hop : o.op = Op.mapUpdate t m x v)
    (k e : TypeId) (hk : P.underlying k = some (.int .u64)) (he : P.underlying e = some (.int .u64)) (ht : P.underlying t = some (.map k e)) (b n : Nat) (f : Int → Option Int)
    (hm : a.eval m = .map (some b)) (hown : MapN P k e w b n f) (hn : n < maxLen) (key val : Int) (hx : a.eval x = .int .u64 key) (hv : a.eval v = .int .u64 val) (hkey : (Lit.int .u64 key).wf = true) (hval : (Lit.int .u64 val).wf = true)
    (hK : ∀ w', MapN P k e w' b (n + 1) (updN f key val) → w.grownBy w' (some b) → wpList P ops Q rest (a.put o.dst undef) w') :
    wpList P ops Q (o :: rest) a w := by
  obtain ⟨D, hown, hD, hf⟩ := hown
  exact wpList_mapUpdate_own w hg m x v t hop k e (int_keyed hk) ht (plainElem P e) b n D hm hown hn _ _ _ hx hv (keyOf_int_mk hk hkey) _ [] (plainElem_int he hval) fun w' h1 h2 => hK w' (MapN.put hD hf h1) h2
theorem MapN.same {P : Program} {k e : TypeId} {w w' : World} {b n : Nat} {f : Int → Option Int} (h : MapN P k e w b n f) (e1 : w'.heap[b]? = w.heap[b]?) : MapN P k e w' b n f := by
  obtain ⟨D, ⟨es, clock, h1, h2⟩, h3⟩ := h
  exact ⟨D, ⟨es, clock, e1.trans h1, h2⟩, h3⟩
theorem MapN.obj {P : Program} {k e : TypeId} {w : World} {b n : Nat} {f : Int → Option Int} (h : MapN P k e w b n f) : ∃ es clock, w.heap[b]? = some (.map es clock) := by
  obtain ⟨D, ⟨es, clock, h1, _⟩, _⟩ := h
  exact ⟨es, clock, h1⟩
theorem MapN.ne {P : Program} {k e : TypeId} {w : World} {b n g t : Nat} {f : Int → Option Int} {cs : Array Value} (h : MapN P k e w b n f) (hg : w.heap[g]? = some (.cells cs t (0, 0))) : some g ≠ some b := by
  obtain ⟨es, clock, h1⟩ := h.obj
  intro e
  rw [Option.some.inj e, h1] at hg
  cases hg
theorem MapN.far {P : Program} {k e : TypeId} {w : World} {b n : Nat} {f : Int → Option Int} (h : MapN P k e w b n f) {p : Addr} (hp : b ≠ p.block) (u : Value) : MapN P k e (w.setCell p u) b n f := h.same (RowKit.Below.heap_setCell w p u b hp)
theorem MapN.mono {P : Program} {k e : TypeId} {w : World} {b n n' : Nat} {f : Int → Option Int} (h : MapN P k e w b n f) (hn : n ≤ n') : MapN P k e w b n' f := by
  obtain ⟨D, h1, h2⟩ := h
  exact ⟨D, h1.mono hn, h2⟩
end Go.Proofs.YtjbndfogjmfbhaaX
