/- The builtin copy into a cut of a row of one's own ('copy(out[off:], l)'): the row's cells from that place on are the other's, as far as both go. No condition but what each theorem names. -/
import Derived.Test.YtjohdgejjnbddaaDoorXErr
import Derived.Test.YtjohdgejjnbddaaDoorXSpot
import Derived.Test.YtjohdgejjnbddaaDoorWWords
import Derived.Test.YtjohdgejjnbddaaDoorWLast
import Derived.Laws.IdiomCopy
import Derived.Laws.Tables
namespace Go.Proofs.YtjohdgejjnbddaaDoorX
open Go Go.RowKit Go.Proofs.YtjohdgejjnbddaaDoorW.PrintWords Go.Proofs.YtjohdgejjnbddaaDoorW.PrintLast

def cpy {α : Type} (xs : List α) (off : Nat) (ys : List α) : List α := xs.take off ++ (ys.take (xs.length - off) ++ xs.drop (off + min ys.length (xs.length - off)))
section
variable {P : Program} {ops : Array Oper} {rest : List Oper} {o : Oper} {a : Act} {Q : Exit → Act → World → Prop} {α : Type}
end
section
variable {CT PT ST : TypeId} {W W1 : World} {base base' : Nat} {r : Option Int} {v : Value}
theorem ErrAt.turn (h : ErrAt CT PT ST W base r v) (hm : ∀ (b : Nat) cs, base ≤ b → W.heap[b]? = some (Obj.cells cs ST (0, 0)) → base' ≤ b ∧ W1.heap[b]? = W.heap[b]?) : ErrAt CT PT ST W1 base' r v := by
  rcases r with _ | q
  · exact h
  · by_cases hq : q < 0
    · obtain ⟨b, h1, h2, h3⟩ := h.spot_eq hq
      obtain ⟨h4, h5⟩ := hm b _ h2 h3
      simp only [ErrAt, if_pos hq]
      exact ⟨b, h1, h4, h5.trans h3⟩
    · simp only [ErrAt, if_neg hq]
      exact h.code_eq hq
theorem ErrAt.lower (h : ErrAt CT PT ST W base r v) (hb : base' ≤ base) : ErrAt CT PT ST W base' r v := h.turn fun _ _ h1 _ => ⟨Nat.le_trans hb h1, rfl⟩
theorem ErrAt.move (h : ErrAt CT PT ST W base r v) (hm : ∀ (k : Nat) cs, W.heap[k]? = some (Obj.cells cs ST (0, 0)) → W1.heap[k]? = W.heap[k]?) : ErrAt CT PT ST W1 base r v := h.turn fun b cs h1 h2 => ⟨h1, hm b cs h2⟩
theorem ErrAt.below (h : ErrAt CT PT ST W base r v) (hb : Below W.heap.size W W1) : ErrAt CT PT ST W1 base r v := ErrAt.move h fun k _ hk => hb.block k (blk_lt hk)
theorem ErrAt.alloc (h : ErrAt CT PT ST W base r v) (o : Obj) : ErrAt CT PT ST (W.alloc o) base r v := ErrAt.move h fun _ _ hk => (blk_alloc hk o).trans hk.symm
theorem ErrAt.drew (h : ErrAt CT PT ST W base r v) : ErrAt CT PT ST W.drew base r v := h
theorem ErrAt.drewN (h : ErrAt CT PT ST W base r v) (n : Nat) : ErrAt CT PT ST (W.drewN n) base r v := h
theorem ErrAt.grown {row : Option Nat} (h : ErrAt CT PT ST W base r v) (hg : W.grownBy W1 row) (hne : ∀ (k : Nat) cs, W.heap[k]? = some (Obj.cells cs ST (0, 0)) → some k ≠ row) : ErrAt CT PT ST W1 base r v :=
  ErrAt.move h fun k cells hk => (blk_grown hk hg (hne k cells hk)).trans hk.symm
theorem ErrAt.some_form {q : Int} (h : ErrAt CT PT ST W base (some q) v) : ∃ T x, v = .iface T x := by
  by_cases hq : q < 0
  · obtain ⟨b, h1, _⟩ := h.spot_eq hq
    exact ⟨_, _, h1⟩
  · exact ⟨_, _, h.code_eq hq⟩
end
theorem bA {w W : World} (h : Below w.heap.size w W) (o : Obj) : Below w.heap.size w (W.alloc o) := below_alloc h o
theorem bN {B : Nat} {w W : World} (h : Below B w W) (n : Nat) : Below B w (W.drewN n) := pw_below_drewN h n
theorem bD {base : Nat} {w W : World} (h : Below base w W) : Below base w W.drew := below_drew1 h
section
variable {α : Type} {d : Kd α} {e : Nat} {w : World} {base : Nat} {ok : Nat → Prop} {v : Value} {xs : List α}
theorem rA (h : d.R e w base ok v xs) (o : Obj) : d.R e (w.alloc o) base ok v xs := Kd.R_alloc h o
theorem rD (h : d.R e w base ok v xs) : d.R e w.drew base ok v xs := Kd.R_drew h
theorem rN (h : d.R e w base ok v xs) (m : Nat) : d.R e (w.drewN m) base ok v xs := Kd.R_drewN h m
end
section
variable {α : Type} {d : Kd α} {e : Nat} {w : World} {base n : Nat} {A : Option Addr} {ok : Nat → Prop} {v : Value} {xs : List α}
theorem cA (h : d.C w A n xs) (o : Obj) : d.C (w.alloc o) A n xs := Kd.C_alloc h o
theorem cD (h : d.C w A n xs) : d.C w.drew A n xs := Kd.C_drew h
theorem cN (h : d.C w A n xs) (m : Nat) : d.C (w.drewN m) A n xs := Kd.C_drewN h m
theorem kA {g : Nat} {o : Obj} (h : w.heap[g]? = some o) (o' : Obj) : (w.alloc o').heap[g]? = some o := blk_alloc h o'
theorem kD {g : Nat} {o : Obj} (h : w.heap[g]? = some o) : w.drew.heap[g]? = some o := blk_drew h
theorem kN {g : Nat} {o : Obj} (h : w.heap[g]? = some o) (m : Nat) : (w.drewN m).heap[g]? = some o := blk_drewN h m
theorem aM {p : Prop} (h : p) : Aside0 p := Aside0.mk h
theorem sA (l : List α) (i : Nat) (a : α) : l.toArray.setIfInBounds i a = (l.set i a).toArray := List.setIfInBounds_toArray ..
theorem sZ (a b : α) (l : List α) : (a :: l).set 0 b = b :: l := rfl
theorem sS (a b : α) (l : List α) (i : Nat) : (a :: l).set (i + 1) b = a :: l.set i b := rfl
end
def IsRow (W : World) (g : Nat) (T : TypeId) : Prop := ∃ cs, W.heap[g]? = some (.cells cs T (0, 0))
theorem IsRow.of {W : World} {g : Nat} {T : TypeId} {cs : Array Value} (h : W.heap[g]? = some (.cells cs T (0, 0))) : IsRow W g T := ⟨cs, h⟩
theorem IsRow.set {W : World} {g g' i : Nat} {T : TypeId} {v : Value} (h : IsRow W g T) : IsRow (W.setCell ⟨g', i, none⟩ v) g T := by
  obtain ⟨cs, h⟩ := h
  by_cases e : g = g'
  · subst e
    exact ⟨_, blk_set h i v⟩
  · exact ⟨_, blk_far h (p := ⟨g', i, none⟩) e v⟩
theorem IsRow.alloc {W : World} {g : Nat} {T : TypeId} (h : IsRow W g T) (o : Obj) : IsRow (W.alloc o) g T := h.elim fun cs h => ⟨cs, blk_alloc h o⟩
theorem IsRow.drew {W : World} {g : Nat} {T : TypeId} (h : IsRow W g T) : IsRow W.drew g T := h
theorem IsRow.drewN {W : World} {g : Nat} {T : TypeId} (h : IsRow W g T) (n : Nat) : IsRow (W.drewN n) g T := h
theorem ErrAt.set {CT PT ST : TypeId} {W : World} {base g i : Nat} {r : Option Int} {v u : Value} {T : TypeId} (h : ErrAt CT PT ST W base r v) (hr : IsRow W g T) (hT : T ≠ ST) : ErrAt CT PT ST (W.setCell ⟨g, i, none⟩ u) base r v := by
  obtain ⟨cs, hr⟩ := hr
  refine ErrAt.move h fun k cs' hk => ?_
  have hne : k ≠ g := by
    rintro rfl
    rw [hr] at hk
    injection hk with hk
    injection hk with _ h2 _
    exact hT h2
  exact (blk_far hk (p := ⟨g, i, none⟩) hne u).trans hk.symm
def bzA (n m : Nat) : Array Bool := ((List.range n).map fun i => m.testBit i).toArray
theorem bx1 {w : World} {g : Nat} {t : TypeId} {v0 : Value} (h : w.heap[g]? = some (.cells #[v0] t (0, 0))) : w.cell? ⟨g, 0, none⟩ = some v0 ∧ w.frozen? ⟨g, 0, none⟩ = false := ⟨(blk_cell h 0).trans rfl, blk_frozen h 0⟩
theorem bx3 {w : World} {g : Nat} {t : TypeId} {v0 v1 v2 : Value} (h : w.heap[g]? = some (.cells #[v0, v1, v2] t (0, 0))) : w.cell? ⟨g, 0, none⟩ = some v0 ∧ w.cell? ⟨g, 1, none⟩ = some v1 ∧ w.cell? ⟨g, 2, none⟩ = some v2 ∧ w.frozen? ⟨g, 0, none⟩ = false ∧ w.frozen? ⟨g, 1, none⟩ = false ∧ w.frozen? ⟨g, 2, none⟩ = false := ⟨(blk_cell h 0).trans rfl, (blk_cell h 1).trans rfl, (blk_cell h 2).trans rfl, blk_frozen h 0, blk_frozen h 1, blk_frozen h 2⟩
theorem bx7 {w : World} {g : Nat} {t : TypeId} {v0 v1 v2 v3 v4 v5 v6 : Value} (h : w.heap[g]? = some (.cells #[v0, v1, v2, v3, v4, v5, v6] t (0, 0))) : w.cell? ⟨g, 0, none⟩ = some v0 ∧ w.cell? ⟨g, 1, none⟩ = some v1 ∧ w.cell? ⟨g, 2, none⟩ = some v2 ∧ w.cell? ⟨g, 3, none⟩ = some v3 ∧ w.cell? ⟨g, 4, none⟩ = some v4 ∧ w.cell? ⟨g, 5, none⟩ = some v5 ∧ w.cell? ⟨g, 6, none⟩ = some v6 ∧ w.frozen? ⟨g, 0, none⟩ = false ∧ w.frozen? ⟨g, 1, none⟩ = false ∧ w.frozen? ⟨g, 2, none⟩ = false ∧ w.frozen? ⟨g, 3, none⟩ = false ∧ w.frozen? ⟨g, 4, none⟩ = false ∧ w.frozen? ⟨g, 5, none⟩ = false ∧ w.frozen? ⟨g, 6, none⟩ = false := ⟨(blk_cell h 0).trans rfl, (blk_cell h 1).trans rfl, (blk_cell h 2).trans rfl, (blk_cell h 3).trans rfl, (blk_cell h 4).trans rfl, (blk_cell h 5).trans rfl, (blk_cell h 6).trans rfl, blk_frozen h 0, blk_frozen h 1, blk_frozen h 2, blk_frozen h 3, blk_frozen h 4, blk_frozen h 5, blk_frozen h 6⟩
end Go.Proofs.YtjohdgejjnbddaaDoorX
