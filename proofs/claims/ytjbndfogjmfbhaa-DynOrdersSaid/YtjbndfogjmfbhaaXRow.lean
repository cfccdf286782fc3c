/- Words for a whole struct stored into a variable in memory. No condition but what each says. -/
import Derived.Test.YtjbndfogjmfbhaaProg
import Derived.Test.YtjbndfogjmfbhaaXErr
import Derived.Laws.Tables
import Derived.Laws.Rows
import Derived.Laws.AppendOwn
import Derived.WalkKit
namespace Go.Proofs.YtjbndfogjmfbhaaX
open Go Go.RowKit
theorem wpList_store_box {P : Program} {ops : Array Oper} {rest : List Oper} {o : Oper} {a : Act} {w : World} {Q : Exit → Act → World → Prop} (hgd : o.guard = none) (ty : TypeId) (x y : Operand) (ho : o.op = .store ty x y)
    (g : Nat) (cells : Array Value) (hx : a.eval x = .pointer (some ⟨g, 0, none⟩)) (hy : a.eval y = .agg cells)
    (t : TypeId) (old : Array Value) (hg : w.heap[g]? = some (.cells old t (0, 0))) (hi : (P.info? ty).map (·.size) = some cells.size)
    (hold : old.size = cells.size) (h1 : cells.all (·.oneCell') = true)
    (h : ∀ w', w'.heap[g]? = some (.cells cells t (0, 0)) → w.grownBy w' (some g) → wpList P ops Q rest (a.put o.dst undef) w') : wpList P ops Q (o :: rest) a w :=
  wpList_store_row hgd ty x y ho g cells hx hy t old hg hi hold h1
    (h _ (setRow_heap _ _ _ _ _ _ hg) ⟨rfl, rfl, rfl, by simp, fun k _ hne => setRow_other _ _ _ _ (fun e => hne (by rw [e]))⟩)
end Go.Proofs.YtjbndfogjmfbhaaX
