/- GuestNil: the run. No condition but what each theorem says. -/
import Derived.Test.YtpjilbhhhpikaaaGreatDoorEvU20
import Derived.Test.YtpjilbhhhpikaaaGreatDoorEvG
import Derived.Test.YtpjilbhhhpikaaaGreatDoorEvEq
import Derived.Test.YtpjilbhhhpikaaaGreatDoorXErr
import Derived.Test.YtpjilbhhhpikaaaGreatDoorXIsG
import Derived.WalkKit
import Derived.OwnWalkIn
namespace Go.Ev
set_option linter.unusedVariables false
set_option linter.unusedSimpArgs false
open Go Go.Proofs Go.RowKit Go.Proofs.YtpjilbhhhpikaaaGreatDoorW.PrintWords Go.Proofs.YtpjilbhhhpikaaaGreatDoorX
theorem ifc32 : Tryz.prog.underlying 32 = some (.interface (Tryz.prog.methodsAt 32)) := by kernel_rfl
theorem cmp45 : (Tryz.prog.info? 45).map (fun i => i.comparable) = some true := by kernel_rfl
attribute [local go_sem] ifc32 cmp45
theorem size25 : (Tryz.prog.info? 25).map (·.size) = some 23 := by kernel_rfl
set_option maxHeartbeats 2000000
set_option maxRecDepth 100000
theorem page_nil (w : World) : Calls Tryz.prog 6 #[.pointer none] w fun e w' => e = .returned (.iface 45 (.int .i64 1)) ∧ w' = w := by
  refine calls_of_wp Tryz.func6 rfl ?_
  simp only [Tryz.ntmps6, List.size_toArray, List.length_cons, List.length_nil, Nat.reduceAdd, Nat.reduceSub, Array.replicate_succ, Array.replicate_zero, List.push_toArray, List.append_toArray, List.nil_append, List.cons_append]
  go_wp2
  go_ret
  exact ⟨rfl, rfl⟩
theorem run_nil1 (l : Value) (t : TypeId) (r : Option Addr) (f : Int) (w : World) : Calls Tryz.prog 7 #[.pointer none, .iface t l, .pointer r, .int .i64 f] w fun e w' => e = .returned (.tuple #[.slice none 0 0, .int .i64 0, .iface 45 (.int .i64 1)]) ∧ w' = w := by
  refine calls_of_wp Tryz.func7 rfl ?_
  simp only [Tryz.ntmps7, List.size_toArray, List.length_cons, List.length_nil, Nat.reduceAdd, Nat.reduceSub, Array.replicate_succ, Array.replicate_zero, List.push_toArray, List.append_toArray, List.nil_append, List.cons_append]
  go_wp2
  go_ret3
  exact ⟨rfl, rfl⟩
theorem run_nil2 (m : Addr) (r : Option Addr) (f : Int) (w : World) : Calls Tryz.prog 7 #[.pointer (some m), .nilIface, .pointer r, .int .i64 f] w fun e w' => e = .returned (.tuple #[.slice none 0 0, .int .i64 0, .iface 45 (.int .i64 1)]) ∧ w' = w := by
  refine calls_of_wp Tryz.func7 rfl ?_
  simp only [Tryz.ntmps7, List.size_toArray, List.length_cons, List.length_nil, Nat.reduceAdd, Nat.reduceSub, Array.replicate_succ, Array.replicate_zero, List.push_toArray, List.append_toArray, List.nil_append, List.cons_append]
  go_wp2
  go_ret3
  exact ⟨rfl, rfl⟩
theorem run_nil3 (m : Addr) (t : TypeId) (l : Value) (f : Int) (w : World) : Calls Tryz.prog 7 #[.pointer (some m), .iface t l, .pointer none, .int .i64 f] w fun e w' => e = .returned (.tuple #[.slice none 0 0, .int .i64 0, .iface 45 (.int .i64 1)]) ∧ w' = w := by
  refine calls_of_wp Tryz.func7 rfl ?_
  simp only [Tryz.ntmps7, List.size_toArray, List.length_cons, List.length_nil, Nat.reduceAdd, Nat.reduceSub, Array.replicate_succ, Array.replicate_zero, List.push_toArray, List.append_toArray, List.nil_append, List.cons_append]
  go_wp2
  go_ret3
  exact ⟨rfl, rfl⟩
theorem call_nil1 (cs : Array Value) (l : Value) (t : TypeId) (f : Int) (w : World) : Calls Tryz.prog 8 #[.pointer none, .iface t l, .agg cs, .int .i64 f, .int .u64 0, .slice none 0 0] w fun e w' => e = .returned (.tuple #[.int .u64 0, .slice none 0 0, .int .i64 0, .iface 45 (.int .i64 1)]) ∧ Below w.heap.size w w' := by
  refine calls_of_wp Tryz.func8 rfl ?_
  simp only [Tryz.ntmps8, List.size_toArray, List.length_cons, List.length_nil, Nat.reduceAdd, Nat.reduceSub, Array.replicate_succ, Array.replicate_zero, List.push_toArray, List.append_toArray, List.nil_append, List.cons_append]
  go_wp2
  try simp only [Exit.inBlock, Exit.then]
  refine bodyPost_ret (results_list (rs := [.tmp 12, .tmp 13, .tmp 14, .tmp 15]) rfl (by simp) (.tmp (.tmp (.tmp (.tmp .nil))))) rfl ?_
  exact ⟨rfl, (Below.refl _ w).alloc (Nat.le_refl _) _⟩
theorem call_nil2 (cs : Array Value) (m : Addr) (f : Int) (w : World) : Calls Tryz.prog 8 #[.pointer (some m), .nilIface, .agg cs, .int .i64 f, .int .u64 0, .slice none 0 0] w fun e w' => e = .returned (.tuple #[.int .u64 0, .slice none 0 0, .int .i64 0, .iface 45 (.int .i64 1)]) ∧ Below w.heap.size w w' := by
  refine calls_of_wp Tryz.func8 rfl ?_
  simp only [Tryz.ntmps8, List.size_toArray, List.length_cons, List.length_nil, Nat.reduceAdd, Nat.reduceSub, Array.replicate_succ, Array.replicate_zero, List.push_toArray, List.append_toArray, List.nil_append, List.cons_append]
  go_wp2
  try simp only [Exit.inBlock, Exit.then]
  refine bodyPost_ret (results_list (rs := [.tmp 12, .tmp 13, .tmp 14, .tmp 15]) rfl (by simp) (.tmp (.tmp (.tmp (.tmp .nil))))) rfl ?_
  exact ⟨rfl, (Below.refl _ w).alloc (Nat.le_refl _) _⟩
theorem page_nilO (p : Option Addr) (h : p = none) (w : World) : Calls Tryz.prog 6 #[.pointer p] w fun e w' => e = .returned (.iface 45 (.int .i64 1)) ∧ w' = w := by subst h; exact page_nil w
theorem run_nilO (m r : Option Addr) (l : Value) (f : Int) (h : (m = none ∧ ∃ t v, l = .iface t v) ∨ (∃ a, m = some a ∧ l = .nilIface) ∨ (∃ a t v, m = some a ∧ l = .iface t v ∧ r = none)) (w : World) : Calls Tryz.prog 7 #[.pointer m, l, .pointer r, .int .i64 f] w fun e w' => e = .returned (.tuple #[.slice none 0 0, .int .i64 0, .iface 45 (.int .i64 1)]) ∧ w' = w := by
  rcases h with ⟨rfl, t, v, rfl⟩ | ⟨a, rfl, rfl⟩ | ⟨a, t, v, rfl, rfl, rfl⟩
  · exact run_nil1 v t r f w
  · exact run_nil2 a r f w
  · exact run_nil3 a t v f w
theorem call_nilO (cs : Array Value) (m : Option Addr) (l : Value) (f : Int) (h : (m = none ∧ ∃ t v, l = .iface t v) ∨ (∃ a, m = some a ∧ l = .nilIface)) (w : World) : Calls Tryz.prog 8 #[.pointer m, l, .agg cs, .int .i64 f, .int .u64 0, .slice none 0 0] w fun e w' => e = .returned (.tuple #[.int .u64 0, .slice none 0 0, .int .i64 0, .iface 45 (.int .i64 1)]) ∧ Below w.heap.size w w' := by
  rcases h with ⟨rfl, t, v, rfl⟩ | ⟨a, rfl, rfl⟩
  · exact call_nil1 cs v t f w
  · exact call_nil2 cs a f w
section
variable {P : Program} {ops : Array Oper} {rest : List Oper} {o : Oper} {a : Act} {w : World} {Q : Exit → Act → World → Prop}
theorem load_row_g (hw : Region.wanted o (yielded ops a.tmps) = true) (ty : TypeId) (x : Operand) (ho : o.op = .load ty x)
    (g : Nat) (hx : a.eval x = .pointer (some ⟨g, 0, none⟩)) (t : TypeId) (cs : Array Value) (fr : Nat × Nat) (d : TypeDesc) (hg : w.heap[g]? = some (.cells cs t fr))
    (hu : P.underlying ty = some d) (hd : (match d with | .struct _ | .array _ _ => true | _ => false) = true) (hi : (P.info? ty).map (·.size) = some cs.size)
    (h : wpList P ops Q rest (a.put o.dst (.agg cs)) w) : wpList P ops Q (o :: rest) a w := by
  unfold wpList
  rw [if_pos hw]
  exact .inl (wp_load_row ty x ho g hx t cs fr d hg hu hd hi h)
theorem store_box (hgd : o.guard = none) (ty : TypeId) (x y : Operand) (ho : o.op = .store ty x y)
    (g : Nat) (cells : Array Value) (hx : a.eval x = .pointer (some ⟨g, 0, none⟩)) (hy : a.eval y = .agg cells)
    (t : TypeId) (old : Array Value) (hg : w.heap[g]? = some (.cells old t (0, 0))) (hi : (P.info? ty).map (·.size) = some cells.size)
    (hold : old.size = cells.size) (h1 : cells.all (·.oneCell') = true)
    (h : ∀ w', w'.heap[g]? = some (.cells cells t (0, 0)) → w.grownBy w' (some g) → wpList P ops Q rest (a.put o.dst undef) w') : wpList P ops Q (o :: rest) a w :=
  wpList_store_row hgd ty x y ho g cells hx hy t old hg hi hold h1
    (h _ (setRow_heap _ _ _ _ _ _ hg) ⟨rfl, rfl, rfl, by simp, fun k _ hne => setRow_other _ _ _ _ (fun e => hne (by rw [e]))⟩)
end
theorem guestNil_any (cs : Array Value) (hsz : cs.size = 23) (hone : cs.all (·.oneCell') = true) (heq : ∀ W : World, (Op.equalIn 10000 25 (.agg cs) (.agg cs)).run Tryz.prog W = .ok true W) (f : Int) (w : World) (hG : ErrTy w) : Calls Tryz.prog 3 #[.agg cs, .int .i64 f] w fun e w' => e = .returned (.bool true) ∧ Below w.heap.size w w' := by
  have cU : ∀ W : World, Calls Tryz.prog 4 #[] W _ := fun W => closed_true up20 W
  have hszI : (Tryz.prog.info? 25).map (·.size) = some cs.size := size25.trans (congrArg some hsz.symm)
  refine calls_of_wp Tryz.func3 rfl ?_
  simp only [Tryz.ntmps3, List.size_toArray, List.length_cons, List.length_nil, Nat.reduceAdd, Nat.reduceSub, Array.replicate_succ, Array.replicate_zero, List.push_toArray, List.append_toArray, List.nil_append, List.cons_append]
  go_wp2_with (first
    | (go_at_call 4; refine (cU _).mono ?_; rintro e w1 ⟨rfl, hb1⟩
       have h1 := (hb1.block w.heap.size (by simp)).trans (World.alloc_heap_new w _)
       have hlt1 : w.heap.size < w1.heap.size := (Array.getElem?_eq_some_iff.mp h1).1
       have hbel1 : Below w.heap.size w w1 := ((Below.refl _ w).alloc (Nat.le_refl _) _).trans (hb1.mono (by simp)))
    | (go_at_call 5; refine (both_page _).mono ?_; rintro e w2 ⟨pa, pb, rfl, hb2, hpg⟩
       have h2 := (hb2.block _ hlt1).trans h1
       have hlt2 : w.heap.size < w2.heap.size := (Array.getElem?_eq_some_iff.mp h2).1
       have hbel2 : Below w.heap.size w w2 := hbel1.trans (hb2.mono (by omega)))
    | (refine wpList_load_row rfl 25 _ rfl w.heap.size rfl 25 _ (0, 0) _ (by first | exact h8a | exact h6a | exact h5a | ((repeat (refine (Below.heap_alloc _ _ _ (by first | omega | (simp; omega))).trans ?_)); exact h3) | exact h2) Tryz.underlying25 rfl hszI ?_)
    | (refine store_box rfl 25 _ _ rfl w2.heap.size _ rfl rfl 25 _ (World.alloc_heap_new w2 _) hszI (by rw [hsz]; rfl) hone ?_; intro w4 h4 hg4
       have h3 : w4.heap[w.heap.size]? = _ := (hg4.block w.heap.size (by simp; omega) (by simp; omega)).trans ((Below.heap_alloc _ _ _ hlt2).trans h2)
       have hlt4 : w2.heap.size < w4.heap.size := (Array.getElem?_eq_some_iff.mp h4).1
       have hs2 : Below w2.heap.size w2 w4 := ((Below.refl _ w2).alloc (Nat.le_refl _) _).grown hg4 (by simp) (fun k e => by cases e; omega)
       have hbel4 : Below w.heap.size w w4 := hbel2.trans (hs2.mono (by omega)))
    | (go_at_call 6; refine Calls.mono (page_nilO _ ?_ _) ?_; exact rfl; rintro e w' ⟨rfl, rfl⟩)
    | (go_at_call 7; refine Calls.mono (run_nilO _ _ _ _ ?_ _) ?_; (first | exact .inl ⟨rfl, _, _, rfl⟩ | exact .inr (.inl ⟨_, rfl, rfl⟩) | exact .inr (.inr ⟨_, _, _, rfl, rfl, rfl⟩)); rintro e w' ⟨rfl, rfl⟩)
    | (go_at_call 8; refine Calls.mono (call_nilO _ _ _ _ ?_ _) ?_; exact .inl ⟨rfl, _, _, rfl⟩; rintro e w5 ⟨rfl, hb5⟩
       have h5a : w5.heap[w.heap.size]? = some (.cells cs 25 (0, 0)) := (hb5.block _ (by first | omega | (simp; omega))).trans (by (repeat (refine (Below.heap_alloc _ _ _ (by first | omega | (simp; omega))).trans ?_)); exact h3)
       have h5b : w5.heap[w2.heap.size]? = some (.cells cs 25 (0, 0)) := (hb5.block _ (by first | omega | (simp; omega))).trans (by (repeat (refine (Below.heap_alloc _ _ _ (by first | omega | (simp; omega))).trans ?_)); exact h4)
       have hs5 : Below w2.heap.size w2 w5 := (((hs2.alloc (by first | omega | (simp; omega)) _).alloc (by first | omega | (simp; omega)) _).alloc (by first | omega | (simp; omega)) _).trans (hb5.mono (by first | omega | (simp; omega)))
       have hlt5 : w2.heap.size < w5.heap.size := (Array.getElem?_eq_some_iff.mp h5b).1)
    | (go_at_call 8; refine Calls.mono (call_nilO _ _ _ _ ?_ _) ?_; exact .inr ⟨_, rfl, rfl⟩; rintro e w6 ⟨rfl, hb6⟩
       have h6a : w6.heap[w.heap.size]? = some (.cells cs 25 (0, 0)) := (hb6.block _ (by omega)).trans h5a
       have h6b : w6.heap[w2.heap.size]? = some (.cells cs 25 (0, 0)) := (hb6.block _ hlt5).trans h5b
       have hs6 : Below w2.heap.size w2 w6 := hs5.trans (hb6.mono (by omega))
       have hlt6 : w2.heap.size < w6.heap.size := (Array.getElem?_eq_some_iff.mp h6b).1)
    | (go_at_call 6; refine (hpg _ hs6).mono ?_; rintro e w7 ⟨sb, so, rfl, k0, k1, q1, q2, q3, q4, q5⟩
       have h7a : w7.heap[w.heap.size]? = some (.cells cs 25 (0, 0)) := (q5 _ (by omega) (.inl hlt1)).trans h6a
       have h7b : w7.heap[w2.heap.size]? = some (.cells cs 25 (0, 0)) := (q5 _ hlt6 (.inr (Nat.le_refl _))).trans h6b
       have hb7 : Below w.heap.size w6 w7 := ⟨q1, q2, q3, q4, fun j hj => q5 j (by omega) (.inl (by omega))⟩
       have hbel7 : Below w.heap.size w w7 := (hbel2.trans (hs6.mono (by omega))).trans hb7)
    | (go_at_call 9; refine (isF_spotG sb so 1879048192 8 1879048192 8 w7 (hG.below hbel7) k0 k1).mono ?_; rintro e w8 ⟨rfl, hb8⟩
       have h8a : w8.heap[w.heap.size]? = some (.cells cs 25 (0, 0)) := (hb8.block _ (by have := (Array.getElem?_eq_some_iff.mp h7a).1; omega)).trans h7a
       have h8b : w8.heap[w2.heap.size]? = some (.cells cs 25 (0, 0)) := (hb8.block _ (by have := (Array.getElem?_eq_some_iff.mp h7b).1; omega)).trans h7b
       have hbel8 : Below w.heap.size w w8 := hbel7.trans (hb8.mono (by have := (Array.getElem?_eq_some_iff.mp h7a).1; omega)))
    | (refine eq_same_g (by rfl) 25 _ _ rfl _ rfl rfl (heq _) Tryz.eqGuardType25 ?_)
    | (refine load_row_g (by rfl) 25 _ rfl w2.heap.size rfl 25 _ (0, 0) _ h8b Tryz.underlying25 rfl hszI ?_)
    | (refine load_row_g (by rfl) 25 _ rfl w.heap.size rfl 25 _ (0, 0) _ h8a Tryz.underlying25 rfl hszI ?_))
  go_ret
  exact ⟨rfl, hbel8⟩
end Go.Ev
