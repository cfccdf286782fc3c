/- maps.Keys at keys of uint64 (this program's), its iterator, slices.AppendSeq, slices.Collect: walked; whatever order the keys come in. No condition but what each theorem says. -/
import Derived.Test.YtpjilbhhhpikaaaGreatEvK
import Derived.Test.YtpjilbhhhpikaaaGreatProg
import Derived.RangeFuncFrom
import Derived.RangeFuncGives
import Derived.WalkKit
import Derived.OwnWalkIn
import Derived.TacticsInMore
import Derived.RegionIn
import Derived.LoopNIn
import Derived.LoopIn
namespace Go.Ev
set_option linter.unusedVariables false
set_option linter.unusedSimpArgs false
open Go Go.Proofs Go.RowKit
set_option maxRecDepth 100000 in
set_option maxHeartbeats 1000000 in
theorem keys_it (n : Nat) (l Bm off b clock : Nat) (es : Array MapEntry) (hu : ∀ x ∈ es.toList, ∃ z, x.key = n64 z) (hc : ∀ x ∈ es.toList, x.born < clock) (hnd : (es.toList.map (·.born)).Nodup) (J Jx : List Int → World → Prop)
    (hY : ∀ pre x W, J pre W → pre.length < es.size → YieldAt Fence.wide (n - 1) Tryz.prog l #[n64 x] W fun e W' => (e = .returned (.bool true) ∧ J (pre ++ [x]) W' ∧ KeepsWalks W W') ∨ (e = .returned (.bool false) ∧ Jx (pre ++ [x]) W'))
    (W : World) (hJ : AbidesFrom W.heap.size J) (hm : W.cell? ⟨Bm, off, none⟩ = some (.map (some b))) (hb : W.heap[b]? = some (.map es clock)) (h0 : J [] W) :
    CallsIn Fence.wide n Tryz.prog 103 #[.func (.yield l) #[] #[], .pointer (some ⟨Bm, off, none⟩)] W fun e W' => (∃ v, e = .returned v) ∧ ((∃ ss : List Int, (ss.map n64).Perm (es.toList.map (·.key)) ∧ J ss W') ∨ (∃ pre : List Int, True ∧ Jx pre W')) := by
  have hf : Fence.wide.fn 103 := trivial
  have hro : Fence.wide.round = none := rfl
  refine callsIn_of_wp Tryz.func103 rfl hf ?_ hro
  simp only [Tryz.ntmps103, List.size_toArray, List.length_cons, List.length_nil, Nat.reduceAdd, Nat.reduceSub, Array.replicate_succ, Array.replicate_zero, List.push_toArray, List.append_toArray, List.nil_append, List.cons_append]
  gi_wp2_with (first
    | (gi_at_range; refine wpListIn_range_raw _ rfl _ 102 rfl 22 113 (by kernel_rfl) b clock es rfl hb hc hnd ?_; intro w0 hrg0 hg0 hs0)
    | gi_in)
  go_frame
  gi_loopw [3] (fun _ wr => ∃ (ss : List Int), Rng wr b W.heap.size clock es ss ∧ J ss wr)
    (fun _ wr => wr.rangeLeft b W.heap.size)
  case atStart =>
    exact ⟨[], hrg0, hJ [] W w0 none h0 hg0 (fun r e => by cases e)⟩
  case round =>
    obtain ⟨ss, hrg, hJs⟩ := hrel
    gi_wp2_with (first
      | (gi_at_next; refine wpListIn_next_raw _ rfl _ rfl b W.heap.size clock es ss hu rfl hrg ?_ ?_)
      | gi_in)
    · intro hp0
      gi_wp2
      go_end0
      exact ⟨⟨_, rfl⟩, .inl ⟨ss, hp0, hJs⟩⟩
    · intro x v w2 hrg2 hg2 hs2 hen hlt
      have hJ2 : J ss w2 := hJ ss wr w2 (some W.heap.size) hJs hg2 (fun r e => by cases e; exact ⟨Nat.le_refl _, hrg.iter_walk⟩)
      obtain ⟨fn, tmps, assign, body, hy, hR⟩ := hY ss x w2 hJ2 hlt
      clear hs2
      gi_wp2
      refine ⟨(fun h => by cases h), hR.mono ?_⟩
      rintro e W3 (⟨rfl, hJ3, hk3⟩ | ⟨rfl, hJx3⟩)
      · gi_wp2
        have hrg3 := hrg2.of_walks hk3
        go_roundw
        case rel => exact ⟨ss ++ [x], hrg3, hJ3⟩
        case measure => have h1 := hrg3.left_le; have h2 := hrg.left_le; simp at h1; omega
      · gi_wp2
        refine bodyPost_ret (results_none rfl _ _ _) rfl ?_
        exact ⟨⟨_, rfl⟩, .inr ⟨ss ++ [x], trivial, hJx3⟩⟩
theorem keys_stops (n : Nat) (Bm off b clock : Nat) (es : Array MapEntry) (hu : ∀ x ∈ es.toList, ∃ z, x.key = n64 z) (hc : ∀ x ∈ es.toList, x.born < clock) (hnd : (es.toList.map (·.born)).Nodup) (w : World) (hBm : Bm < w.heap.size)
    (hm : w.cell? ⟨Bm, off, none⟩ = some (.map (some b))) (hb : w.heap[b]? = some (.map es clock)) :
    SeqStopsK Fence.wide n Tryz.prog 103 #[.pointer (some ⟨Bm, off, none⟩)] (fun x : Int => #[n64 x]) KeepsWalks (fun ss => (ss.map n64).Perm (es.toList.map (·.key))) (fun _ => True) es.size w := fun l J Jx W hW hJ _ hY h0 =>
  keys_it n l Bm off b clock es hu hc hnd J Jx hY W hJ ((hW.cell (p := ⟨Bm, off, none⟩) hBm).trans hm) ((hW.block b (Array.getElem?_eq_some_iff.mp hb).1).trans hb) h0
theorem info22 : (Tryz.prog.info? 22).map (fun i => (i.zero, i.size, i.bytes)) = some (some (.int .u64 0), 1, 8) := by kernel_rfl
theorem und44 : Tryz.prog.underlying 44 = some (.slice 22) := by kernel_rfl
/-- Between two rounds. -/
def ApI (w : World) (ss : List Int) (W : World) : Prop :=
  (∃ v, W.heap[w.heap.size]? = some (.cells #[v] 44 (0, 0)) ∧ W.ownsRow w.heap.size 22 1 v ss.length (ss.map n64) ∧ (v = .slice none 0 0 ↔ ss = [])) ∧ Below w.heap.size w W
theorem ownsRow_ne_nc {W : World} {base : Nat} {e : TypeId} {size : Nat} {v : Value} {k : Nat} {xs : List Value} (h : W.ownsRow base e size v k xs) {row : Option Nat} (hr : ∀ r, row = some r → ∃ o : Obj, W.heap[r]? = some o ∧ o.isCells = false) :
    v.ownBlock = none ∨ v.ownBlock ≠ row := by
  rcases h.2 with ⟨rfl, _⟩ | ⟨g, cap, cur, rfl, _, hgb, _⟩
  · exact .inl rfl
  · refine .inr fun e' => ?_
    obtain ⟨o, ho, hw⟩ := hr g (by simpa [Value.ownBlock] using e'.symm)
    rw [hgb] at ho; cases ho; cases hw
theorem ap_own (w : World) (B : Nat) (hB : w.heap.size ≤ B) : OwnFrom B (ApI w) := fun s W W' row hs hg hr => by
  obtain ⟨⟨v, hv, hrow, hnil⟩, hb⟩ := hs
  have hr' : ∀ r, row = some r → ∃ o : Obj, W.heap[r]? = some o ∧ o.isCells = false := fun r e => (hr r e).2
  exact ⟨⟨v, (grownBy_keeps_cells hg hr' hv rfl).trans hv, hrow.kept hg (ownsRow_ne_nc hrow hr'), hnil⟩, hb.grown hg hb.size (fun k e => Nat.le_trans hB (hr k e).1)⟩
set_option maxRecDepth 100000 in
set_option maxHeartbeats 2000000 in
theorem appendSeq_in (n : Nat) (hn : 2 ≤ n) (g : Nat) (lb : Array Value) (eg : ∀ args w, (callFunc g args).run Tryz.prog w = .ok (.enter g args) w)
    (S Sp : List Int → Prop) (N : Nat) (hN : N ≤ maxLen) (hNb : N * 8 ≤ 140737488355328) (w : World) (hseq : ∀ W, Below w.heap.size w W → SeqStopsK Fence.wide (n - 1) Tryz.prog g lb (fun x : Int => #[n64 x]) KeepsWalks S Sp N W) :
    CallsIn Fence.wide n Tryz.prog 121 #[.slice none 0 0, .func (.func g) #[] lb] w fun e w' => ∃ (v : Value) (ss : List Int), e = .returned v ∧ S ss ∧ w'.ownsRow w.heap.size 22 1 v ss.length (ss.map n64) ∧ (v = .slice none 0 0 ↔ ss = []) ∧ Below w.heap.size w w' := by
  have hf : Fence.wide.fn 121 := trivial
  have hro : Fence.wide.round = none := rfl
  obtain ⟨i0, hi, hz0, hz1, hz2⟩ := info_parts info22
  refine callsIn_of_wp_marks Tryz.func121 rfl hf ?_ hro
  simp only [Tryz.ntmps121, List.size_toArray, List.length_cons, List.length_nil, Nat.reduceAdd, Nat.reduceSub, Array.replicate_succ, Array.replicate_zero, List.push_toArray, List.append_toArray, List.nil_append, List.cons_append]
  gi_wp2
  obtain ⟨W0, hW0⟩ : ∃ W0, w.alloc (.cells #[.slice none 0 0] 44) = W0 := ⟨_, rfl⟩
  have hs0 : W0.heap.size = w.heap.size + 1 := by rw [← hW0]; simp
  have hv0 : W0.heap[w.heap.size]? = some (.cells #[.slice none 0 0] 44 (0, 0)) := by rw [← hW0]; exact World.alloc_heap_new w _
  have hb0 : Below w.heap.size w W0 := by rw [← hW0]; exact (Below.refl _ w).alloc (Nat.le_refl _) _
  rw [hW0]
  refine wpIn_rangeFunc_ownF hro (by omega) (gf := g) (lb := lb) rfl trivial eg (hseq W0 hb0) walksK_t walksK_b (Below.refl _ _) (fun _ => rfl)
    (ApI w) (fun _ _ _ => False) (ap_own w _ (by omega)) (fun _ _ _ _ _ hs _ _ => hs) ⟨⟨_, hv0, ⟨rfl, .inl ⟨rfl, rfl⟩⟩, by simp⟩, hb0⟩
    (fun x => { tmps := #[.slice none 0 0, .func (.func g) #[] lb, .pointer (some ⟨w.heap.size, 0, none⟩), undef, .slice none 0 0, n64 x, .func (.func g) #[] lb, n64 x, undef, undef, undef, undef, undef], defers := [] }) ?assign ?body ?done ?stop
  case assign =>
    intro l x W K hK
    gi_wp2_with gi_round_op_a
    exact hK
  case body =>
    rintro l ss x W ⟨⟨v, hv, hrow, hnil⟩, hb⟩ hlen
    obtain ⟨hc2, hf2⟩ := cell_of_box_a hv
    have hBlt : w.heap.size < W.heap.size := (Array.getElem?_eq_some_iff.1 hv).1
    have hne : (44 : TypeId) ≠ 22 := by decide
    have ne_of : some w.heap.size ≠ v.ownBlock := by
      rcases ownsRow_ne_a hrow hv (fun cur e => hne (Obj.cells.inj e).2.1) with e | e
      · rw [e]; simp
      · exact fun e' => e e'.symm
    gi_wp2_with (first
      | (gi_at_builtin; refine wpListIn_append_own _ rfl _ _ 44 rfl w.heap.size 22 i0 (.int .u64 0) 1 8 und44 hi hz0 hz1 hz2 rfl (by decide) _ _ _ rfl (hrow.alloc _) ⟨W.heap.size, 0, none⟩ 1 1 [n64 x] rfl rfl (cell_one_new _ _ _) (by simp [Value.oneCell', n64]) (by omega) (by omega) (by have := hb.size; simp; omega) ?_; intro v' w3 hown' hg3 hnil3
         have hv3 : w3.heap[w.heap.size]? = some (.cells #[v] 44 (0, 0)) := (hg3.block w.heap.size (by simp; omega) ne_of).trans ((Below.heap_alloc _ _ w.heap.size hBlt).trans hv)
         obtain ⟨hc3, hf3⟩ := cell_of_box_a hv3
         obtain ⟨g', cap', cur', rfl, hbase', hgb', hr1, hr2, hr3, hr4⟩ : ∃ g' cap' cur', v' = .slice (some ⟨g', 0, none⟩) (ss.length + 1) cap' ∧ w.heap.size ≤ g' ∧ w3.heap[g']? = some (.cells cur' 22 (0, 0)) ∧ ss.length + 1 ≤ cap' ∧ cap' ≤ maxLen ∧ cur'.size = cap' * 1 ∧ cur'.toList.take ((ss.length + 1) * 1) = ss.map n64 ++ [n64 x] := by
           rcases hown'.2 with ⟨_, h0⟩ | h'
           · exact absurd h0 (by omega)
           · exact h'
         go_frame)
      | gi_round_op_a)
    have hg3' : (W.alloc (.cells #[n64 x] 22)).grownBy w3 v.ownBlock := hg3
    obtain ⟨w4, hw4⟩ : ∃ w4, w3.setCell ⟨w.heap.size, 0, none⟩ (.slice (some ⟨g', 0, none⟩) (ss.length + 1) cap') = w4 := ⟨_, rfl⟩
    rw [hw4]
    have hg4 : w3.grownBy w4 (some w.heap.size) := by rw [← hw4]; exact grownBy_setCell0_a _ _ _
    have hv4 : w4.heap[w.heap.size]? = some (.cells #[.slice (some ⟨g', 0, none⟩) (ss.length + 1) cap'] 44 (0, 0)) := by rw [← hw4]; exact heap_setCell_box_a _ hv3
    have hrow4 := hown'.kept hg4 (ownsRow_ne_a hown' hv3 (fun cur e => hne (Obj.cells.inj e).2.1))
    have hb3 : Below w.heap.size w w3 := (hb.alloc hb.size _).grown hg3' (by have := hb.size; simp; omega) (fun k e => (hrow.lt k e).1)
    have hb4 : Below w.heap.size w w4 := hb3.grown hg4 hb3.size (fun k e => by cases e; omega)
    have hcells : ∀ (j : Nat) (o : Obj), v.ownBlock = some j → (W.alloc (.cells #[n64 x] 22)).heap[j]? = some o → o.isCells = true := by
      intro j o hj ho
      rcases (hrow.alloc (.cells #[n64 x] 22)).2 with ⟨rfl, _⟩ | ⟨g, cap, cur, rfl, _, hgb, _⟩
      · simp [Value.ownBlock] at hj
      · have : g = j := by simpa [Value.ownBlock] using hj
        subst this; rw [hgb] at ho; cases ho; rfl
    have hk4 : KeepsOthers W w4 := ((KeepsOthers.alloc _ _).trans (KeepsOthers.of_grownBy hg3' hcells)).trans (by rw [← hw4]; exact KeepsOthers.setCell _ _ _)
    refine ⟨hk4, hk4.walks, ⟨_, hv4, ?_, by simp⟩, hb4⟩
    simpa using hrow4
  case done =>
    rintro D ss W hD hS ⟨⟨v, hv, hrow, hnil⟩, hb⟩ hK
    obtain ⟨hc3, hf3⟩ := cell_of_box_a hv
    gi_wp2
    refine ⟨by simp, .inl ⟨_, _, rfl, run_takeDeferred hK, ?_⟩⟩
    refine ⟨_, results_tmp rfl _ _ _, v, ss, rfl, hS, hrow.kept (grownBy_putObj_a _ _ _) (ownsRow_ne_a hrow hK (fun cur e => by cases e)), hnil, hb.grown (grownBy_putObj_a _ _ _) hb.size (fun k e => by cases e; omega)⟩
  case stop =>
    rintro D c pre W hD hSp hf hK
    exact hf.elim
set_option maxHeartbeats 1000000 in
theorem collect_in (n : Nat) (hn : 3 ≤ n) (g : Nat) (lb : Array Value) (eg : ∀ args w, (callFunc g args).run Tryz.prog w = .ok (.enter g args) w)
    (S Sp : List Int → Prop) (N : Nat) (hN : N ≤ maxLen) (hNb : N * 8 ≤ 140737488355328) (w : World) (hseq : ∀ m W, Below w.heap.size w W → SeqStopsK Fence.wide m Tryz.prog g lb (fun x : Int => #[n64 x]) KeepsWalks S Sp N W) :
    CallsIn Fence.wide n Tryz.prog 101 #[.func (.func g) #[] lb] w fun e w' => ∃ (v : Value) (ss : List Int), e = .returned v ∧ S ss ∧ w'.ownsRow w.heap.size 22 1 v ss.length (ss.map n64) ∧ (v = .slice none 0 0 ↔ ss = []) ∧ Below w.heap.size w w' := by
  have hf : Fence.wide.fn 101 := trivial
  have hf' : Fence.wide.fn 121 := trivial
  have hro : Fence.wide.round = none := rfl
  have h1 : 1 ≤ n := by omega
  have cA := appendSeq_in (n - 1) (by omega) g lb eg S Sp N hN hNb w (fun W hW => hseq _ W hW)
  refine callsIn_of_wp Tryz.func101 rfl hf ?_ hro
  simp only [Tryz.ntmps101, List.size_toArray, List.length_cons, List.length_nil, Nat.reduceAdd, Nat.reduceSub, Array.replicate_succ, Array.replicate_zero, List.push_toArray, List.append_toArray, List.nil_append, List.cons_append]
  gi_wp2_with (gi_at_call 121; refine cA.mono ?_; rintro e w' ⟨v, ss, rfl, hS, hrow, hnil, hb⟩)
  go_ret
  exact ⟨v, ss, rfl, hS, hrow, hnil, hb⟩
end Go.Ev
