/- A map's keys, one by one, in whatever order: what is told of a range under way by lists of entries alone. No condition but what each theorem says. -/
import Derived.Maps.RangeWalk
import Derived.Sort.MapsRangeIn
import Derived.Shelf.SlIter.Collect
import Derived.Test.YtpjilbhhhpikaaaGreatDoorProg
import Derived.RangeFuncFrom
import Derived.RangeFuncGives
import Derived.WalkKit
import Derived.OwnWalkIn
import Derived.TacticsInMore
import Derived.RegionIn
import Derived.LoopNIn
import Derived.LoopIn
import Derived.Test.YtpjilbhhhpikaaaGreatDoorEvDM
import Derived.Test.YtpjilbhhhpikaaaGreatDoorEvPO
namespace Go.Ev
set_option linter.unusedVariables false
set_option linter.unusedSimpArgs false
open Go Go.Proofs Go.ChangeMaps Go.RowKit
abbrev n64 (z : Int) : Value := .int .u64 z
theorem filter_step {e : MapEntry} {p : MapEntry → Bool} : ∀ (l : List MapEntry), (l.map (·.born)).Nodup → e ∈ l → p e = true → (l.filter p).Perm (e :: l.filter (fun x => p x && !(x.born == e.born)))
  | [], _, he, _ => by cases he
  | a :: l, hn, he, hp => by
    rw [List.map_cons, List.nodup_cons] at hn
    obtain ⟨ha, hn⟩ := hn
    rcases List.mem_cons.mp he with rfl | he
    · have : l.filter (fun x => p x && !(x.born == e.born)) = l.filter p := List.filter_congr fun x hx => by
        have : x.born ≠ e.born := fun c => ha (List.mem_map.mpr ⟨x, hx, c⟩)
        simp [this]
      rw [List.filter_cons, if_pos hp, List.filter_cons, this]
      simp
    · have hne : a.born ≠ e.born := fun c => ha (List.mem_map.mpr ⟨e, he, c.symm⟩)
      have ih := filter_step l hn he hp
      rw [List.filter_cons, List.filter_cons]
      have h2 : (p a && !(a.born == e.born)) = p a := by simp [hne]
      rw [h2]
      split
      · exact (ih.cons a).trans (List.Perm.swap _ _ _)
      · exact ih
/-- A range under way over block b: ss has come. -/
def Rng (w : World) (b r clock : Nat) (es : Array MapEntry) (ss : List Int) : Prop :=
  ∃ since seen c0, w.heap[b]? = some (.map es clock) ∧ w.heap[r]? = some (.mapIter (some b) since seen c0) ∧ (∀ x ∈ es.toList, x.born < since) ∧ since ≤ c0 ∧ since ≤ clock ∧ (es.toList.map (·.born)).Nodup ∧
    (ss.map n64 ++ (leftOf es seen).toList.map (·.key)).Perm (es.toList.map (·.key))
theorem Rng.left_le {w : World} {b r clock : Nat} {es : Array MapEntry} {ss : List Int} (h : Rng w b r clock es ss) : ss.length + w.rangeLeft b r = es.size := by
  obtain ⟨since, seen, c0, hb, hr, _, _, _, _, hp⟩ := h
  have := hp.length_eq
  simp only [World.rangeLeft, hb, hr]
  simpa using this
theorem Rng.iter_walk {w : World} {b r clock : Nat} {es : Array MapEntry} {ss : List Int} (h : Rng w b r clock es ss) : ∃ o : Obj, w.heap[r]? = some o ∧ o.isWalk = true := by
  obtain ⟨since, seen, c0, _, hr, _⟩ := h
  exact ⟨_, hr, rfl⟩
theorem Rng.of_walks {w w' : World} {b r clock : Nat} {es : Array MapEntry} {ss : List Int} (h : Rng w b r clock es ss) (hk : KeepsWalks w w') : Rng w' b r clock es ss := by
  obtain ⟨since, seen, c0, hb, hr, rest⟩ := h
  exact ⟨since, seen, c0, hk.same b _ hb rfl, hk.same r _ hr rfl, rest⟩
variable {P : Program}
theorem Rng.next {w : World} {b r clock : Nat} {es : Array MapEntry} {ss : List Int} (h : Rng w b r clock es ss) (hu : ∀ x ∈ es.toList, ∃ z, x.key = n64 z) (ty : TypeId) :
    ((ss.map n64).Perm (es.toList.map (·.key)) ∧ (Instr.next (.pointer (some ⟨r, 0, none⟩)) false ty).run P w = .ok (.tuple #[.bool false]) w) ∨
    ∃ (x : Int) (v : Value) (w' : World), (Instr.next (.pointer (some ⟨r, 0, none⟩)) false ty).run P w = .ok (.tuple #[.bool true, n64 x, v]) w' ∧ Rng w' b r clock es (ss ++ [x]) ∧ w.grownBy w' (some r) ∧ w'.heap.size = w.heap.size ∧
      (Instr.entry (.pointer (some ⟨r, 0, none⟩))).run P w' = .ok (.tuple #[n64 x, v]) w' ∧ ss.length < es.size := by
  have hl := h.left_le
  obtain ⟨since, seen, c0, hb, hr, hold, hsc, hcl, hn, hp⟩ := h
  have hne : b ≠ r := fun e => by rw [e, hr] at hb; cases hb
  rcases run_next_at (P := P) w ty r b since c0 seen es clock hr hb hold hsc with ⟨h0, hrun⟩ | ⟨e, he, w1, hal, hrun⟩
  · refine .inl ⟨?_, hrun⟩
    have : leftOf es seen = #[] := Array.eq_empty_of_size_eq_zero h0
    rw [this] at hp
    simpa using hp
  · have he' : e ∈ es.toList ∧ seen.contains e.born = false := by
      unfold leftOf at he
      simpa [Array.mem_filter] using he
    obtain ⟨x, hx⟩ := hu e he'.1
    have hw1 : w1.heap = w.heap := by rcases hal with rfl | rfl <;> rfl
    have hrl : r < w1.heap.size := by rw [hw1]; exact (Array.getElem?_eq_some_iff.mp hr).1
    have hsb : (setBlock w1 r (.mapIter (some b) since (seen.push e.born) clock)).heap[b]? = some (.map es clock) := by
      show (w1.heap.setIfInBounds r _)[b]? = _
      rw [Array.getElem?_setIfInBounds, if_neg (Ne.symm hne), hw1]; exact hb
    have hsr : (setBlock w1 r (.mapIter (some b) since (seen.push e.born) clock)).heap[r]? = some (.mapIter (some b) since (seen.push e.born) clock) := by
      show (w1.heap.setIfInBounds r _)[r]? = _
      rw [Array.getElem?_setIfInBounds, if_pos rfl, if_pos hrl]
    refine .inr ⟨x, e.val, _, by rw [← hx]; exact hrun, ⟨since, seen.push e.born, clock, hsb, hsr, hold, hcl, hcl, hn, ?_⟩, ?_, ?_, ?_, ?_⟩
    · have hq : (leftOf es seen).toList.Perm (e :: (leftOf es (seen.push e.born)).toList) := by
        unfold leftOf
        rw [Array.toList_filter, Array.toList_filter]
        have := filter_step (p := fun x => !seen.contains x.born) es.toList hn he'.1 (by show (!seen.contains e.born) = true; rw [he'.2]; rfl)
        refine this.trans (List.Perm.of_eq ?_)
        congr 1
        refine List.filter_congr fun y _ => ?_
        show (!seen.contains y.born && !(y.born == e.born)) = !(seen.push e.born).contains y.born
        rw [Array.contains_push, Bool.not_or, Bool.and_comm]
      have h2 := hq.map (·.key)
      refine List.Perm.trans ?_ hp
      rw [List.map_append, List.append_assoc]
      refine List.Perm.append_left _ ?_
      refine List.Perm.trans ?_ h2.symm
      simp only [List.map_cons, List.map_nil, List.cons_append, List.nil_append, hx]
      exact List.Perm.refl _
    · refine ⟨by rcases hal with rfl | rfl <;> rfl, by rcases hal with rfl | rfl <;> rfl, by rcases hal with rfl | rfl <;> rfl, by show w.heap.size ≤ (w1.heap.setIfInBounds r _).size; rw [Array.size_setIfInBounds, hw1]; exact Nat.le_refl _, fun k hk hkr => ?_⟩
      show (w1.heap.setIfInBounds r _)[k]? = _
      rw [Array.getElem?_setIfInBounds, if_neg (fun c => hkr (by rw [c])), hw1]
    · show (w1.heap.setIfInBounds r _).size = _
      rw [Array.size_setIfInBounds, hw1]
    · rw [← hx]; exact run_entry_at _ r b since seen es clock e hsr hsb he'.1 hn
    · have : 0 < (leftOf es seen).size := by
        rcases Nat.eq_zero_or_pos (leftOf es seen).size with h0 | h0
        · have := Array.eq_empty_of_size_eq_zero h0
          rw [this] at he; simp at he
        · exact h0
      have h3 : w.rangeLeft b r = (leftOf es seen).size := by simp only [World.rangeLeft, hb, hr]
      omega
section
variable {F : Fence} {n : Nat} (w : World) {ops : Array Oper} {rest : List Oper} {o : Oper} {a : Act} {Q : Exit → Act → World → Prop}
theorem wpListIn_range_raw (hg : o.guard = none) (m : Operand) (t : TypeId) (hop : o.op = Op.range t m) (k e : TypeId) (ht : P.underlying t = some (.map k e)) (b clock : Nat) (es : Array MapEntry)
    (hm : a.eval m = .map (some b)) (hb : w.heap[b]? = some (.map es clock)) (hc : ∀ x ∈ es.toList, x.born < clock) (hn : (es.toList.map (·.born)).Nodup)
    (hK : ∀ w', Rng w' b w.heap.size clock es [] → w.grownBy w' none → w'.heap.size = w.heap.size + 1 → wpListIn F n P ops Q rest (a.put o.dst (.pointer (some ⟨w.heap.size, 0, none⟩))) w') :
    wpListIn F n P ops Q (o :: rest) a w := by
  refine wpListIn_plain hg fun K' hK' => ?_
  have hrun := run_range_map w t k e b es clock ht hb
  have hlt : b < w.heap.size := (Array.getElem?_eq_some_iff.mp hb).1
  have hR : Rng (w.alloc (.mapIter (some b) clock #[] clock)) b w.heap.size clock es [] :=
    ⟨clock, #[], clock, (Below.heap_alloc w _ b hlt).trans hb, World.alloc_heap_new w _, hc, Nat.le_refl _, Nat.le_refl _, hn, by
      have : leftOf es #[] = es := Array.filter_eq_self.2 fun _ _ => by simp
      rw [this]; exact List.Perm.refl _⟩
  unfold Oper.wpIn
  refine ⟨?_, ?_⟩
  · simp [Oper.about, hop]
  · rw [Oper.semAt_plain F _ _ (by rw [hop]; intro c hc'; cases hc')]
    simp [execOp, hop, hm, hrun, Result.andThen]
    exact hK' _ _ (hK _ hR (World.grownBy_alloc w _ none) (by simp))
theorem wpListIn_next_raw (hg : o.guard = none) (it : Operand) (hop : o.op = Op.next it false) (b r clock : Nat) (es : Array MapEntry) (ss : List Int) (hu : ∀ x ∈ es.toList, ∃ z, x.key = n64 z)
    (hit : a.eval it = .pointer (some ⟨r, 0, none⟩)) (h : Rng w b r clock es ss)
    (hDone : (ss.map n64).Perm (es.toList.map (·.key)) → wpListIn F n P ops Q rest (a.put o.dst (.tuple #[.bool false])) w)
    (hMore : ∀ (x : Int) (v : Value) (w' : World), Rng w' b r clock es (ss ++ [x]) → w.grownBy w' (some r) → w'.heap.size = w.heap.size → (Instr.entry (.pointer (some ⟨r, 0, none⟩))).run P w' = .ok (.tuple #[n64 x, v]) w' →
      ss.length < es.size → wpListIn F n P ops Q rest (a.put o.dst (.tuple #[.bool true, n64 x, v])) w') :
    wpListIn F n P ops Q (o :: rest) a w := by
  refine wpListIn_plain hg fun K' hK' => ?_
  unfold Oper.wpIn
  refine ⟨by simp [Oper.about, hop], ?_⟩
  rw [Oper.semAt_plain F _ _ (by rw [hop]; intro c hc'; cases hc')]
  rcases h.next (P := P) hu o.type with ⟨h0, hrun⟩ | ⟨x, v, w', hrun, h1, h2, h3, h4, h5⟩
  · simp [execOp, hop, hit, hrun, Result.andThen]
    exact hK' _ _ (hDone h0)
  · simp [execOp, hop, hit, hrun, Result.andThen]
    exact hK' _ _ (hMore x v w' h1 h2 h3 h4 h5)
end
end Go.Ev
/- maps.Keys at keys of uint64 (this program's), its iterator, slices.AppendSeq, slices.Collect: walked; whatever order the keys come in. No condition but what each theorem says. -/
namespace Go.Ev
set_option linter.unusedVariables false
set_option linter.unusedSimpArgs false
open Go Go.Proofs Go.RowKit
set_option maxRecDepth 100000 in
set_option maxHeartbeats 1000000 in
theorem keys_it (n : Nat) (l Bm off b clock : Nat) (es : Array MapEntry) (hu : ∀ x ∈ es.toList, ∃ z, x.key = n64 z) (hc : ∀ x ∈ es.toList, x.born < clock) (hnd : (es.toList.map (·.born)).Nodup) (J Jx : List Int → World → Prop)
    (hY : ∀ pre x W, J pre W → pre.length < es.size → YieldAt Fence.wide (n - 1) Tryz.prog l #[n64 x] W fun e W' => (e = .returned (.bool true) ∧ J (pre ++ [x]) W' ∧ KeepsWalks W W') ∨ (e = .returned (.bool false) ∧ Jx (pre ++ [x]) W'))
    (W : World) (hJ : AbidesFrom W.heap.size J) (hm : W.cell? ⟨Bm, off, none⟩ = some (.map (some b))) (hb : W.heap[b]? = some (.map es clock)) (h0 : J [] W) :
    CallsIn Fence.wide n Tryz.prog 55 #[.func (.yield l) #[] #[], .pointer (some ⟨Bm, off, none⟩)] W fun e W' => (∃ v, e = .returned v) ∧ ((∃ ss : List Int, (ss.map n64).Perm (es.toList.map (·.key)) ∧ J ss W') ∨ (∃ pre : List Int, True ∧ Jx pre W')) := by
  have hf : Fence.wide.fn 55 := trivial
  have hro : Fence.wide.round = none := rfl
  refine callsIn_of_wp Tryz.func55 rfl hf ?_ hro
  simp only [Tryz.ntmps55, List.size_toArray, List.length_cons, List.length_nil, Nat.reduceAdd, Nat.reduceSub, Array.replicate_succ, Array.replicate_zero, List.push_toArray, List.append_toArray, List.nil_append, List.cons_append]
  gi_wp2_with (first
    | (gi_at_range; refine wpListIn_range_raw _ rfl _ 77 rfl 22 88 (by kernel_rfl) b clock es rfl hb hc hnd ?_; intro w0 hrg0 hg0 hs0)
    | gi_in)
  go_frame
  gi_loopw [3] (fun _ wr => ∃ (ss : List Int), Rng wr b W.heap.size clock es ss ∧ J ss wr)
    (fun _ wr => wr.rangeLeft b W.heap.size)
  case atStart =>
    exact ⟨[], hrg0, hJ [] W w0 none h0 hg0 (fun r e => by cases e)⟩
  case round =>
    obtain ⟨ss, hrg, hJs⟩ := hrel
    gi_wp2_with (first
      | (gi_at_next; refine wpListIn_next_raw _ rfl _ rfl b W.heap.size clock es ss hu rfl hrg ?_ ?_)
      | gi_in)
    · intro hp0
      gi_wp2
      go_end0
      exact ⟨⟨_, rfl⟩, .inl ⟨ss, hp0, hJs⟩⟩
    · intro x v w2 hrg2 hg2 hs2 hen hlt
      have hJ2 : J ss w2 := hJ ss wr w2 (some W.heap.size) hJs hg2 (fun r e => by cases e; exact ⟨Nat.le_refl _, hrg.iter_walk⟩)
      obtain ⟨fn, tmps, assign, body, hy, hR⟩ := hY ss x w2 hJ2 hlt
      clear hs2
      gi_wp2
      refine ⟨(fun h => by cases h), hR.mono ?_⟩
      rintro e W3 (⟨rfl, hJ3, hk3⟩ | ⟨rfl, hJx3⟩)
      · gi_wp2
        have hrg3 := hrg2.of_walks hk3
        go_roundw
        case rel => exact ⟨ss ++ [x], hrg3, hJ3⟩
        case measure => have h1 := hrg3.left_le; have h2 := hrg.left_le; simp at h1; omega
      · gi_wp2
        refine bodyPost_ret (results_none rfl _ _ _) rfl ?_
        exact ⟨⟨_, rfl⟩, .inr ⟨ss ++ [x], trivial, hJx3⟩⟩
theorem keys_stops (n : Nat) (Bm off b clock : Nat) (es : Array MapEntry) (hu : ∀ x ∈ es.toList, ∃ z, x.key = n64 z) (hc : ∀ x ∈ es.toList, x.born < clock) (hnd : (es.toList.map (·.born)).Nodup) (w : World) (hBm : Bm < w.heap.size)
    (hm : w.cell? ⟨Bm, off, none⟩ = some (.map (some b))) (hb : w.heap[b]? = some (.map es clock)) :
    SeqStopsK Fence.wide n Tryz.prog 55 #[.pointer (some ⟨Bm, off, none⟩)] (fun x : Int => #[n64 x]) KeepsWalks (fun ss => (ss.map n64).Perm (es.toList.map (·.key))) (fun _ => True) es.size w := fun l J Jx W hW hJ _ hY h0 =>
  keys_it n l Bm off b clock es hu hc hnd J Jx hY W hJ ((hW.cell (p := ⟨Bm, off, none⟩) hBm).trans hm) ((hW.block b (Array.getElem?_eq_some_iff.mp hb).1).trans hb) h0
theorem info22 : (Tryz.prog.info? 22).map (fun i => (i.zero, i.size, i.bytes)) = some (some (.int .u64 0), 1, 8) := by kernel_rfl
theorem und44 : Tryz.prog.underlying 38 = some (.slice 22) := by kernel_rfl
/-- Between two rounds. -/
def ApI (w : World) (ss : List Int) (W : World) : Prop :=
  (∃ v, W.heap[w.heap.size]? = some (.cells #[v] 38 (0, 0)) ∧ W.ownsRow w.heap.size 22 1 v ss.length (ss.map n64) ∧ (v = .slice none 0 0 ↔ ss = [])) ∧ Below w.heap.size w W
theorem ownsRow_ne_nc {W : World} {base : Nat} {e : TypeId} {size : Nat} {v : Value} {k : Nat} {xs : List Value} (h : W.ownsRow base e size v k xs) {row : Option Nat} (hr : ∀ r, row = some r → ∃ o : Obj, W.heap[r]? = some o ∧ o.isCells = false) :
    v.ownBlock = none ∨ v.ownBlock ≠ row := by
  rcases h.2 with ⟨rfl, _⟩ | ⟨g, cap, cur, rfl, _, hgb, _⟩
  · exact .inl rfl
  · refine .inr fun e' => ?_
    obtain ⟨o, ho, hw⟩ := hr g (by simpa [Value.ownBlock] using e'.symm)
    rw [hgb] at ho; cases ho; cases hw
theorem ap_own (w : World) (B : Nat) (hB : w.heap.size ≤ B) : OwnFrom B (ApI w) := fun s W W' row hs hg hr => by
  obtain ⟨⟨v, hv, hrow, hnil⟩, hb⟩ := hs
  have hr' : ∀ r, row = some r → ∃ o : Obj, W.heap[r]? = some o ∧ o.isCells = false := fun r e => (hr r e).2
  exact ⟨⟨v, (grownBy_keeps_cells hg hr' hv rfl).trans hv, hrow.kept hg (ownsRow_ne_nc hrow hr'), hnil⟩, hb.grown hg hb.size (fun k e => Nat.le_trans hB (hr k e).1)⟩
set_option maxRecDepth 100000 in
set_option maxHeartbeats 2000000 in
theorem appendSeq_in (n : Nat) (hn : 2 ≤ n) (g : Nat) (lb : Array Value) (eg : ∀ args w, (callFunc g args).run Tryz.prog w = .ok (.enter g args) w)
    (S Sp : List Int → Prop) (N : Nat) (hN : N ≤ maxLen) (hNb : N * 8 ≤ 140737488355328) (w : World) (hseq : ∀ W, Below w.heap.size w W → SeqStopsK Fence.wide (n - 1) Tryz.prog g lb (fun x : Int => #[n64 x]) KeepsWalks S Sp N W) :
    CallsIn Fence.wide n Tryz.prog 81 #[.slice none 0 0, .func (.func g) #[] lb] w fun e w' => ∃ (v : Value) (ss : List Int), e = .returned v ∧ S ss ∧ w'.ownsRow w.heap.size 22 1 v ss.length (ss.map n64) ∧ (v = .slice none 0 0 ↔ ss = []) ∧ Below w.heap.size w w' := by
  have hf : Fence.wide.fn 81 := trivial
  have hro : Fence.wide.round = none := rfl
  obtain ⟨i0, hi, hz0, hz1, hz2⟩ := info_parts info22
  refine callsIn_of_wp_marks Tryz.func81 rfl hf ?_ hro
  simp only [Tryz.ntmps81, List.size_toArray, List.length_cons, List.length_nil, Nat.reduceAdd, Nat.reduceSub, Array.replicate_succ, Array.replicate_zero, List.push_toArray, List.append_toArray, List.nil_append, List.cons_append]
  gi_wp2
  obtain ⟨W0, hW0⟩ : ∃ W0, w.alloc (.cells #[.slice none 0 0] 38) = W0 := ⟨_, rfl⟩
  have hs0 : W0.heap.size = w.heap.size + 1 := by rw [← hW0]; simp
  have hv0 : W0.heap[w.heap.size]? = some (.cells #[.slice none 0 0] 38 (0, 0)) := by rw [← hW0]; exact World.alloc_heap_new w _
  have hb0 : Below w.heap.size w W0 := by rw [← hW0]; exact (Below.refl _ w).alloc (Nat.le_refl _) _
  rw [hW0]
  refine wpIn_rangeFunc_ownF hro (by omega) (gf := g) (lb := lb) rfl trivial eg (hseq W0 hb0) walksK_t walksK_b (Below.refl _ _) (fun _ => rfl)
    (ApI w) (fun _ _ _ => False) (ap_own w _ (by omega)) (fun _ _ _ _ _ hs _ _ => hs) ⟨⟨_, hv0, ⟨rfl, .inl ⟨rfl, rfl⟩⟩, by simp⟩, hb0⟩
    (fun x => { tmps := #[.slice none 0 0, .func (.func g) #[] lb, .pointer (some ⟨w.heap.size, 0, none⟩), undef, .slice none 0 0, n64 x, .func (.func g) #[] lb, n64 x, undef, undef, undef, undef, undef], defers := [] }) ?assign ?body ?done ?stop
  case assign =>
    intro l x W K hK
    gi_wp2_with gi_round_op_a
    exact hK
  case body =>
    rintro l ss x W ⟨⟨v, hv, hrow, hnil⟩, hb⟩ hlen
    obtain ⟨hc2, hf2⟩ := cell_of_box_a hv
    have hBlt : w.heap.size < W.heap.size := (Array.getElem?_eq_some_iff.1 hv).1
    have hne : (38 : TypeId) ≠ 22 := by decide
    have ne_of : some w.heap.size ≠ v.ownBlock := by
      rcases ownsRow_ne_a hrow hv (fun cur e => hne (Obj.cells.inj e).2.1) with e | e
      · rw [e]; simp
      · exact fun e' => e e'.symm
    gi_wp2_with (first
      | (gi_at_builtin; refine wpListIn_append_own _ rfl _ _ 38 rfl w.heap.size 22 i0 (.int .u64 0) 1 8 und44 hi hz0 hz1 hz2 rfl (by decide) _ _ _ rfl (hrow.alloc _) ⟨W.heap.size, 0, none⟩ 1 1 [n64 x] rfl rfl (cell_one_new _ _ _) (by simp [Value.oneCell', n64]) (by omega) (by omega) (by have := hb.size; simp; omega) ?_; intro v' w3 hown' hg3 hnil3
         have hv3 : w3.heap[w.heap.size]? = some (.cells #[v] 38 (0, 0)) := (hg3.block w.heap.size (by simp; omega) ne_of).trans ((Below.heap_alloc _ _ w.heap.size hBlt).trans hv)
         obtain ⟨hc3, hf3⟩ := cell_of_box_a hv3
         obtain ⟨g', cap', cur', rfl, hbase', hgb', hr1, hr2, hr3, hr4⟩ : ∃ g' cap' cur', v' = .slice (some ⟨g', 0, none⟩) (ss.length + 1) cap' ∧ w.heap.size ≤ g' ∧ w3.heap[g']? = some (.cells cur' 22 (0, 0)) ∧ ss.length + 1 ≤ cap' ∧ cap' ≤ maxLen ∧ cur'.size = cap' * 1 ∧ cur'.toList.take ((ss.length + 1) * 1) = ss.map n64 ++ [n64 x] := by
           rcases hown'.2 with ⟨_, h0⟩ | h'
           · exact absurd h0 (by omega)
           · exact h'
         go_frame)
      | gi_round_op_a)
    have hg3' : (W.alloc (.cells #[n64 x] 22)).grownBy w3 v.ownBlock := hg3
    obtain ⟨w4, hw4⟩ : ∃ w4, w3.setCell ⟨w.heap.size, 0, none⟩ (.slice (some ⟨g', 0, none⟩) (ss.length + 1) cap') = w4 := ⟨_, rfl⟩
    rw [hw4]
    have hg4 : w3.grownBy w4 (some w.heap.size) := by rw [← hw4]; exact grownBy_setCell0_a _ _ _
    have hv4 : w4.heap[w.heap.size]? = some (.cells #[.slice (some ⟨g', 0, none⟩) (ss.length + 1) cap'] 38 (0, 0)) := by rw [← hw4]; exact heap_setCell_box_a _ hv3
    have hrow4 := hown'.kept hg4 (ownsRow_ne_a hown' hv3 (fun cur e => hne (Obj.cells.inj e).2.1))
    have hb3 : Below w.heap.size w w3 := (hb.alloc hb.size _).grown hg3' (by have := hb.size; simp; omega) (fun k e => (hrow.lt k e).1)
    have hb4 : Below w.heap.size w w4 := hb3.grown hg4 hb3.size (fun k e => by cases e; omega)
    have hcells : ∀ (j : Nat) (o : Obj), v.ownBlock = some j → (W.alloc (.cells #[n64 x] 22)).heap[j]? = some o → o.isCells = true := by
      intro j o hj ho
      rcases (hrow.alloc (.cells #[n64 x] 22)).2 with ⟨rfl, _⟩ | ⟨g, cap, cur, rfl, _, hgb, _⟩
      · simp [Value.ownBlock] at hj
      · have : g = j := by simpa [Value.ownBlock] using hj
        subst this; rw [hgb] at ho; cases ho; rfl
    have hk4 : KeepsOthers W w4 := ((KeepsOthers.alloc _ _).trans (KeepsOthers.of_grownBy hg3' hcells)).trans (by rw [← hw4]; exact KeepsOthers.setCell _ _ _)
    refine ⟨hk4, hk4.walks, ⟨_, hv4, ?_, by simp⟩, hb4⟩
    simpa using hrow4
  case done =>
    rintro D ss W hD hS ⟨⟨v, hv, hrow, hnil⟩, hb⟩ hK
    obtain ⟨hc3, hf3⟩ := cell_of_box_a hv
    gi_wp2
    refine ⟨by simp, .inl ⟨_, _, rfl, run_takeDeferred hK, ?_⟩⟩
    refine ⟨_, results_tmp rfl _ _ _, v, ss, rfl, hS, hrow.kept (grownBy_putObj_a _ _ _) (ownsRow_ne_a hrow hK (fun cur e => by cases e)), hnil, hb.grown (grownBy_putObj_a _ _ _) hb.size (fun k e => by cases e; omega)⟩
  case stop =>
    rintro D c pre W hD hSp hf hK
    exact hf.elim
set_option maxHeartbeats 1000000 in
theorem collect_in (n : Nat) (hn : 3 ≤ n) (g : Nat) (lb : Array Value) (eg : ∀ args w, (callFunc g args).run Tryz.prog w = .ok (.enter g args) w)
    (S Sp : List Int → Prop) (N : Nat) (hN : N ≤ maxLen) (hNb : N * 8 ≤ 140737488355328) (w : World) (hseq : ∀ m W, Below w.heap.size w W → SeqStopsK Fence.wide m Tryz.prog g lb (fun x : Int => #[n64 x]) KeepsWalks S Sp N W) :
    CallsIn Fence.wide n Tryz.prog 53 #[.func (.func g) #[] lb] w fun e w' => ∃ (v : Value) (ss : List Int), e = .returned v ∧ S ss ∧ w'.ownsRow w.heap.size 22 1 v ss.length (ss.map n64) ∧ (v = .slice none 0 0 ↔ ss = []) ∧ Below w.heap.size w w' := by
  have hf : Fence.wide.fn 53 := trivial
  have hf' : Fence.wide.fn 81 := trivial
  have hro : Fence.wide.round = none := rfl
  have h1 : 1 ≤ n := by omega
  have cA := appendSeq_in (n - 1) (by omega) g lb eg S Sp N hN hNb w (fun W hW => hseq _ W hW)
  refine callsIn_of_wp Tryz.func53 rfl hf ?_ hro
  simp only [Tryz.ntmps53, List.size_toArray, List.length_cons, List.length_nil, Nat.reduceAdd, Nat.reduceSub, Array.replicate_succ, Array.replicate_zero, List.push_toArray, List.append_toArray, List.nil_append, List.cons_append]
  gi_wp2_with (gi_at_call 81; refine cA.mono ?_; rintro e w' ⟨v, ss, rfl, hS, hrow, hnil, hb⟩)
  go_ret
  exact ⟨v, ss, rfl, hS, hrow, hnil, hb⟩
end Go.Ev
/- slices.Sorted of a map's keys (this program's, at uint64): whatever order they come in, they are sorted into one list: each order's sort reckoned by the kernel. No condition but what each theorem says. -/
namespace Go.Ev
set_option linter.unusedVariables false
set_option linter.unusedSimpArgs false
open Go Go.Proofs Go.RowKit
def ins {α : Type} (x : α) : List α → List (List α)
  | [] => [[x]]
  | y :: l => (x :: y :: l) :: (ins x l).map (y :: ·)
def perms {α : Type} : List α → List (List α)
  | [] => [[]]
  | x :: l => (perms l).flatMap (ins x)
theorem mem_ins {α : Type} (x : α) : ∀ (s t : List α), s ++ x :: t ∈ ins x (s ++ t)
  | [], [] => by simp [ins]
  | [], y :: t => by simp [ins]
  | y :: s, t => by
    show y :: (s ++ x :: t) ∈ (x :: y :: (s ++ t)) :: (ins x (s ++ t)).map (y :: ·)
    exact List.mem_cons_of_mem _ (List.mem_map.mpr ⟨_, mem_ins x s t, rfl⟩)
theorem mem_perms {α : Type} : ∀ (m l : List α), l.Perm m → l ∈ perms m
  | [], l, h => by rw [h.eq_nil]; simp [perms]
  | x :: m, l, h => by
    obtain ⟨s, t, rfl⟩ := List.append_of_mem (h.symm.subset (List.mem_cons_self ..))
    have h2 : (s ++ t).Perm m := (List.perm_cons x).mp (List.perm_middle.symm.trans h)
    exact List.mem_flatMap.mpr ⟨s ++ t, mem_perms m _ h2, mem_ins x s t⟩
def v64 (z : Int) : V := .int .u64 z
def u64? : V → Option Int
  | .int .u64 z => some z
  | _ => none
theorem u64?_eq {v : V} {z : Int} (h : u64? v = some z) : v = v64 z := by
  unfold u64? at h
  split at h
  · injection h with h; rw [h]; rfl
  · cases h
def u64s : List V → Option (List Int)
  | [] => some []
  | v :: l => match u64? v with
    | some z => match u64s l with
      | some m => some (z :: m)
      | none => none
    | none => none
theorem u64s_eq : ∀ {l : List V} {m : List Int}, u64s l = some m → l = m.map v64
  | [], m, h => by injection h with h; rw [← h]; rfl
  | v :: l, m, h => by
    unfold u64s at h
    split at h
    · rename_i z hz
      split at h
      · rename_i m' hm; injection h with h; rw [← h, List.map_cons, ← u64s_eq hm, ← u64?_eq hz]
      · cases h
    · cases h
def insZ (x : Int) : List Int → List Int
  | [] => [x]
  | y :: l => match leI x y with | true => x :: y :: l | false => y :: insZ x l
def sortZ : List Int → List Int
  | [] => []
  | x :: l => insZ x (sortZ l)
noncomputable def sameZ (d : List (Nat × V)) (t : T V) : Nat → List Int → Bool
  | _, [] => true
  | i, z :: l => match rget d t i with
    | some u => match same1 u (v64 z) with | true => sameZ d t (i + 1) l | false => false
    | none => false
theorem sameZ_eq {d : List (Nat × V)} {t : T V} : ∀ {l : List Int} {i : Nat}, sameZ d t i l = true → ∀ (k : Nat) (z : Int), l[k]? = some z → rget d t (i + k) = some (v64 z)
  | [], _, _, k, z, hk => by simp at hk
  | y :: l, i, h, k, z, hk => by
    unfold sameZ at h
    split at h
    · rename_i u hu
      split at h
      · rename_i hs
        cases k with
        | zero => simp at hk; subst hk; rw [Nat.add_zero, hu, same1_eq hs]
        | succ k =>
          have := sameZ_eq h k z (by simpa using hk)
          rw [show i + (k + 1) = i + 1 + k by omega]; exact this
      · cases h
    · cases h
noncomputable section
def ov0 : FuncId → Option (List V → H → Option (V × H)) := ovP
def sortH (zs : List Int) : H := ⟨1, T.set .e 0 (.cells 22 0 1 false zs.length [] (setMany .e 0 (zs.map v64)))⟩
def sortRun (fuel : Nat) (args : List V) (h : H) : Option (V × H) := callV Tryz.prog ov0 (evC Tryz.prog ov0 (regD Tryz.prog) fuel) 54 args h
def sortOk (fuel : Nat) (L zs : List Int) : Bool := match zs with
  | [] => match sortRun fuel [.snil] ⟨0, .e⟩ with | some _ => true | none => false
  | _ :: _ => match sortRun fuel [.slice 0 0 0 zs.length none] (sortH zs) with
    | some (_, h) => match h.t.get 0 with
      | some (.cells ty g _ _ n d t) => match Nat.beq ty 22, Nat.beq g 0, Nat.beq zs.length n, Nat.beq L.length n, sameZ d t 0 L with
        | true, true, true, true, true => true
        | _, _, _, _, _ => false
      | _ => false
    | none => false
def sorted76 (fuel : Nat) : List V → H → Option (V × H) := fun args h => match args with
  | [.func f [.ptr kb g off]] => match Nat.beq f 55, h.t.get kb with
    | true, some (.cells _ g' _ _ len d t) => match Nat.beq g' g, Nat.blt off len, rget d t off with
      | true, true, some (.map km) => match h.t.get km with
        | some (.map es) => match u64s (es.map (·.1)) with
          | some zs => match Nat.ble zs.length 4, (perms zs).all (sortOk fuel (sortZ zs)), zs with
            | true, true, [] => some (.snil, h)
            | true, true, _ :: _ => some (.slice h.next 0 0 zs.length none, h.push (.cells 22 0 1 false zs.length [] (setMany .e 0 ((sortZ zs).map v64))))
            | _, _, _ => none
          | none => none
        | _ => none
      | _, _, _ => none
    | _, _ => none
  | _ => none
end
theorem entered : Entered Tryz.prog := by
  have h : Tryz.prog.funcs.toList.all (fun fn => !(fn.name == "runtime.NumGoroutine")) = true := by decide +kernel
  intro fn hfn
  have := List.all_eq_true.mp h fn (by simpa using hfn)
  simpa using this
theorem mixedOrd : Tryz.prog.follows .mixedOrders = true := by decide +kernel
theorem ov0_ok : OvOk Tryz.prog ov0 := ovP_ok
theorem sortRun_ok (fuel : Nat) {args : List V} {h : H} {v : V} {h' : H} (he : sortRun fuel args h = some (v, h')) (ρ : Env) (w : World) (args' : Array Value) (r : Rel ρ h w) (hl : LRel ρ args args'.toList) :
    Calls Tryz.prog 54 args' w fun e w' => ∃ (q : Value) (ρ' : Env), e = .returned q ∧ Step ρ h w ρ' h' w' ∧ VRel ρ' v q :=
  callV_ok ov0_ok (evC_ok entered ov0_ok (regD_ok mixedOrd) ovP_pure fuel).1 54 args h v h' he ρ w args' r hl
theorem v64_rel {ρ : Env} {z : Int} {c : Value} (h : VRel ρ (v64 z) c) : c = n64 z := by cases h; rfl
set_option maxRecDepth 100000 in
/-- What slices.Sort does to a row that was made for it. -/
theorem sort_row (n fuel : Nat) (L ss : List Int) (base : Nat) (v : Value) (W : World) (hrow : W.ownsRow base 22 1 v ss.length (ss.map n64)) (hnil : v = .slice none 0 0 ↔ ss = []) (hok : sortOk fuel L ss = true) :
    CallsIn Fence.wide n Tryz.prog 54 #[v] W fun e w' => (∃ q, e = .returned q) ∧ W.grownBy w' v.ownBlock ∧ ∀ g cap, v = .slice (some ⟨g, 0, none⟩) ss.length cap → L.length = ss.length ∧ ss.length ≤ cap ∧ ∃ cs fz, w'.heap[g]? = some (.cells cs 22 fz) ∧ cs.size = cap ∧
      (∀ i, i < cs.size → ¬ (fz.1 ≤ i ∧ i < fz.2)) ∧ ∀ (i : Nat) (z : Int), L[i]? = some z → cs[i]? = some (n64 z) := by
  refine callsIn_wide.2 ?_
  rcases hrow.2 with ⟨rfl, hz⟩ | ⟨g, cap, cur, rfl, hbase, hgb, h1, h2, h3, h4⟩
  · have hss : ss = [] := List.eq_nil_of_length_eq_zero hz
    subst hss
    unfold sortOk at hok
    simp only at hok
    split at hok
    · rename_i vh hr
      obtain ⟨v', h'⟩ := vh
      refine (sortRun_ok fuel hr (fun _ => none) W #[.slice none 0 0] ⟨(fun _ _ h => by cases h), (fun _ _ _ _ h => by cases h), (fun _ _ h => by cases h)⟩ ⟨.snil, trivial⟩).mono ?_
      rintro e w' ⟨q, ρ', rfl, s, _⟩
      exact ⟨⟨q, rfl⟩, ⟨s.os, s.tape, s.output, s.size, (fun k hk _ => s.frame k hk (fun _ _ h => by cases h))⟩, (fun g cap h => by cases h)⟩
    · cases hok
  · have hne : ss ≠ [] := fun c => by have := hnil.2 c; cases this
    obtain ⟨y, ys, rfl⟩ := List.exists_cons_of_ne_nil hne
    unfold sortOk at hok
    simp only at hok
    split at hok
    · rename_i v' h' hr
      split at hok
      · rename_i ty g0 es0 ro n0 d t hget
        split at hok
        · rename_i k1 k2 k3 k4 k5
          have k1 := Nat.eq_of_beq_eq_true k1
          have k2 := Nat.eq_of_beq_eq_true k2
          have k3 := Nat.eq_of_beq_eq_true k3
          have k4 := Nat.eq_of_beq_eq_true k4
          generalize hss : y :: ys = ss at *
          have e0 : Ent := ⟨g, 0, 0, cap, 1, false⟩
          have r0 : Rel (fun k => if k = 0 then some ⟨g, 0, 0, cap, 1, false⟩ else none) (sortH ss) W := by
            refine ⟨fun k e he => ?_, fun k k' e e' h h' _ => ?_, fun k e he => ?_⟩
            · have he : (if k = 0 then some (⟨g, 0, 0, cap, 1, false⟩ : Ent) else none) = some e := he
              split at he
              · rename_i hk; subst hk; injection he with he; subst he
                refine ⟨_, _, (show (sortH ss).t.get 0 = some (.cells 22 0 1 false ss.length [] (setMany .e 0 (ss.map v64))) from T.get_set_same T.e 0 (O.cells 22 0 1 false ss.length [] (setMany .e 0 (ss.map v64)))), hgb, rfl, rfl, rfl, cur, (0, 0), rfl, by show cur.size = 0 + cap; omega, h1, fun i _ => by omega, fun i hi => ?_⟩
                have hi' : i < ss.length := hi
                refine ⟨v64 ss[i], n64 ss[i], ?_, ?_, .int _ _⟩
                · rw [rget_app]; simp [hi']
                · have : (cur.toList.take (ss.length * 1))[i]? = some (n64 ss[i]) := by rw [h4]; simp [hi']
                  rw [List.getElem?_take_of_lt (by omega), Array.getElem?_toList] at this
                  rw [Nat.zero_add]; exact this
              · cases he
            · have h : (if k = 0 then some (⟨g, 0, 0, cap, 1, false⟩ : Ent) else none) = some e := h
              have h' : (if k' = 0 then some (⟨g, 0, 0, cap, 1, false⟩ : Ent) else none) = some e' := h'
              have c : k = 0 := by
                by_cases c : k = 0
                · exact c
                · rw [if_neg c] at h; cases h
              have c' : k' = 0 := by
                by_cases c' : k' = 0
                · exact c'
                · rw [if_neg c'] at h'; cases h'
              rw [c, c']
            · have he : (if k = 0 then some (⟨g, 0, 0, cap, 1, false⟩ : Ent) else none) = some e := he
              split at he
              · show k < 1; omega
              · cases he
          refine (sortRun_ok fuel hr _ W #[.slice (some ⟨g, 0, none⟩) ss.length cap] r0 ⟨?_, trivial⟩).mono ?_
          · have := VRel.slice (ρ := fun k => if k = 0 then some (⟨g, 0, 0, cap, 1, false⟩ : Ent) else none) (k := 0) (gen := 0) (off := 0) (len := ss.length) (cap := none) (e := ⟨g, 0, 0, cap, 1, false⟩) (c := cap) rfl rfl (fun _ h => by cases h) h1 (fun _ => by show 0 + cap * 1 ≤ cap; omega)
            exact this
          · rintro e w' ⟨q, ρ', rfl, s, _⟩
            refine ⟨⟨q, rfl⟩, ⟨s.os, s.tape, s.output, s.size, fun k hk hkn => s.frame k hk fun j e he hb => ?_⟩, ?_⟩
            · have he : (if j = 0 then some (⟨g, 0, 0, cap, 1, false⟩ : Ent) else none) = some e := he
              split at he
              · injection he with he; subst he
                exact absurd (by rw [← hb]; rfl) hkn
              · cases he
            · intro g' cap' hv
              injection hv with hv1 _ hv2
              injection hv1 with hv1
              injection hv1 with hv1
              subst hv1 hv2
              refine ⟨by omega, h1, ?_⟩
              obtain ⟨e', he', hor, _⟩ := s.ext.old 0 ⟨g, 0, 0, cap, 1, false⟩ rfl
              obtain ⟨o, ob, hg1, hb1, hrel⟩ := s.rel.obj 0 e' he'
              rw [hget] at hg1
              injection hg1 with hg1
              subst hg1
              obtain ⟨c1, c2, c3, cs, fz, c4, c5, c6, c7, c8⟩ := hrel
              have : e' = ⟨g, 0, 0, cap, 1, false⟩ := by
                rcases hor with h | ⟨h, _⟩
                · exact h
                · have h : 0 < e'.gen := h
                  omega
              subst this
              subst k1 c4
              refine ⟨cs, fz, hb1, by simpa using c5, c7, fun i z hz => ?_⟩
              have hi : i < L.length := (List.getElem?_eq_some_iff.mp hz).1
              obtain ⟨u, c, d1, d2, d3⟩ := c8 i (by omega)
              have := sameZ_eq k5 i z hz
              rw [Nat.zero_add] at this
              rw [this] at d1
              injection d1 with d1
              subst d1
              rw [v64_rel d3] at d2
              simpa using d2
        · cases hok
      · cases hok
    · cases hok
set_option maxRecDepth 100000 in
set_option maxHeartbeats 1000000 in
theorem sorted_walk (fuel : Nat) (L : List Int) (Bm off b clock : Nat) (es : Array MapEntry) (hu : ∀ x ∈ es.toList, ∃ z, x.key = n64 z) (hc : ∀ x ∈ es.toList, x.born < clock) (hnd : (es.toList.map (·.born)).Nodup) (hsz : es.size ≤ 4) (w : World) (hBm : Bm < w.heap.size)
    (hm : w.cell? ⟨Bm, off, none⟩ = some (.map (some b))) (hb : w.heap[b]? = some (.map es clock)) (hok : ∀ ss : List Int, (ss.map n64).Perm (es.toList.map (·.key)) → sortOk fuel L ss = true) :
    Calls Tryz.prog 37 #[.func (.func 55) #[] #[.pointer (some ⟨Bm, off, none⟩)]] w fun e w' => ∃ (v : Value) (ss : List Int), e = .returned v ∧ (ss.map n64).Perm (es.toList.map (·.key)) ∧ Below w.heap.size w w' ∧
      ((v = .slice none 0 0 ∧ ss = []) ∨ ∃ g cap, v = .slice (some ⟨g, 0, none⟩) ss.length cap ∧ ss ≠ [] ∧ w.heap.size ≤ g ∧ L.length = ss.length ∧ ss.length ≤ cap ∧ ∃ cs fz, w'.heap[g]? = some (.cells cs 22 fz) ∧ cs.size = cap ∧
        (∀ i, i < cs.size → ¬ (fz.1 ≤ i ∧ i < fz.2)) ∧ ∀ (i : Nat) (z : Int), L[i]? = some z → cs[i]? = some (n64 z)) := by
  refine (callsIn_wide (n := 6)).1 ?_
  have hf : Fence.wide.fn 37 := trivial
  have hf1 : Fence.wide.fn 53 := trivial
  have hf2 : Fence.wide.fn 54 := trivial
  have hro : Fence.wide.round = none := rfl
  have cC := collect_in 5 (by omega) 55 #[.pointer (some ⟨Bm, off, none⟩)] (fun args W => run_callFunc entered Tryz.func55 rfl args W) _ _ es.size (by unfold maxLen; omega) (by omega) w
    (fun m W hW => keys_stops m Bm off b clock es hu hc hnd W (Nat.lt_of_lt_of_le hBm hW.size) ((hW.cell (p := ⟨Bm, off, none⟩) hBm).trans hm) ((hW.block b (Array.getElem?_eq_some_iff.mp hb).1).trans hb))
  have cS : ∀ (v : Value) (ss : List Int) (W : World), W.ownsRow w.heap.size 22 1 v ss.length (ss.map n64) → (v = .slice none 0 0 ↔ ss = []) → (ss.map n64).Perm (es.toList.map (·.key)) → CallsIn Fence.wide 5 Tryz.prog 54 #[v] W _ := fun v ss W h1 h2 h3 => sort_row 5 fuel L ss w.heap.size v W h1 h2 (hok ss h3)
  refine callsIn_of_wp Tryz.func37 rfl hf ?_ hro
  simp only [Tryz.ntmps37, List.size_toArray, List.length_cons, List.length_nil, Nat.reduceAdd, Nat.reduceSub, Array.replicate_succ, Array.replicate_zero, List.push_toArray, List.append_toArray, List.nil_append, List.cons_append]
  gi_wp2_with (first
    | (gi_at_call 53; refine cC.mono ?_; rintro e W ⟨v, ss, rfl, hS, hrow, hnil, hb⟩)
    | (gi_at_call 54; refine (cS _ _ _ hrow hnil hS).mono ?_; rintro e w' ⟨⟨q, rfl⟩, hg, hpost⟩))
  go_ret
  refine ⟨v, ss, rfl, hS, hb.grown hg hb.size (fun k e => (hrow.lt k e).1), ?_⟩
  rcases hrow.2 with ⟨rfl, hz⟩ | ⟨g, cap, cur, rfl, hbase, _⟩
  · exact .inl ⟨rfl, List.eq_nil_of_length_eq_zero hz⟩
  · obtain ⟨h1, h2, h3⟩ := hpost g cap rfl
    exact .inr ⟨g, cap, rfl, (fun c => by have := hnil.2 c; cases this), hbase, h1, h2, h3⟩
theorem sorted76_inv {fuel : Nat} {args : List V} {h : H} {v : V} {h' : H} (he : sorted76 fuel args h = some (v, h')) :
    ∃ kb g off ty esz ro len d t km es zs, args = [.func 55 [.ptr kb g off]] ∧ h.t.get kb = some (.cells ty g esz ro len d t) ∧ off < len ∧ rget d t off = some (.map km) ∧ h.t.get km = some (.map es) ∧ u64s (es.map (·.1)) = some zs ∧ zs.length ≤ 4 ∧
      (∀ p ∈ perms zs, sortOk fuel (sortZ zs) p = true) ∧ ((zs = [] ∧ v = .snil ∧ h' = h) ∨ (zs ≠ [] ∧ v = .slice h.next 0 0 zs.length none ∧ h' = h.push (.cells 22 0 1 false zs.length [] (setMany .e 0 ((sortZ zs).map v64))))) := by
  unfold sorted76 at he
  split at he
  · rename_i f kb g off
    split at he
    · rename_i ty g' esz ro len d t hf hk
      split at he
      · rename_i km hg ho hr
        split at he
        · rename_i es hm
          split at he
          · rename_i zs hz
            have hf := Nat.eq_of_beq_eq_true hf
            have hg := Nat.eq_of_beq_eq_true hg
            have ho : off < len := Nat.le_of_ble_eq_true ho
            subst hf hg
            split at he
            · rename_i hl hp
              injection he with he; injection he with he1 he2
              exact ⟨kb, _, off, ty, esz, ro, len, d, t, km, es, [], rfl, hk, ho, hr, hm, hz, Nat.zero_le _, List.all_eq_true.mp hp, .inl ⟨rfl, he1.symm, he2.symm⟩⟩
            · rename_i z zs' hl hp
              injection he with he; injection he with he1 he2
              exact ⟨kb, _, off, ty, esz, ro, len, d, t, km, es, z :: zs', rfl, hk, ho, hr, hm, hz, Nat.le_of_ble_eq_true hl, List.all_eq_true.mp hp, .inr ⟨by simp, he1.symm, he2.symm⟩⟩
            · cases he
          · cases he
        · cases he
      · cases he
    · cases he
  · cases he
def z64 : Value → Int
  | .int _ z => z
  | _ => 0
theorem perm_n64 {a b : List Int} (h : (a.map n64).Perm (b.map n64)) : a.Perm b := by
  have := h.map z64
  simpa [List.map_map, Function.comp_def, z64] using this
theorem Step.fresh {ρ : Env} {h : H} {w w' : World} (r : Rel ρ h w) (hb : Below w.heap.size w w') (o : O) (ob : Obj) (e : Ent) (he : w.heap.size ≤ e.b) (hob : w'.heap[e.b]? = some ob) (ho : ∀ ρ', ORel ρ' e o ob) :
    Step ρ h w (fun j => if j = h.next then some e else ρ j) (h.push o) w' := by
  have hn : ρ h.next = none := by
    cases hk : ρ h.next with
    | none => rfl
    | some e' => exact absurd (r.lt _ _ hk) (Nat.lt_irrefl _)
  have x : Ext w.heap.size h.next ρ (fun j => if j = h.next then some e else ρ j) := Ext.one hn (Nat.le_refl _) he
  refine ⟨x, ⟨?_, ?_, ?_⟩, hb.os, hb.tape, hb.output, hb.size, ?_, Nat.le_succ _, ?_⟩
  · intro k e' he'
    have he' : (if k = h.next then some e else ρ k) = some e' := he'
    by_cases hk : k = h.next
    · rw [if_pos hk] at he'; injection he' with he'; subst he'
      refine ⟨o, ob, ?_, hob, ho _⟩
      show (h.t.set h.next o).get k = _
      rw [hk, T.get_set_same]
    · rw [if_neg hk] at he'
      obtain ⟨o', ob', h1, h2, h3⟩ := r.obj k e' he'
      refine ⟨o', ob', ?_, (hb.block _ (r.b_lt he')).trans h2, h3.ext x⟩
      show (h.t.set h.next o).get k = _
      rw [T.get_set_ne _ _ (Ne.symm hk)]; exact h1
  · intro k k' e1 e2 h1 h2 hbb
    have h1 : (if k = h.next then some e else ρ k) = some e1 := h1
    have h2 : (if k' = h.next then some e else ρ k') = some e2 := h2
    by_cases c1 : k = h.next <;> by_cases c2 : k' = h.next
    · rw [c1, c2]
    · rw [if_pos c1] at h1; rw [if_neg c2] at h2; injection h1 with h1; subst h1
      exact absurd (r.b_lt h2) (by rw [← hbb]; omega)
    · rw [if_neg c1] at h1; rw [if_pos c2] at h2; injection h2 with h2; subst h2
      exact absurd (r.b_lt h1) (by rw [hbb]; omega)
    · rw [if_neg c1] at h1; rw [if_neg c2] at h2; exact r.inj _ _ _ _ h1 h2 hbb
  · intro k e' he'
    have he' : (if k = h.next then some e else ρ k) = some e' := he'
    by_cases c : k = h.next
    · rw [c]; exact Nat.lt_succ_self _
    · rw [if_neg c] at he'; exact Nat.lt_succ_of_lt (r.lt _ _ he')
  · intro b hb' _
    exact hb.block b hb'
  · intro k hk _
    show (h.t.set h.next o).get k = _
    rw [T.get_set_ne _ _ (Nat.ne_of_gt hk)]
theorem Step.below {ρ : Env} {h : H} {w w' : World} (r : Rel ρ h w) (hb : Below w.heap.size w w') : Step ρ h w ρ h w' :=
  ⟨Ext.refl _ _ _, ⟨fun k e he => by obtain ⟨o, ob, h1, h2, h3⟩ := r.obj k e he; exact ⟨o, ob, h1, (hb.block _ (r.b_lt he)).trans h2, h3⟩, r.inj, r.lt⟩, hb.os, hb.tape, hb.output, hb.size, fun b hb' _ => hb.block b hb', Nat.le_refl _, fun _ _ _ => rfl⟩
theorem sorted_ok (fuel : Nat) (args : List V) (h : H) (v : V) (h' : H) (he : sorted76 fuel args h = some (v, h')) (ρ : Env) (w : World) (args' : Array Value) (r : Rel ρ h w) (hl : LRel ρ args args'.toList) :
    Calls Tryz.prog 37 args' w fun e w' => ∃ (q : Value) (ρ' : Env), e = .returned q ∧ Step ρ h w ρ' h' w' ∧ VRel ρ' v q := by
  obtain ⟨kb, g, off, ty, esz, ro, len, d, t, km, es, zs, rfl, hk, ho, hr, hm, hz, hlen, hp, hres⟩ := sorted76_inv he
  have hsz : args'.size = 1 := by have := hl.length; simpa using this
  obtain ⟨x, hx⟩ : ∃ x, args' = #[x] := Array.size_eq_one_iff.mp hsz
  subst hx
  have hv := hl.1
  obtain ⟨cs, hcs, hcap⟩ : ∃ cs : Array Value, x = .func (.func 55) #[] cs ∧ cs.size = 1 ∧ ∀ (c : Value), cs[0]? = some c → VRel ρ (.ptr kb g off) c := by
    cases hv with
    | @func f l cs hs hh => exact ⟨cs, rfl, hs, fun c hc => hh 0 _ c rfl hc⟩
  obtain ⟨hc1, hc2⟩ := hcap
  obtain ⟨c, hc⟩ : ∃ c, cs = #[c] := Array.size_eq_one_iff.mp hc1
  subst hc
  have hcp := hc2 c rfl
  obtain ⟨e, hek, heg, hce⟩ : ∃ e, ρ kb = some e ∧ e.gen = g ∧ c = .pointer (some ⟨e.b, e.at_ + off, none⟩) := by
    cases hcp with
    | ptr he hg => exact ⟨_, he, hg, rfl⟩
    | @ptrOld k gen off' e a he hg =>
      obtain ⟨o, ob, g1, _, g3⟩ := r.obj kb _ he
      rw [hk] at g1; injection g1 with g1; subst g1
      obtain ⟨q, _⟩ := g3
      omega
  subst hcs hce
  obtain ⟨o, ob, g1, hBm, g3⟩ := r.obj kb _ hek
  rw [hk] at g1; injection g1 with g1; subst g1
  obtain ⟨_, _, _, cells, fz, rfl, _, _, _, g4⟩ := g3
  obtain ⟨u, cu, g5, g6, g7⟩ := g4 off ho
  rw [hr] at g5; injection g5 with g5; subst g5
  obtain ⟨em, hem, hme⟩ : ∃ em, ρ km = some em ∧ cu = .map (some em.b) := by
    cases g7 with
    | map he _ => exact ⟨_, he, rfl⟩
    | mapOld he hg =>
      obtain ⟨o, ob, g1, _, g3⟩ := r.obj km _ he
      rw [hm] at g1; injection g1 with g1; subst g1
      obtain ⟨q, _⟩ := g3
      omega
  subst hme
  obtain ⟨o, ob, g1, hmb, g3⟩ := r.obj km _ hem
  rw [hm] at g1; injection g1 with g1; subst g1
  obtain ⟨_, _, es', clock, rfl, ⟨_, l, k1, k2, k3⟩, k4, k5⟩ := g3
  have hcell : w.cell? ⟨e.b, e.at_ + off, none⟩ = some (.map (some em.b)) := by simp [World.cell?, hBm, g6]
  have hkeys : es.map (·.1) = zs.map v64 := u64s_eq hz
  -- the world's keys are numbers, the same ones
  obtain ⟨ys, hy1, hy2⟩ : ∃ ys : List Int, es'.toList.map (·.key) = ys.map n64 ∧ ys.Perm zs := by
    have hl1 : (l.map (·.1)).Perm (zs.map v64) := by rw [← hkeys]; exact k1.map _
    have hall : ∀ p ∈ l, ∃ z, p.1 = v64 z := fun p hp' => by
      have := hl1.subset (List.mem_map.mpr ⟨p, hp', rfl⟩)
      obtain ⟨z, _, hz⟩ := List.mem_map.mp this
      exact ⟨z, hz.symm⟩
    let zv : V → Int := fun v => match v with | .int _ z => z | _ => 0
    refine ⟨l.map fun p => zv p.1, ?_, ?_⟩
    · apply List.ext_getElem?
      intro i
      rw [List.getElem?_map, List.getElem?_map, List.getElem?_map]
      by_cases hi : i < l.length
      · have h1 : l[i]? = some l[i] := List.getElem?_eq_getElem hi
        have h2 : es'.toList[i]? = some (es'.toList[i]'(by omega)) := List.getElem?_eq_getElem (by omega)
        obtain ⟨z, hz⟩ := hall l[i] (List.getElem_mem hi)
        have h3 := (k3 i _ _ h1 h2).1
        rw [hz] at h3
        rw [h1, h2]
        simp only [Option.map_some, v64_rel h3, hz]
        rfl
      · rw [List.getElem?_eq_none (by omega), List.getElem?_eq_none (by omega)]; rfl
    · have h1 := hl1.map zv
      rw [List.map_map, List.map_map] at h1
      have h2 : (zs.map (zv ∘ v64)) = zs := by
        conv => rhs; rw [← List.map_id zs]
        exact List.map_congr_left fun z _ => rfl
      rw [h2] at h1
      exact h1
  have hu : ∀ x ∈ es'.toList, ∃ z, x.key = n64 z := fun x hx => by
    have : x.key ∈ ys.map n64 := by rw [← hy1]; exact List.mem_map.mpr ⟨x, hx, rfl⟩
    obtain ⟨z, _, hz⟩ := List.mem_map.mp this
    exact ⟨z, hz.symm⟩
  have hesz : es'.size = zs.length := by
    have h1 := congrArg List.length hy1
    have h2 := hy2.length_eq
    simp at h1
    omega
  refine (sorted_walk fuel (sortZ zs) e.b (e.at_ + off) em.b clock es' hu k5 k4 (by omega) w (Array.getElem?_eq_some_iff.mp hBm).1 hcell hmb fun ss hss => hp ss (mem_perms _ _ ?_)).mono ?_
  · rw [hy1] at hss
    exact (perm_n64 hss).trans hy2
  · rintro e' w' ⟨v', ss, rfl, hperm, hbel, hcase⟩
    have hsl : ss.length = zs.length := by rw [hy1] at hperm; exact ((perm_n64 hperm).trans hy2).length_eq
    rcases hcase with ⟨rfl, rfl⟩ | ⟨gb, cap, rfl, hne, hgb, q1, q2, cs', fz', q3, q4, q5, q6⟩
    · have hz0 : zs = [] := List.eq_nil_of_length_eq_zero (by simpa using hsl.symm)
      rcases hres with ⟨_, rfl, rfl⟩ | ⟨hn, _⟩
      · exact ⟨_, ρ, rfl, .below r hbel, .snil⟩
      · exact absurd hz0 hn
    · rcases hres with ⟨h0, _⟩ | ⟨_, rfl, rfl⟩
      · rw [h0] at hsl; exact absurd (List.eq_nil_of_length_eq_zero hsl) hne
      · have st := Step.fresh r hbel (.cells 22 0 1 false zs.length [] (setMany .e 0 ((sortZ zs).map v64))) (.cells cs' 22 fz') ⟨gb, 0, 0, cap, 1, false⟩ hgb q3 (fun ρ' => by
          refine ⟨rfl, rfl, rfl, cs', fz', rfl, by show cs'.size = 0 + cap; omega, by show zs.length ≤ cap; omega, q5, fun i hi => ?_⟩
          have hi' : i < (sortZ zs).length := by omega
          refine ⟨v64 (sortZ zs)[i], n64 (sortZ zs)[i], ?_, ?_, .int _ _⟩
          · rw [rget_app]; simp [hi']
          · show cs'[0 + i]? = _
            rw [Nat.zero_add]; exact q6 i _ (List.getElem?_eq_getElem hi'))
        refine ⟨_, _, rfl, st, ?_⟩
        rw [hsl]
        have := VRel.slice (ρ := fun j => if j = h.next then some (⟨gb, 0, 0, cap, 1, false⟩ : Ent) else ρ j) (k := h.next) (gen := 0) (off := 0) (len := zs.length) (cap := none) (e := ⟨gb, 0, 0, cap, 1, false⟩) (c := cap) (if_pos rfl) rfl (fun _ h => by cases h) (by omega) (fun _ => by show 0 + cap * 1 ≤ cap; omega)
        exact this
end Go.Ev
