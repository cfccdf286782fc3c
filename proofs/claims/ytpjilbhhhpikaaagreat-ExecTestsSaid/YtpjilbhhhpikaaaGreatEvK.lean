/- A map's keys, one by one, in whatever order: what is told of a range under way by lists of entries alone. No condition but what each theorem says. -/
import Derived.Maps.RangeWalk
import Derived.Sort.MapsRangeIn
import Derived.Shelf.SlIter.Collect
namespace Go.Ev
set_option linter.unusedVariables false
set_option linter.unusedSimpArgs false
open Go Go.Proofs Go.ChangeMaps Go.RowKit
abbrev n64 (z : Int) : Value := .int .u64 z
theorem filter_step {e : MapEntry} {p : MapEntry → Bool} : ∀ (l : List MapEntry), (l.map (·.born)).Nodup → e ∈ l → p e = true → (l.filter p).Perm (e :: l.filter (fun x => p x && !(x.born == e.born)))
  | [], _, he, _ => by cases he
  | a :: l, hn, he, hp => by
    rw [List.map_cons, List.nodup_cons] at hn
    obtain ⟨ha, hn⟩ := hn
    rcases List.mem_cons.mp he with rfl | he
    · have : l.filter (fun x => p x && !(x.born == e.born)) = l.filter p := List.filter_congr fun x hx => by
        have : x.born ≠ e.born := fun c => ha (List.mem_map.mpr ⟨x, hx, c⟩)
        simp [this]
      rw [List.filter_cons, if_pos hp, List.filter_cons, this]
      simp
    · have hne : a.born ≠ e.born := fun c => ha (List.mem_map.mpr ⟨e, he, c.symm⟩)
      have ih := filter_step l hn he hp
      rw [List.filter_cons, List.filter_cons]
      have h2 : (p a && !(a.born == e.born)) = p a := by simp [hne]
      rw [h2]
      split
      · exact (ih.cons a).trans (List.Perm.swap _ _ _)
      · exact ih
/-- A range under way over block b: ss has come. -/
def Rng (w : World) (b r clock : Nat) (es : Array MapEntry) (ss : List Int) : Prop :=
  ∃ since seen c0, w.heap[b]? = some (.map es clock) ∧ w.heap[r]? = some (.mapIter (some b) since seen c0) ∧ (∀ x ∈ es.toList, x.born < since) ∧ since ≤ c0 ∧ since ≤ clock ∧ (es.toList.map (·.born)).Nodup ∧
    (ss.map n64 ++ (leftOf es seen).toList.map (·.key)).Perm (es.toList.map (·.key))
theorem Rng.left_le {w : World} {b r clock : Nat} {es : Array MapEntry} {ss : List Int} (h : Rng w b r clock es ss) : ss.length + w.rangeLeft b r = es.size := by
  obtain ⟨since, seen, c0, hb, hr, _, _, _, _, hp⟩ := h
  have := hp.length_eq
  simp only [World.rangeLeft, hb, hr]
  simpa using this
theorem Rng.iter_walk {w : World} {b r clock : Nat} {es : Array MapEntry} {ss : List Int} (h : Rng w b r clock es ss) : ∃ o : Obj, w.heap[r]? = some o ∧ o.isWalk = true := by
  obtain ⟨since, seen, c0, _, hr, _⟩ := h
  exact ⟨_, hr, rfl⟩
theorem Rng.of_walks {w w' : World} {b r clock : Nat} {es : Array MapEntry} {ss : List Int} (h : Rng w b r clock es ss) (hk : KeepsWalks w w') : Rng w' b r clock es ss := by
  obtain ⟨since, seen, c0, hb, hr, rest⟩ := h
  exact ⟨since, seen, c0, hk.same b _ hb rfl, hk.same r _ hr rfl, rest⟩
variable {P : Program}
theorem Rng.next {w : World} {b r clock : Nat} {es : Array MapEntry} {ss : List Int} (h : Rng w b r clock es ss) (hu : ∀ x ∈ es.toList, ∃ z, x.key = n64 z) (ty : TypeId) :
    ((ss.map n64).Perm (es.toList.map (·.key)) ∧ (Instr.next (.pointer (some ⟨r, 0, none⟩)) false ty).run P w = .ok (.tuple #[.bool false]) w) ∨
    ∃ (x : Int) (v : Value) (w' : World), (Instr.next (.pointer (some ⟨r, 0, none⟩)) false ty).run P w = .ok (.tuple #[.bool true, n64 x, v]) w' ∧ Rng w' b r clock es (ss ++ [x]) ∧ w.grownBy w' (some r) ∧ w'.heap.size = w.heap.size ∧
      (Instr.entry (.pointer (some ⟨r, 0, none⟩))).run P w' = .ok (.tuple #[n64 x, v]) w' ∧ ss.length < es.size := by
  have hl := h.left_le
  obtain ⟨since, seen, c0, hb, hr, hold, hsc, hcl, hn, hp⟩ := h
  have hne : b ≠ r := fun e => by rw [e, hr] at hb; cases hb
  rcases run_next_at (P := P) w ty r b since c0 seen es clock hr hb hold hsc with ⟨h0, hrun⟩ | ⟨e, he, w1, hal, hrun⟩
  · refine .inl ⟨?_, hrun⟩
    have : leftOf es seen = #[] := Array.eq_empty_of_size_eq_zero h0
    rw [this] at hp
    simpa using hp
  · have he' : e ∈ es.toList ∧ seen.contains e.born = false := by
      unfold leftOf at he
      simpa [Array.mem_filter] using he
    obtain ⟨x, hx⟩ := hu e he'.1
    have hw1 : w1.heap = w.heap := by rcases hal with rfl | rfl <;> rfl
    have hrl : r < w1.heap.size := by rw [hw1]; exact (Array.getElem?_eq_some_iff.mp hr).1
    have hsb : (setBlock w1 r (.mapIter (some b) since (seen.push e.born) clock)).heap[b]? = some (.map es clock) := by
      show (w1.heap.setIfInBounds r _)[b]? = _
      rw [Array.getElem?_setIfInBounds, if_neg (Ne.symm hne), hw1]; exact hb
    have hsr : (setBlock w1 r (.mapIter (some b) since (seen.push e.born) clock)).heap[r]? = some (.mapIter (some b) since (seen.push e.born) clock) := by
      show (w1.heap.setIfInBounds r _)[r]? = _
      rw [Array.getElem?_setIfInBounds, if_pos rfl, if_pos hrl]
    refine .inr ⟨x, e.val, _, by rw [← hx]; exact hrun, ⟨since, seen.push e.born, clock, hsb, hsr, hold, hcl, hcl, hn, ?_⟩, ?_, ?_, ?_, ?_⟩
    · have hq : (leftOf es seen).toList.Perm (e :: (leftOf es (seen.push e.born)).toList) := by
        unfold leftOf
        rw [Array.toList_filter, Array.toList_filter]
        have := filter_step (p := fun x => !seen.contains x.born) es.toList hn he'.1 (by show (!seen.contains e.born) = true; rw [he'.2]; rfl)
        refine this.trans (List.Perm.of_eq ?_)
        congr 1
        refine List.filter_congr fun y _ => ?_
        show (!seen.contains y.born && !(y.born == e.born)) = !(seen.push e.born).contains y.born
        rw [Array.contains_push, Bool.not_or, Bool.and_comm]
      have h2 := hq.map (·.key)
      refine List.Perm.trans ?_ hp
      rw [List.map_append, List.append_assoc]
      refine List.Perm.append_left _ ?_
      refine List.Perm.trans ?_ h2.symm
      simp only [List.map_cons, List.map_nil, List.cons_append, List.nil_append, hx]
      exact List.Perm.refl _
    · refine ⟨by rcases hal with rfl | rfl <;> rfl, by rcases hal with rfl | rfl <;> rfl, by rcases hal with rfl | rfl <;> rfl, by show w.heap.size ≤ (w1.heap.setIfInBounds r _).size; rw [Array.size_setIfInBounds, hw1]; exact Nat.le_refl _, fun k hk hkr => ?_⟩
      show (w1.heap.setIfInBounds r _)[k]? = _
      rw [Array.getElem?_setIfInBounds, if_neg (fun c => hkr (by rw [c])), hw1]
    · show (w1.heap.setIfInBounds r _).size = _
      rw [Array.size_setIfInBounds, hw1]
    · rw [← hx]; exact run_entry_at _ r b since seen es clock e hsr hsb he'.1 hn
    · have : 0 < (leftOf es seen).size := by
        rcases Nat.eq_zero_or_pos (leftOf es seen).size with h0 | h0
        · have := Array.eq_empty_of_size_eq_zero h0
          rw [this] at he; simp at he
        · exact h0
      have h3 : w.rangeLeft b r = (leftOf es seen).size := by simp only [World.rangeLeft, hb, hr]
      omega
section
variable {F : Fence} {n : Nat} (w : World) {ops : Array Oper} {rest : List Oper} {o : Oper} {a : Act} {Q : Exit → Act → World → Prop}
theorem wpListIn_range_raw (hg : o.guard = none) (m : Operand) (t : TypeId) (hop : o.op = Op.range t m) (k e : TypeId) (ht : P.underlying t = some (.map k e)) (b clock : Nat) (es : Array MapEntry)
    (hm : a.eval m = .map (some b)) (hb : w.heap[b]? = some (.map es clock)) (hc : ∀ x ∈ es.toList, x.born < clock) (hn : (es.toList.map (·.born)).Nodup)
    (hK : ∀ w', Rng w' b w.heap.size clock es [] → w.grownBy w' none → w'.heap.size = w.heap.size + 1 → wpListIn F n P ops Q rest (a.put o.dst (.pointer (some ⟨w.heap.size, 0, none⟩))) w') :
    wpListIn F n P ops Q (o :: rest) a w := by
  refine wpListIn_plain hg fun K' hK' => ?_
  have hrun := run_range_map w t k e b es clock ht hb
  have hlt : b < w.heap.size := (Array.getElem?_eq_some_iff.mp hb).1
  have hR : Rng (w.alloc (.mapIter (some b) clock #[] clock)) b w.heap.size clock es [] :=
    ⟨clock, #[], clock, (Below.heap_alloc w _ b hlt).trans hb, World.alloc_heap_new w _, hc, Nat.le_refl _, Nat.le_refl _, hn, by
      have : leftOf es #[] = es := Array.filter_eq_self.2 fun _ _ => by simp
      rw [this]; exact List.Perm.refl _⟩
  unfold Oper.wpIn
  refine ⟨?_, ?_⟩
  · simp [Oper.about, hop]
  · rw [Oper.semAt_plain F _ _ (by rw [hop]; intro c hc'; cases hc')]
    simp [execOp, hop, hm, hrun, Result.andThen]
    exact hK' _ _ (hK _ hR (World.grownBy_alloc w _ none) (by simp))
theorem wpListIn_next_raw (hg : o.guard = none) (it : Operand) (hop : o.op = Op.next it false) (b r clock : Nat) (es : Array MapEntry) (ss : List Int) (hu : ∀ x ∈ es.toList, ∃ z, x.key = n64 z)
    (hit : a.eval it = .pointer (some ⟨r, 0, none⟩)) (h : Rng w b r clock es ss)
    (hDone : (ss.map n64).Perm (es.toList.map (·.key)) → wpListIn F n P ops Q rest (a.put o.dst (.tuple #[.bool false])) w)
    (hMore : ∀ (x : Int) (v : Value) (w' : World), Rng w' b r clock es (ss ++ [x]) → w.grownBy w' (some r) → w'.heap.size = w.heap.size → (Instr.entry (.pointer (some ⟨r, 0, none⟩))).run P w' = .ok (.tuple #[n64 x, v]) w' →
      ss.length < es.size → wpListIn F n P ops Q rest (a.put o.dst (.tuple #[.bool true, n64 x, v])) w') :
    wpListIn F n P ops Q (o :: rest) a w := by
  refine wpListIn_plain hg fun K' hK' => ?_
  unfold Oper.wpIn
  refine ⟨by simp [Oper.about, hop], ?_⟩
  rw [Oper.semAt_plain F _ _ (by rw [hop]; intro c hc'; cases hc')]
  rcases h.next (P := P) hu o.type with ⟨h0, hrun⟩ | ⟨x, v, w', hrun, h1, h2, h3, h4, h5⟩
  · simp [execOp, hop, hit, hrun, Result.andThen]
    exact hK' _ _ (hDone h0)
  · simp [execOp, hop, hit, hrun, Result.andThen]
    exact hK' _ _ (hMore x v w' h1 h2 h3 h4 h5)
end
end Go.Ev
