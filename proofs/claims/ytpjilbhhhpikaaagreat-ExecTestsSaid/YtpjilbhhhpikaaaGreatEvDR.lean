/- A region whose order is drawn comes, in every order, to what the kernel reckoned in one. No condition but what each theorem says. -/
import Derived.Test.YtpjilbhhhpikaaaGreatEvDS
namespace Go.Ev
set_option linter.unusedVariables false
set_option linter.unusedSimpArgs false
open Go
theorem two_filter {α : Type} {f : α → Bool} : ∀ {l : List α} {i j : Nat} {x y : α}, l[i]? = some x → f x = true → l[j]? = some y → f y = true → i < j → 2 ≤ (l.filter f).length
  | [], i, j, x, y, h1, _, _, _, _ => by simp at h1
  | z :: l, i, j, x, y, h1, h2, h3, h4, hlt => by
    cases j with
    | zero => omega
    | succ j =>
      have h3 : l[j]? = some y := by simpa using h3
      cases i with
      | zero =>
        simp at h1; subst h1
        rw [List.filter_cons, if_pos h2, List.length_cons]
        have : y ∈ l.filter f := List.mem_filter.mpr ⟨List.mem_of_getElem? h3, h4⟩
        have := List.length_pos_of_mem this
        omega
      | succ i =>
        have := two_filter (l := l) (by simpa using h1) h2 h3 h4 (by omega)
        rw [List.filter_cons]
        split
        · rw [List.length_cons]; omega
        · exact this
section
variable {P : Program}
/-- A block that the run laid ahead of the machine, laid by the machine now. -/
theorem Step.link {ρ0 ρ : Env} {h0 h : H} {w0 w : World} (s : Step ρ0 h0 w0 ρ h w) {id : Nat} {o : O} {ob : Obj} {e : Ent} (hn : ρ id = none) (hg : h.t.get id = some o) (hid : h0.next ≤ id) (hlt : id < h.next) (hb : e.b = w.heap.size)
    (ho : ∀ ρ' : Env, ORel ρ' e o ob) : Step ρ0 h0 w0 (fun j => if j = id then some e else ρ j) h { w with heap := w.heap.push ob } ∧ Ext w.heap.size id ρ (fun j => if j = id then some e else ρ j) := by
  have x : Ext w.heap.size id ρ (fun j => if j = id then some e else ρ j) := Ext.one hn (Nat.le_refl _) (Nat.le_of_eq hb.symm)
  refine ⟨⟨s.ext.trans x s.size hid, ⟨?_, ?_, ?_⟩, s.os, s.tape, s.output, ?_, ?_, s.next, ?_⟩, x⟩
  · intro k e' he
    have he : (if k = id then some e else ρ k) = some e' := he
    by_cases hk : k = id
    · rw [if_pos hk] at he; injection he with he; subst he
      refine ⟨o, ob, by rw [hk]; exact hg, ?_, ho _⟩
      show (w.heap.push ob)[e.b]? = _
      rw [hb, Array.getElem?_push, if_pos rfl]
    · rw [if_neg hk] at he
      obtain ⟨o', ob', h1, h2, h3⟩ := s.rel.obj k e' he
      refine ⟨o', ob', h1, ?_, h3.ext x⟩
      show (w.heap.push ob)[e'.b]? = _
      rw [Array.getElem?_push, if_neg (Nat.ne_of_lt (s.rel.b_lt he))]; exact h2
  · intro k k' e1 e2 h1 h2 hbb
    have h1 : (if k = id then some e else ρ k) = some e1 := h1
    have h2 : (if k' = id then some e else ρ k') = some e2 := h2
    by_cases c1 : k = id <;> by_cases c2 : k' = id
    · rw [c1, c2]
    · rw [if_pos c1] at h1; rw [if_neg c2] at h2; injection h1 with h1; subst h1
      exact absurd (s.rel.b_lt h2) (by rw [← hbb, hb]; exact Nat.lt_irrefl _)
    · rw [if_neg c1] at h1; rw [if_pos c2] at h2; injection h2 with h2; subst h2
      exact absurd (s.rel.b_lt h1) (by rw [hbb, hb]; exact Nat.lt_irrefl _)
    · rw [if_neg c1] at h1; rw [if_neg c2] at h2; exact s.rel.inj _ _ _ _ h1 h2 hbb
  · intro k e' he
    have he : (if k = id then some e else ρ k) = some e' := he
    by_cases c : k = id
    · rw [c]; exact hlt
    · rw [if_neg c] at he; exact s.rel.lt _ _ he
  · show w0.heap.size ≤ (w.heap.push ob).size
    have := s.size
    simp; omega
  · intro b hb' hr
    have h1 := s.frame b hb' hr
    show (w.heap.push ob)[b]? = _
    have := s.size
    rw [Array.getElem?_push, if_neg (by omega)]; exact h1
  · exact s.own
/-- What is known of the variable made ahead of everything, if there is one. -/
structure FOk (P : Program) (N : Nat) (ops : Array Oper) (a0 a1 : T V) (h0 h1 : H) : Prop where
  one : ∀ (i i' : Nat) (o o' : Oper), ops[i]? = some o → isF o = true → ops[i']? = some o' → isF o' = true → i = i'
  form : ∀ (i : Nat) (o : Oper), ops[i]? = some o → isF o = true → ∃ ty z cv n d t, o.op = .alloc ty ∧ o.after.toList = [] ∧ o.guard = none ∧ (zeroValue ty = zeroValue ty) ∧ (∃ it, P.info? ty = some it ∧ it.zero = some z) ∧ constV z = some cv ∧ rowOf cv = some (n, d, t) ∧ h1 = h0.push (.cells ty 0 0 false n d t) ∧ ∀ d', o.dst = some d' → d' < N
  slot : ∀ t u, a1.get t = some u → (∃ (i : Nat) (o : Oper), ops[i]? = some o ∧ isF o = true ∧ o.dst = some t ∧ u = .ptr h0.next 0 0) ∨ (a0.get t = some u ∧ ∀ (i : Nat) (o : Oper), ops[i]? = some o → isF o = true → o.dst ≠ some t)
  next : h0.next ≤ h1.next
  own : ∀ k, k < h0.next → h1.t.get k = h0.t.get k
theorem runF_spec {st : St} (hs : StG P st) {N : Nat} {ops : Array Oper} {a0 a1 : T V} {h0 h1 : H} (he : runF st N ops.toList a0 h0 = some (a1, h1)) : FOk P N ops a0 a1 h0 h1 := by
  have hmem : ∀ (i : Nat) (o : Oper), ops[i]? = some o → isF o = true → o ∈ ops.toList.filter isF := fun i o h1 h2 => List.mem_filter.mpr ⟨by have := Array.mem_of_getElem? h1; simpa using this, h2⟩
  unfold runF at he
  split at he
  · rename_i hf
    injection he with he; injection he with e1 e2
    subst e1; subst e2
    have hno : ∀ (i : Nat) (o : Oper), ops[i]? = some o → isF o = true → False := fun i o h1 h2 => by have := hmem i o h1 h2; rw [hf] at this; cases this
    exact ⟨fun i _ o _ h1 h2 => (hno i o h1 h2).elim, fun i o h1 h2 => (hno i o h1 h2).elim, fun t u hu => .inr ⟨hu, fun i o h1 h2 => (hno i o h1 h2).elim⟩, Nat.le_refl _, fun _ _ => rfl⟩
  · rename_i o0 hf
    split at he
    · rename_i v h' hst
      split at he
      · rename_i a' hp
        injection he with he; injection he with e1 e2
        subst e1; subst e2
        have h00 : o0 ∈ ops.toList.filter isF := by rw [hf]; exact List.mem_cons_self ..
        have hF0 := (List.mem_filter.mp h00).2
        obtain ⟨ty, hop, haf, hgd⟩ : ∃ ty, o0.op = .alloc ty ∧ o0.after.toList = [] ∧ o0.guard = none := by
          unfold isF at hF0
          split at hF0
          · rename_i ty h1 h2 h3; exact ⟨ty, h1, h2, h3⟩
          · cases hF0
        have hal := hs.al _ _ _ _ _ ty hop hst
        unfold evAlloc at hal
        split at hal
        · rename_i it hit
          split at hal
          · rename_i z hz
            split at hal
            · rename_i cv hc
              unfold evNew at hal
              split at hal
              · rename_i n d t hr
                injection hal with hal; injection hal with e1 e2
                subst e1; subst e2
                obtain ⟨p1, p2⟩ := putA_get hp
                have same : ∀ (i : Nat) (o : Oper), ops[i]? = some o → isF o = true → o = o0 := fun i o h1 h2 => by
                  have := hmem i o h1 h2; rw [hf] at this; simpa using this
                have uniq : ∀ (i i' : Nat) (o o' : Oper), ops[i]? = some o → isF o = true → ops[i']? = some o' → isF o' = true → i = i' := by
                  intro i i' o o' h1 h2 h3 h4
                  rcases Nat.lt_trichotomy i i' with hlt | hlt | hlt
                  · exfalso
                    have := two_filter (f := isF) (l := ops.toList) (by rw [Array.getElem?_toList]; exact h1) h2 (by rw [Array.getElem?_toList]; exact h3) h4 hlt
                    rw [hf] at this; simp at this
                  · exact hlt
                  · exfalso
                    have := two_filter (f := isF) (l := ops.toList) (by rw [Array.getElem?_toList]; exact h3) h4 (by rw [Array.getElem?_toList]; exact h1) h2 hlt
                    rw [hf] at this; simp at this
                obtain ⟨i0, hi0⟩ := List.getElem?_of_mem (List.mem_filter.mp h00).1
                rw [Array.getElem?_toList] at hi0
                refine ⟨uniq, fun i o h1 h2 => ?_, fun t' u hu => ?_, Nat.le_succ _, fun k hk => ?_⟩
                · obtain rfl := same i o h1 h2
                  exact ⟨ty, z, cv, n, d, t, hop, haf, hgd, rfl, ⟨it, hit, hz⟩, hc, hr, rfl, p1⟩
                · rcases p2 t' u hu with ⟨q1, q2⟩ | ⟨q1, q2⟩
                  · exact .inl ⟨i0, o0, hi0, hF0, q1, q2⟩
                  · exact .inr ⟨q2, fun i o h1 h2 => by rw [same i o h1 h2]; exact q1⟩
                · show (h0.t.set h0.next _).get k = _
                  rw [T.get_set_ne _ _ (Nat.ne_of_gt hk)]
              · cases hal
            · cases hal
          · cases hal
        · cases hal
      · cases he
    · cases he
  · cases he
end
end Go.Ev
