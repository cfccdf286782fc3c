/- Reading and writing of cells: of the run's own memory, and of the world in which it stands. No condition but what each theorem says. -/
import Derived.Test.YtpjilbhhhpikaaaGreatEvV
import Derived.Laws.Cells
namespace Go.Ev
set_option linter.unusedVariables false
set_option linter.unusedSimpArgs false
open Go
section
variable {P : Program} {ρ : Env} {h : H} {w : World}
theorem addr_add (b o n : Nat) : (⟨b, o, none⟩ : Addr).add n = ⟨b, o + n, none⟩ := by
  unfold Addr.add
  by_cases c : n = 0
  · rw [if_pos c, c]; rfl
  · rw [if_neg c]
def one : V → Bool
  | .agg _ _ _ => false
  | .tup _ => false
  | _ => true
theorem VRel.one {v : V} {c : Value} (h : VRel ρ v c) (ho : one v = true) : c.oneCell' = true := by
  cases h <;> first | rfl | (simp [Ev.one] at ho)
theorem VRel.cells1 {v : V} {c : Value} (h : VRel ρ v c) (ho : Ev.one v = true) : c.cells = #[c] := by
  cases h <;> first | rfl | (simp [Ev.one] at ho)
/-- A block of cells, as it stands. -/
theorem Rel.cells (r : Rel ρ h w) {k : Nat} {e : Ent} (he : ρ k = some e) {ty gen esz len : Nat} {ro : Bool} {d : List (Nat × V)} {t : T V} (hk : h.t.get k = some (.cells ty gen esz ro len d t)) :
    e.gen = gen ∧ e.esz = esz ∧ e.ro = ro ∧ ∃ cs fz, w.heap[e.b]? = some (.cells cs ty fz) ∧ cs.size = e.at_ + e.room ∧ len ≤ e.room ∧
      (∀ i, i < cs.size → ¬ (fz.1 ≤ i ∧ i < fz.2)) ∧ ∀ i, i < len → ∃ v c, rget d t i = some v ∧ cs[e.at_ + i]? = some c ∧ VRel ρ v c := by
  obtain ⟨o, ob, h1, h2, h3⟩ := r.obj k e he
  rw [hk] at h1
  injection h1 with h1
  subst h1
  obtain ⟨g1, g2, g3, cs, fz, g4, g5⟩ := h3
  exact ⟨g1, g2, g3, cs, fz, g4 ▸ h2, g5⟩
theorem cell_of_heap {b i : Nat} {cs : Array Value} {ty : TypeId} {fz : Nat × Nat} {c : Value} (hb : w.heap[b]? = some (.cells cs ty fz)) (hc : cs[i]? = some c) : w.cell? ⟨b, i, none⟩ = some c := by
  simp [World.cell?, hb, hc]
theorem Rel.cell (r : Rel ρ h w) {k : Nat} {e : Ent} (he : ρ k = some e) {ty gen esz len : Nat} {ro : Bool} {d : List (Nat × V)} {t : T V} (hk : h.t.get k = some (.cells ty gen esz ro len d t))
    {i : Nat} (hi : i < len) {v : V} (hv : rget d t i = some v) : ∃ c, w.cell? ⟨e.b, e.at_ + i, none⟩ = some c ∧ VRel ρ v c := by
  obtain ⟨_, _, _, cs, fz, hb, _, _, _, hcs⟩ := r.cells he hk
  obtain ⟨v', c, h1, h2, h3⟩ := hcs i hi
  rw [hv] at h1; injection h1 with h1; subst h1
  exact ⟨c, cell_of_heap hb h2, h3⟩
/-- n cells from a place on, as a list. -/
noncomputable def many (d : List (Nat × V)) (t : T V) (off : Nat) (n : Nat) : Option (List V) :=
  Nat.rec (motive := fun _ => Nat → Option (List V)) (fun _ => some [])
    (fun _ ih o => Option.rec (motive := fun _ => Option (List V)) none (fun v => Option.rec (motive := fun _ => Option (List V)) none (fun l => some (v :: l)) (ih (Nat.add o 1))) (rget d t o)) n off
theorem many_0 (d : List (Nat × V)) (t : T V) (off : Nat) : many d t off 0 = some [] := rfl
theorem many_S (d : List (Nat × V)) (t : T V) (off n : Nat) : many d t off (n + 1) = Option.rec (motive := fun _ => Option (List V)) none (fun v => Option.rec (motive := fun _ => Option (List V)) none (fun l => some (v :: l)) (many d t (off + 1) n)) (rget d t off) := rfl
theorem many_spec (d : List (Nat × V)) (t : T V) : ∀ (n off : Nat) (l : List V), many d t off n = some l → l.length = n ∧ ∀ i v, l[i]? = some v → rget d t (off + i) = some v := by
  intro n
  induction n with
  | zero => intro off l h; rw [many_0] at h; injection h with h; subst h; exact ⟨rfl, fun i v h => by simp at h⟩
  | succ n ih =>
    intro off l h
    rw [many_S] at h
    cases hv : rget d t off with
    | none => rw [hv] at h; cases h
    | some v =>
      rw [hv] at h
      cases hl : many d t (off + 1) n with
      | none => rw [hl] at h; cases h
      | some l' =>
        rw [hl] at h
        have h : some (v :: l') = some l := h
        injection h with h; subst h
        obtain ⟨h1, h2⟩ := ih _ _ hl
        refine ⟨by simp [h1], fun i u hu => ?_⟩
        cases i with
        | zero => simp at hu; subst hu; exact hv
        | succ i => rw [show off + (i + 1) = off + 1 + i by omega]; exact h2 i u (by simpa using hu)
/-- Cells set one behind the other. -/
noncomputable def setMany (t : T V) (off : Nat) (l : List V) : T V :=
  List.rec (motive := fun _ => T V → Nat → T V) (fun t _ => t) (fun v _ ih t o => ih (t.set o v) (Nat.add o 1)) l t off
theorem setMany_nil (t : T V) (off : Nat) : setMany t off [] = t := rfl
theorem setMany_cons (t : T V) (off : Nat) (v : V) (l : List V) : setMany t off (v :: l) = setMany (t.set off v) (off + 1) l := rfl
theorem rget_setMany (d : List (Nat × V)) : ∀ (l : List V) (t : T V) (off i : Nat), rget d (setMany t off l) i = if off ≤ i ∧ i < off + l.length then l[i - off]? else rget d t i
  | [], t, off, i => by
    rw [setMany_nil, if_neg]
    simp only [List.length_nil]
    omega
  | v :: l, t, off, i => by
    rw [setMany_cons, rget_setMany d l, rget_set]
    simp only [List.length_cons]
    by_cases c1 : off = i
    · subst c1
      rw [if_neg (by omega), if_pos rfl, if_pos (by omega), Nat.sub_self]
      rfl
    · by_cases c2 : off + 1 ≤ i ∧ i < off + 1 + l.length
      · rw [if_pos c2, if_pos (by omega), show i - off = (i - (off + 1)) + 1 by omega]
        rfl
      · rw [if_neg c2, if_neg c1, if_neg (by omega)]
theorem one_all {l : List V} {cs : List Value} (ho : l.all one = true) (hl : cs.length = l.length) (hr : ∀ (i : Nat) (v : V) (c : Value), l[i]? = some v → cs[i]? = some c → VRel ρ v c) : ∀ c, c ∈ cs → c.oneCell' = true := by
  intro c hc
  obtain ⟨i, hi⟩ := List.getElem?_of_mem hc
  have hlt : i < l.length := by rw [← hl]; exact (List.getElem?_eq_some_iff.mp hi).1
  have := hr i l[i] c (List.getElem?_eq_getElem hlt) hi
  exact this.one (List.all_eq_true.mp ho _ (List.getElem_mem hlt))
/-- The cells that a slice or an address reaches, loaded. -/
theorem run_many (r : Rel ρ h w) {k : Nat} {e : Ent} (he : ρ k = some e) {ty gen esz len : Nat} {ro : Bool} {d : List (Nat × V)} {t : T V} (hk : h.t.get k = some (.cells ty gen esz ro len d t))
    {off n : Nat} (hn : off + n ≤ len) {l : List V} (hl : many d t off n = some l) :
    ∃ cs : List Value, (loadCells ⟨e.b, e.at_ + off, none⟩ n).run P w = .ok cs.toArray w ∧ cs.length = l.length ∧ ∀ (i : Nat) (v : V) (c : Value), l[i]? = some v → cs[i]? = some c → VRel ρ v c := by
  obtain ⟨h1, h2⟩ := many_spec d t n off l hl
  refine ⟨(List.range n).map fun j => (w.cell? ⟨e.b, e.at_ + off + j, none⟩).getD undef, ?_, by simp [h1], ?_⟩
  · refine run_loadCells w _ n _ fun j hj => ?_
    rw [addr_add]
    have hlt : j < l.length := by omega
    obtain ⟨c, hc, _⟩ := r.cell he hk (i := off + j) (by omega) (h2 j l[j] (List.getElem?_eq_getElem hlt))
    rw [← Nat.add_assoc] at hc
    rw [hc]; rfl
  · intro i v c hv hc
    have hlt : i < l.length := (List.getElem?_eq_some_iff.mp hv).1
    obtain ⟨c', hc', hr⟩ := r.cell he hk (i := off + i) (by omega) (h2 i v hv)
    rw [← Nat.add_assoc] at hc'
    have : c = c' := by
      simp [List.getElem?_map, List.getElem?_range (show i < n by omega), hc'] at hc
      exact hc.symm
    subst this
    exact hr
theorem run_storeCells : ∀ (vs : List Value) (w : World) (b o i : Nat) (cs : Array Value) (ty : TypeId) (fz : Nat × Nat), w.heap[b]? = some (.cells cs ty fz) → o + i + vs.length ≤ cs.size → (∀ j, j < cs.size → ¬ (fz.1 ≤ j ∧ j < fz.2)) → (∀ c, c ∈ vs → c.oneCell' = true) →
    ∃ w' cs', (storeCells ⟨b, o, none⟩ vs i).run P w = .ok () w' ∧ w'.heap[b]? = some (.cells cs' ty fz) ∧ cs'.size = cs.size ∧ (∀ j, cs'[j]? = if o + i ≤ j ∧ j < o + i + vs.length then vs[j - (o + i)]? else cs[j]?) ∧
      (∀ b', b' ≠ b → w'.heap[b']? = w.heap[b']?) ∧ w'.heap.size = w.heap.size ∧ w'.os = w.os ∧ w'.tape = w.tape ∧ w'.output = w.output
  | [], w, b, o, i, cs, ty, fz, hb, hl, hf, ho => by
    refine ⟨w, cs, rfl, hb, rfl, fun j => ?_, fun _ _ => rfl, rfl, rfl, rfl, rfl⟩
    rw [if_neg]
    simp only [List.length_nil]
    omega
  | v :: vs, w, b, o, i, cs, ty, fz, hb, hl, hf, ho => by
    simp only [List.length_cons] at hl
    have hlt : o + i < cs.size := by omega
    have hcell : w.cell? ⟨b, o + i, none⟩ = some cs[o + i] := cell_of_heap hb (Array.getElem?_eq_getElem hlt)
    have hfr : w.frozen? ⟨b, o + i, none⟩ = false := by
      have := hf _ hlt
      simp only [World.frozen?, hb]
      simpa using this
    have hb1 : (w.setCell ⟨b, o + i, none⟩ v).heap[b]? = some (.cells (cs.setIfInBounds (o + i) v) ty fz) := by
      simp [World.setCell, Array.getElem?_modify, hb]
    have hb2 : ∀ b', b' ≠ b → (w.setCell ⟨b, o + i, none⟩ v).heap[b']? = w.heap[b']? := fun b' hne => RowKit.Below.heap_setCell w _ _ _ hne
    obtain ⟨w', cs', h1, h2, h3, h4, h5, h6, h7, h8, h9⟩ := run_storeCells vs (w.setCell ⟨b, o + i, none⟩ v) b o (i + 1) (cs.setIfInBounds (o + i) v) ty fz hb1 (by simp; omega) (by simpa using hf) (fun c hc => ho c (List.mem_cons_of_mem _ hc))
    refine ⟨w', cs', ?_, h2, h3.trans (by simp), fun j => ?_, fun b' hne => (h5 b' hne).trans (hb2 b' hne), h6.trans (by simp [World.setCell]), h7, h8, h9⟩
    · show ((store ((⟨b, o, none⟩ : Addr).add i) v) >>= fun _ => storeCells ⟨b, o, none⟩ vs (i + 1)).run P w = _
      rw [Sem.run_bind, addr_add, run_store P w _ v .plain (ho v (List.mem_cons_self ..))]
      simp only [hcell, hfr, Bool.false_eq_true, if_false, Result.andThen_ok]
      exact h1
    · rw [h4]
      simp only [List.length_cons]
      by_cases c1 : o + i = j
      · subst c1
        rw [if_neg (by omega), if_pos (by omega), Nat.sub_self, Array.getElem?_setIfInBounds]
        simp [hlt]
      · by_cases c2 : o + (i + 1) ≤ j ∧ j < o + (i + 1) + vs.length
        · rw [if_pos c2, if_pos (by omega), show j - (o + i) = (j - (o + (i + 1))) + 1 by omega]
          rfl
        · rw [if_neg c2, if_neg (by omega), Array.getElem?_setIfInBounds, if_neg c1]
theorem env_same {k : Nat} {e : Ent} (he : ρ k = some e) : (fun j => if j = k then some e else ρ j) = ρ := by
  funext j
  by_cases c : j = k
  · subst c; rw [if_pos rfl, he]
  · rw [if_neg c]
/-- Cells written into a block. -/
theorem step_store (r : Rel ρ h w) {k : Nat} {e : Ent} (he : ρ k = some e) {ty gen esz len : Nat} {d : List (Nat × V)} {t : T V} (hk : h.t.get k = some (.cells ty gen esz false len d t))
    {off : Nat} {l : List V} {cs : List Value} (hn : off + l.length ≤ len) (ho : l.all one = true) (hl : cs.length = l.length) (hr : ∀ (i : Nat) (v : V) (c : Value), l[i]? = some v → cs[i]? = some c → VRel ρ v c) :
    ∃ w', (storeCells ⟨e.b, e.at_ + off, none⟩ cs).run P w = .ok () w' ∧ Step ρ h w ρ (h.put k (.cells ty gen esz false len d (setMany t off l))) w' := by
  obtain ⟨g1, g2, g3, xs, fz, hb, hsz, hlen, hfz, hcs⟩ := r.cells he hk
  obtain ⟨w', xs', h1, h2, h3, h4, h5, h6, h7, h8, h9⟩ := run_storeCells (P := P) cs w e.b (e.at_ + off) 0 xs ty fz hb (by omega) hfz (one_all ho hl hr)
  refine ⟨w', h1, ?_⟩
  have hst := Step.turn (w' := w') r he g3 (.cells ty gen esz false len d (setMany t off l)) (.cells xs' ty fz) e (.inl rfl) g3 (.inl rfl) h2 ?_ h7 h8 h9 (Nat.le_of_eq h6.symm) (fun b _ hne => h5 b hne)
  · rw [env_same he] at hst; exact hst
  · intro ρ' x _
    refine ⟨g1, g2, g3, xs', fz, rfl, h3.trans hsz, hlen, by rw [h3]; exact hfz, fun i hi => ?_⟩
    rw [rget_setMany, h4]
    by_cases c : off ≤ i ∧ i < off + l.length
    · rw [if_pos c, if_pos (by omega)]
      have hlt : i - off < l.length := by omega
      refine ⟨l[i - off], cs[i - off]'(by omega), List.getElem?_eq_getElem hlt, ?_, ?_⟩
      · rw [show e.at_ + i - (e.at_ + off + 0) = i - off by omega]; exact List.getElem?_eq_getElem _
      · exact (hr _ _ _ (List.getElem?_eq_getElem hlt) (List.getElem?_eq_getElem (by omega))).ext x
    · rw [if_neg c, if_neg (by omega)]
      obtain ⟨v, c', q1, q2, q3⟩ := hcs i hi
      exact ⟨v, c', q1, q2, q3.ext x⟩
end
end Go.Ev
