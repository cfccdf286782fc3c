/- A region whose order is drawn comes, in every order, to what the kernel reckoned in one: the proof. No condition but what each theorem says. -/
import Derived.Test.YtpjilbhhhpikaaaGreatEvDR
namespace Go.Ev
set_option linter.unusedVariables false
set_option linter.unusedSimpArgs false
open Go
/-- How a region stands, some of whose operations were carried out. -/
structure Inv (P : Program) (N : Nat) (ops : Array Oper) (B : Nat → Nat) (W : T Nat) (tr : List Rc) (Hs : Nat → H) (a0 : T V) (h0 h1 : H) (ρ0 : Env) (w0 : World) (k : Nat) (ρ : Env) (listed : Array Bool) (act : Act) (w : World) : Prop where
  step : Step ρ0 h0 w0 ρ (Hs k) w
  kle : k ≤ (tr.filter isE).length
  effs : ∀ (j : Nat) (e : Rc), (tr.filter isE)[j]? = some e → (listed.getD e.i false = true ↔ j < k)
  defers : act.defers = []
  size : act.tmps.size = N
  s1 : ∀ x, x ∈ tr → listed.getD x.i false = true → ∀ t, x.o.dst = some t → VRel ρ x.v (act.tmps.getD t undef)
  s2 : ∀ (i : Nat) (o : Oper), ops[i]? = some o → isF o = true → listed.getD i false = true → ∀ t, o.dst = some t → VRel ρ (.ptr h0.next 0 0) (act.tmps.getD t undef)
  s3 : ∀ t u, a0.get t = some u → (∀ j, W.get t = some j → listed.getD j false = false) → VRel ρ u (act.tmps.getD t undef)
  gh : ∀ (i : Nat) (o : Oper), ops[i]? = some o → isF o = true → listed.getD i false = false → ρ h0.next = none ∧ (Hs k).t.get h0.next = h1.t.get h0.next ∧ h0.next < (Hs k).next
  down : ∀ i, listed.getD i false = true → i < ops.size ∧ ∀ x, bit (B i) x = true → listed.getD x false = true
  lsz : listed.size = ops.size
/-- What is known of a region. -/
structure Info (P : Program) (st : St) (N : Nat) (ops : Array Oper) (B : Nat → Nat) (W : T Nat) (tr : List Rc) (Hs : Nat → H) (a0 a1 af : T V) (h0 h1 hf : H) : Prop where
  g : StG P st
  W1 : ∀ (m : Nat) (o : Oper) (d : Nat), ops[m]? = some o → o.dst = some d → W.get d = some m
  W2 : ∀ d j, W.get d = some j → ∃ o, ops[j]? = some o ∧ o.dst = some d
  ok : ∀ (i : Nat) (o : Oper), ops[i]? = some o → opOk ops B W i o = true
  F : FOk P N ops a0 a1 h0 h1
  t : TrOk P st N ops ops.toList 0 0 a1 h1 tr af hf Hs
  chain : chainOk B (tr.filter isE) = true
  pairs : ∀ r, r ∈ tr → r.c = 2 → ∀ e, e ∈ tr → e.c = 3 → pairOk st B r e = true
section
variable {P : Program} {st : St} {N : Nat} {ops : Array Oper} {B : Nat → Nat} {W : T Nat} {tr : List Rc} {Hs : Nat → H} {a0 a1 af : T V} {h0 h1 hf : H} {ρ0 : Env} {w0 : World}
theorem getD_set {listed : Array Bool} {i : Nat} (hi : i < listed.size) (j : Nat) : (listed.setIfInBounds i true).getD j false = if i = j then true else listed.getD j false := by
  by_cases h : i = j
  · subst h
    simp [Array.getD_eq_getD_getElem?, hi]
  · rw [if_neg h]
    exact getD_set_ne false h
theorem getD_true_false {listed : Array Bool} {i : Nat} (hi : i < listed.size) : listed.getD i true = listed.getD i false := by
  simp [Array.getD_eq_getD_getElem?, Array.getElem?_eq_getElem hi]
variable (I : Info P st N ops B W tr Hs a0 a1 af h0 h1 hf)
include I
theorem Info.edges {i : Nat} {o : Oper} (ho : ops[i]? = some o) : (∀ e, e ∈ o.after.toList → Region.binds .any e = true → e.on < i) ∧ B i = edgeBits B o.after.toList ∧ ∀ t, t ∈ o.looksAt ops → tmpOk B W i t = true := by
  have h := I.ok i o ho
  unfold opOk at h
  simp only [Bool.and_eq_true, List.all_eq_true] at h
  obtain ⟨⟨h1, h2⟩, h3⟩ := h
  refine ⟨fun e he hb => ?_, Nat.eq_of_beq_eq_true h2, h3⟩
  have := h1 e he
  rw [hb] at this
  simpa [Nat.blt_eq] using this
/-- A ready operation's bits are all carried out. -/
theorem Info.bits {k : Nat} {ρ : Env} {listed : Array Bool} {act : Act} {w : World} (v : Inv P N ops B W tr Hs a0 h0 h1 ρ0 w0 k ρ listed act w) {i : Nat} {o : Oper} (ho : ops[i]? = some o) (hr : i ∈ Region.ready .any ops listed) :
    listed.getD i false = false ∧ ∀ x, bit (B i) x = true → listed.getD x false = true := by
  obtain ⟨h1, oj, h2, h3⟩ := mem_ready.mp hr
  have hi : i < ops.size := (Array.getElem?_eq_some_iff.mp ho).1
  rw [ho] at h2; injection h2 with h2; subst h2
  refine ⟨by rw [← getD_true_false (by rw [v.lsz]; exact hi)]; exact h1, fun x hx => ?_⟩
  rw [(I.edges ho).2.1] at hx
  obtain ⟨e, q1, q2, q3⟩ := edgeBits_spec hx
  have hl := h3 e (by simpa using q1) q2
  rcases q3 with q3 | q3
  · rw [← q3]; exact hl
  · exact (v.down _ hl).2 x q3
/-- What an operation looks at stands. -/
theorem Info.looks {k : Nat} {ρ : Env} {listed : Array Bool} {act : Act} {w : World} (v : Inv P N ops B W tr Hs a0 h0 h1 ρ0 w0 k ρ listed act w) {rc : Rc} (hrc : rc ∈ tr) (ho : ops[rc.i]? = some rc.o) (hu : listed.getD rc.i false = false) (hb : ∀ x, bit (B rc.i) x = true → listed.getD x false = true)
    {t : Nat} (ht : t ∈ rc.o.looksAt ops) {u : V} (hg : rc.a.get t = some u) : VRel ρ u (act.tmps.getD t undef) := by
  have htk := (I.edges ho).2.2 t ht
  have hopx : ∀ x, x ∈ tr → ops[x.i]? = some x.o := fun x hx => by
    obtain ⟨_, ⟨m, q2, q3⟩, _⟩ := I.t.mem x hx
    rw [q2, Nat.zero_add, ← Array.getElem?_toList]; exact q3
  rcases I.t.slot rc hrc t u hg with ⟨x, q1, q2, q3, rfl⟩ | ⟨q1, q2⟩
  · rcases tmpOk_spec htk (I.W1 _ _ _ (hopx x q1) q3) with ⟨_, r2⟩ | ⟨r1, _⟩
    · exact v.s1 x q1 (hb _ r2) t q3
    · omega
  · rcases I.F.slot t u q1 with ⟨fi, fo, p1, p2, p3, rfl⟩ | ⟨p1, p2⟩
    · rcases tmpOk_spec htk (I.W1 _ _ _ p1 p3) with ⟨_, r2⟩ | ⟨r1, r2⟩
      · exact v.s2 fi fo p1 p2 (hb _ r2) t p3
      · exfalso
        obtain ⟨_, _, _, _, _, _, _, haf, _⟩ := I.F.form fi fo p1 p2
        rw [(I.edges p1).2.1, haf] at r2
        simp [edgeBits, bit] at r2
    · refine v.s3 t u p1 fun j hj => ?_
      obtain ⟨oj, hoj, hdj⟩ := I.W2 t j hj
      rcases tmpOk_spec htk hj with ⟨r1, _⟩ | ⟨_, r2⟩
      · exfalso
        cases hF : isF oj with
        | true => exact p2 j oj hoj hF hdj
        | false =>
          obtain ⟨x, x1, x2, x3⟩ := I.t.cover j oj (by rw [Array.getElem?_toList]; exact hoj) hF
          exact q2 x x1 (by omega) (by rw [x3]; exact hdj)
      · cases hl : listed.getD j false with
        | false => rfl
        | true =>
          have := (v.down j hl).2 _ r2
          rw [hu] at this; cases this
theorem Info.op {x : Rc} (hx : x ∈ tr) : ops[x.i]? = some x.o := by
  obtain ⟨_, ⟨m, q2, q3⟩, _⟩ := I.t.mem x hx
  rw [q2, Nat.zero_add, ← Array.getElem?_toList]; exact q3
/-- The state behind one more operation, but that which makes the variable. -/
theorem Info.after {k k' : Nat} {ρ ρ' : Env} {listed : Array Bool} {act : Act} {w w' : World} (v : Inv P N ops B W tr Hs a0 h0 h1 ρ0 w0 k ρ listed act w) {rc : Rc} (hrc : rc ∈ tr) (hu : listed.getD rc.i false = false) (hb : ∀ x, bit (B rc.i) x = true → listed.getD x false = true)
    {q : Value} (hs : Step ρ (Hs k) w ρ' (Hs k') w') (hq : VRel ρ' rc.v q) (hk : (rc.c = 3 ∧ k' = k + 1 ∧ rc.k = k) ∨ (rc.c ≠ 3 ∧ k' = k)) :
    Inv P N ops B W tr Hs a0 h0 h1 ρ0 w0 k' ρ' (listed.setIfInBounds rc.i true) (act.put rc.o.dst q) w' := by
  have hop := I.op hrc
  have hi : rc.i < ops.size := (Array.getElem?_eq_some_iff.mp hop).1
  have hil : rc.i < listed.size := by rw [v.lsz]; exact hi
  have hdb : ∀ d, rc.o.dst = some d → d < N := (I.t.mem rc hrc).2.2.2.2.2.1
  have put_same : ∀ t, rc.o.dst = some t → (act.put rc.o.dst q).tmps.getD t undef = q := by
    intro t ht
    rw [ht]
    simp only [Act.put, Array.getD_eq_getD_getElem?, Array.getElem?_setIfInBounds, if_true]
    rw [if_pos (by rw [v.size]; exact hdb t ht)]
    rfl
  have put_ne : ∀ t, rc.o.dst ≠ some t → (act.put rc.o.dst q).tmps.getD t undef = act.tmps.getD t undef := by
    intro t ht
    cases hd : rc.o.dst with
    | none => rfl
    | some d =>
      have hne : d ≠ t := fun e => ht (by rw [hd, e])
      simp only [Act.put, Array.getD_eq_getD_getElem?, Array.getElem?_setIfInBounds, if_neg hne]
  have eff_of : ∀ e, e ∈ tr → e.c = 3 → ∃ j, (tr.filter isE)[j]? = some e ∧ e.k = j := by
    intro e he hc
    obtain ⟨j, hj⟩ := List.getElem?_of_mem (List.mem_filter.mpr ⟨he, by unfold isE; rw [hc]; rfl⟩ : e ∈ tr.filter isE)
    exact ⟨j, hj, by have := I.t.effs j e hj; omega⟩
  refine ⟨v.step.trans hs, ?_, ?_, ?_, ?_, ?_, ?_, ?_, ?_, ?_, by simp [v.lsz]⟩
  · rcases hk with ⟨c, rfl, c2⟩ | ⟨_, rfl⟩
    · obtain ⟨j, hj, hjk⟩ := eff_of rc hrc c
      have := (List.getElem?_eq_some_iff.mp hj).1
      omega
    · exact v.kle
  · intro j e he
    have hem : e ∈ tr := (List.mem_filter.mp (List.mem_of_getElem? he)).1
    have hec : e.c = 3 := by have := (List.mem_filter.mp (List.mem_of_getElem? he)).2; exact Nat.eq_of_beq_eq_true this
    have hek : e.k = j := by have := I.t.effs j e he; omega
    rw [getD_set hil]
    by_cases c : rc.i = e.i
    · rw [if_pos c]
      have hre : rc = e := I.t.inj rc e hrc hem c
      subst hre
      rcases hk with ⟨_, rfl, c2⟩ | ⟨c1, _⟩
      · simp; omega
      · exact absurd hec c1
    · rw [if_neg c]
      rcases hk with ⟨c1, rfl, c2⟩ | ⟨_, rfl⟩
      · rw [v.effs j e he]
        constructor
        · intro h; omega
        · intro h
          have : j ≠ k := by
            intro e1
            obtain ⟨j', hj', hjk'⟩ := eff_of rc hrc c1
            have : j' = j := by omega
            rw [this, he] at hj'
            injection hj' with hj'
            exact c (by rw [hj'])
          omega
      · exact v.effs j e he
  · cases hd : rc.o.dst with
    | none => exact v.defers
    | some d => exact v.defers
  · cases hd : rc.o.dst with
    | none => exact v.size
    | some d => simp [Act.put, v.size]
  · intro x hx hl t ht
    rw [getD_set hil] at hl
    by_cases c : rc.i = x.i
    · have := I.t.inj rc x hrc hx c
      subst this
      rw [put_same t ht]; exact hq
    · rw [if_neg c] at hl
      rw [put_ne t]
      · exact (v.s1 x hx hl t ht).ext hs.ext
      · intro e
        have e1 := I.W1 _ _ _ hop e
        have e2 := I.W1 _ _ _ (I.op hx) ht
        rw [e1] at e2; injection e2 with e2; exact c e2
  · intro i o ho hF hl t ht
    rw [getD_set hil] at hl
    have hne : rc.i ≠ i := by
      intro e
      rw [← e, hop] at ho; injection ho with ho
      have := (I.t.mem rc hrc).2.2.1
      rw [ho, hF] at this; cases this
    rw [if_neg hne] at hl
    rw [put_ne t]
    · exact (v.s2 i o ho hF hl t ht).ext hs.ext
    · intro e
      have e1 := I.W1 _ _ _ hop e
      have e2 := I.W1 _ _ _ ho ht
      rw [e1] at e2; injection e2 with e2; exact hne e2
  · intro t u hu' hno
    have hno' : ∀ j, W.get t = some j → listed.getD j false = false := by
      intro j hj
      have := hno j hj
      rw [getD_set hil] at this
      by_cases c : rc.i = j
      · rw [if_pos c] at this; cases this
      · rw [if_neg c] at this; exact this
    rw [put_ne t]
    · exact (v.s3 t u hu' hno').ext hs.ext
    · intro e
      have := hno _ (I.W1 _ _ _ hop e)
      rw [getD_set hil, if_pos rfl] at this; cases this
  · intro i o ho hF hl
    rw [getD_set hil] at hl
    by_cases c : rc.i = i
    · rw [if_pos c] at hl; cases hl
    · rw [if_neg c] at hl
      obtain ⟨g1, g2, hlt⟩ := v.gh i o ho hF hl
      refine ⟨?_, ?_, Nat.lt_of_lt_of_le hlt hs.next⟩
      · cases hn : ρ' h0.next with
        | none => rfl
        | some e =>
          rcases hs.ext.new _ _ hn with ⟨e', he', _⟩ | ⟨_, h2, _⟩
          · rw [g1] at he'; cases he'
          · omega
      · rw [hs.own _ hlt g1]; exact g2
  · intro i hl
    rw [getD_set hil] at hl
    by_cases c : rc.i = i
    · rw [← c]
      refine ⟨hi, fun x hx => ?_⟩
      rw [getD_set hil]
      by_cases c2 : rc.i = x
      · rw [if_pos c2]
      · rw [if_neg c2]; exact hb x hx
    · rw [if_neg c] at hl
      obtain ⟨d1, d2⟩ := v.down i hl
      refine ⟨d1, fun x hx => ?_⟩
      rw [getD_set hil]
      by_cases c2 : rc.i = x
      · rw [if_pos c2]
      · rw [if_neg c2]; exact d2 x hx
end
end Go.Ev
