/- A region whose order is drawn comes, in every order, to what the kernel reckoned in one: the end of the proof. No condition but what each theorem says. -/
import Derived.Test.YtpjilbhhhpikaaaGreatEvDI
namespace Go.Ev
set_option linter.unusedVariables false
set_option linter.unusedSimpArgs false
open Go
theorem looks_tmp {ops : Array Oper} {o : Oper} {t : Nat} (h : Operand.tmp t ∈ o.op.operands) : t ∈ o.looksAt ops :=
  List.mem_append_left _ (List.mem_filterMap.2 ⟨.tmp t, by simpa using h, rfl⟩)
theorem countP_lt {α : Type} {p q : α → Bool} (hpq : ∀ x, q x = true → p x = true) : ∀ {l : List α} {x : α}, x ∈ l → p x = true → q x = false → l.countP q < l.countP p
  | y :: l, x, hx, hp, hq => by
    rw [List.countP_cons, List.countP_cons]
    have hle : l.countP q ≤ l.countP p := List.countP_mono_left fun z _ hz => hpq z hz
    rcases List.mem_cons.mp hx with h | h
    · subst h
      rw [if_pos hp, if_neg (by rw [hq]; exact Bool.false_ne_true)]; omega
    · have := countP_lt hpq h hp hq
      by_cases c : q y = true
      · rw [if_pos c, if_pos (hpq y c)]; omega
      · rw [if_neg c]; split <;> omega
section
variable {P : Program} {st : St} {N : Nat} {ops : Array Oper} {B : Nat → Nat} {W : T Nat} {tr : List Rc} {Hs : Nat → H} {a0 a1 af : T V} {h0 h1 hf : H} {ρ0 : Env} {w0 : World}
variable (I : Info P st N ops B W tr Hs a0 a1 af h0 h1 hf)
include I
theorem Info.eff {j : Nat} {e : Rc} (he : (tr.filter isE)[j]? = some e) : e ∈ tr ∧ e.c = 3 ∧ e.k = j := by
  refine ⟨(List.mem_filter.mp (List.mem_of_getElem? he)).1, ?_, ?_⟩
  · have := (List.mem_filter.mp (List.mem_of_getElem? he)).2; exact Nat.eq_of_beq_eq_true this
  · have := I.t.effs j e he; omega
/-- The effects ahead of one whose bits are carried out are carried out. -/
theorem Info.ahead {k : Nat} {ρ : Env} {listed : Array Bool} {act : Act} {w : World} (v : Inv P N ops B W tr Hs a0 h0 h1 ρ0 w0 k ρ listed act w) : ∀ (j : Nat) (e : Rc), (tr.filter isE)[j]? = some e → (∀ x, bit (B e.i) x = true → listed.getD x false = true) → ∀ j', j' < j → ∀ e', (tr.filter isE)[j']? = some e' → listed.getD e'.i false = true
  | 0, _, _, _, j', h, _, _ => absurd h (Nat.not_lt_zero _)
  | j + 1, e, he, hb, j', hlt, e', he' => by
    have hj : j < (tr.filter isE).length := by have := (List.getElem?_eq_some_iff.mp he).1; omega
    have hp : (tr.filter isE)[j]? = some (tr.filter isE)[j] := List.getElem?_eq_getElem hj
    have hl := hb _ (chainOk_spec _ I.chain j _ e hp he)
    by_cases c : j' = j
    · subst c
      rw [hp] at he'; injection he' with he'; rw [← he']; exact hl
    · exact Info.ahead v j _ hp (v.down _ hl).2 j' (by omega) e' he'
/-- An operation that only reads comes to the same wherever it is carried out. -/
theorem Info.stage {k : Nat} {ρ : Env} {listed : Array Bool} {act : Act} {w : World} (v : Inv P N ops B W tr Hs a0 h0 h1 ρ0 w0 k ρ listed act w) {rc : Rc} (hrc : rc ∈ tr) (hu : listed.getD rc.i false = false) (hb : ∀ x, bit (B rc.i) x = true → listed.getD x false = true)
    (hc : rc.c = cls P rc.o.op) (h3 : rc.c ≠ 3) (hst : st (evA rc.a) rc.h rc.o = some (rc.v, rc.h)) : ∃ v2, st (evA rc.a) (Hs k) rc.o = some (v2, Hs k) ∧ ∀ (ρ : Env) (c : Value), VRel ρ v2 c → VRel ρ rc.v c := by
  have hrh : rc.h = Hs rc.k := (I.t.mem rc hrc).2.2.2.2.1
  rcases cls_vals P rc.o.op with c1 | c1 | c1
  · exact ⟨rc.v, I.g.pu _ _ _ _ _ c1 hst _, fun _ _ h => h⟩
  · have hc2 : rc.c = 2 := hc.trans c1
    have same : ∀ h2, sameAt st rc h2 = true → ∃ v2, st (evA rc.a) h2 rc.o = some (v2, h2) ∧ ∀ (ρ : Env) (c : Value), VRel ρ v2 c → VRel ρ rc.v c := by
      intro h2 hs
      unfold sameAt at hs
      split at hs
      · rename_i v2 h3' hst2
        obtain rfl := I.g.rd _ _ _ _ _ (by rw [c1]; decide) hst2
        exact ⟨v2, hst2, fun _ _ h => eqW_rel hs h⟩
      · cases hs
    rcases Nat.lt_trichotomy rc.k k with hlt | heq | hgt
    · obtain ⟨e, he⟩ : ∃ e, (tr.filter isE)[k - 1]? = some e := ⟨_, List.getElem?_eq_getElem (by have := v.kle; omega)⟩
      obtain ⟨e1, e2, e3⟩ := I.eff he
      have hel : listed.getD e.i false = true := (v.effs _ e he).mpr (by omega)
      have hp := I.pairs rc hrc hc2 e e1 e2
      have hlt2 : rc.i < e.i := by
        rcases Nat.lt_trichotomy rc.i e.i with h | h | h
        · exact h
        · have := I.t.inj rc e hrc e1 h; rw [this, e2] at hc2; omega
        · have := (I.t.order e rc e1 hrc h).2 e2; omega
      unfold pairOk at hp
      split at hp
      · rename_i hb2; have : e.i < rc.i := by simpa [Nat.blt_eq] using hb2
        omega
      · split at hp
        · rename_i hbit
          have := (v.down _ hel).2 _ hbit
          rw [hu] at this; cases this
        · have heh : e.h' = Hs k := by
            obtain ⟨_, _, _, _, _, _, q⟩ := I.t.mem e e1
            rcases q with ⟨q, _⟩ | ⟨_, q, _⟩ | ⟨_, _, _, q⟩
            · rw [e2] at q; cases q
            · exact absurd e2 q
            · rw [q, e3]; congr 1; omega
          rw [heh] at hp
          exact same _ hp
    · rw [← heq, ← hrh]; exact ⟨rc.v, hst, fun _ _ h => h⟩
    · obtain ⟨e, he⟩ : ∃ e, (tr.filter isE)[k]? = some e := ⟨_, List.getElem?_eq_getElem (by have := I.t.kmax rc hrc; omega)⟩
      obtain ⟨e1, e2, e3⟩ := I.eff he
      have hel : listed.getD e.i false = false := by
        cases hl : listed.getD e.i false with
        | false => rfl
        | true => have := (v.effs _ e he).mp hl; omega
      have hp := I.pairs rc hrc hc2 e e1 e2
      have hlt2 : e.i < rc.i := by
        rcases Nat.lt_trichotomy e.i rc.i with h | h | h
        · exact h
        · have := I.t.inj e rc e1 hrc h; rw [← this, e2] at hc2; omega
        · have := (I.t.order rc e hrc e1 h).1; omega
      unfold pairOk at hp
      split at hp
      · split at hp
        · rename_i hbit
          have := hb _ hbit
          rw [hel] at this; cases this
        · have heh : e.h = Hs k := by rw [(I.t.mem e e1).2.2.2.2.1, e3]
          rw [heh] at hp
          exact same _ hp
      · rename_i hb2
        have : ¬ e.i < rc.i := fun h => by
          have h' : Nat.blt e.i rc.i = true := by rw [Nat.blt_eq]; exact h
          rw [h'] at hb2; cases hb2
        omega
  · exact absurd (hc.trans c1) h3
theorem Info.evs {k : Nat} {ρ : Env} {listed : Array Bool} {act : Act} {w : World} (v : Inv P N ops B W tr Hs a0 h0 h1 ρ0 w0 k ρ listed act w) {rc : Rc} (hrc : rc ∈ tr) (hu : listed.getD rc.i false = false) (hb : ∀ x, bit (B rc.i) x = true → listed.getD x false = true) :
    ∀ x, x ∈ rc.o.op.operands → ∀ u, evA rc.a x = some u → VRel ρ u (act.eval x) := by
  intro x hx u hu'
  cases x with
  | tmp t => exact I.looks v hrc (I.op hrc) hu hb (looks_tmp hx) hu'
  | const c => exact constV_rel hu'
  | func f =>
    have hu' : some (V.func f []) = some u := hu'
    injection hu' with hu'; subst hu'
    exact .func rfl fun i v c hv _ => by simp at hv
  | global g => cases hu'
/-- One more operation, but that which makes the variable. -/
theorem Info.one {k : Nat} {ρ : Env} {listed : Array Bool} {act : Act} {w : World} (v : Inv P N ops B W tr Hs a0 h0 h1 ρ0 w0 k ρ listed act w) {rc : Rc} (hrc : rc ∈ tr) (hu : listed.getD rc.i false = false) (hb : ∀ x, bit (B rc.i) x = true → listed.getD x false = true)
    {K : Act → World → Prop} {Q : Exit → Act → World → Prop} (hK : ∀ k' ρ' act' w', Inv P N ops B W tr Hs a0 h0 h1 ρ0 w0 k' ρ' (listed.setIfInBounds rc.i true) act' w' → K act' w') : wpOp P ops Q rc.i K act w := by
  have hwant : ∀ b, want ops rc.a rc.o = some b → Region.wanted rc.o (yielded ops act.tmps) = b := by
    intro b hw
    refine want_sound' (fun t u hg hget => I.looks v hrc (I.op hrc) hu hb ?_ hget) hw
    obtain ⟨j, wn, hg, hd⟩ := hg
    unfold Oper.looksAt
    rw [hg]
    exact List.mem_append_right _ (by simp [hd])
  unfold wpOp
  rw [I.op hrc]
  simp only
  obtain ⟨_, _, _, _, hrh, _, q⟩ := I.t.mem rc hrc
  rcases q with ⟨c0, hw, hv⟩ | ⟨hc, h3, hw, hst⟩ | ⟨c3, hw, hst, hh'⟩
  · rw [hwant _ hw]
    simp only [Bool.false_eq_true, if_false]
    exact hK k ρ _ w (I.after v hrc hu hb (Step.refl v.step.rel) (by rw [hv]; exact undef_rel) (.inr ⟨by rw [c0]; decide, rfl⟩))
  · rw [hwant _ hw, if_pos rfl]
    obtain ⟨v2, hst2, hv2⟩ := I.stage v hrc hu hb hc h3 hst
    exact .inl (I.g.ok _ _ _ _ _ hst2 ρ w act v.step.rel v.defers (I.evs v hrc hu hb) K Q fun ρ' w' q hs hq => hK k ρ' _ w' (I.after v hrc hu hb hs (hv2 _ _ hq) (.inr ⟨h3, rfl⟩)))
  · rw [hwant _ hw, if_pos rfl]
    obtain ⟨j, hj⟩ := List.getElem?_of_mem (List.mem_filter.mpr ⟨hrc, by unfold isE; rw [c3]; rfl⟩ : rc ∈ tr.filter isE)
    obtain ⟨_, _, hjk⟩ := I.eff hj
    have hkk : rc.k = k := by
      have h1 : ¬ j < k := fun h => by have := (v.effs j rc hj).mpr h; rw [hu] at this; cases this
      rcases Nat.lt_or_ge k j with h2 | h2
      · exfalso
        have hkl : k < (tr.filter isE).length := by have := (List.getElem?_eq_some_iff.mp hj).1; omega
        have hl := I.ahead v j rc hj hb k h2 _ (List.getElem?_eq_getElem hkl)
        have := (v.effs k _ (List.getElem?_eq_getElem hkl)).mp hl
        omega
      · omega
    rw [hrh, hkk, hh', hkk] at hst
    exact .inl (I.g.ok _ _ _ _ _ hst ρ w act v.step.rel v.defers (I.evs v hrc hu hb) K Q fun ρ' w' q hs hq => hK (k + 1) ρ' _ w' (I.after v hrc hu hb hs hq (.inl ⟨c3, rfl, hkk⟩)))
/-- The variable that is made ahead of everything, made now. -/
theorem Info.var {k : Nat} {ρ : Env} {listed : Array Bool} {act : Act} {w : World} (v : Inv P N ops B W tr Hs a0 h0 h1 ρ0 w0 k ρ listed act w) {i : Nat} {o : Oper} (ho : ops[i]? = some o) (hF : isF o = true) (hu : listed.getD i false = false) (hb : ∀ x, bit (B i) x = true → listed.getD x false = true)
    {K : Act → World → Prop} {Q : Exit → Act → World → Prop} (hK : ∀ k' ρ' act' w', Inv P N ops B W tr Hs a0 h0 h1 ρ0 w0 k' ρ' (listed.setIfInBounds i true) act' w' → K act' w') : wpOp P ops Q i K act w := by
  obtain ⟨ty, z, cv, n, d, t, hop, haf, hgd, _, ⟨it, hit, hz⟩, hcv, hrow, hh1, hdb⟩ := I.F.form i o ho hF
  obtain ⟨g1, g2, g3⟩ := v.gh i o ho hF hu
  have hi : i < ops.size := (Array.getElem?_eq_some_iff.mp ho).1
  have hil : i < listed.size := by rw [v.lsz]; exact hi
  unfold wpOp
  rw [ho]
  simp only
  have hw : Region.wanted o (yielded ops act.tmps) = true := by unfold Region.wanted; rw [hgd]
  rw [hw, if_pos rfl]
  refine .inl ?_
  have hrun : (execOp act.eval o).run P w = .ok (.value (.pointer (some ⟨w.heap.size, 0, none⟩))) { w with heap := w.heap.push (.cells z.cells ty) } := by
    unfold execOp
    rw [hop]
    dsimp only
    have hzv : (zeroValue ty).run P w = .ok z w := by simp [zeroValue, typeInfo, hit, hz]
    simp [Instr.alloc, hzv, newVar, newRow]
  unfold Oper.wp
  rw [hrun]
  have hget : (Hs k).t.get h0.next = some (.cells ty 0 0 false n d t) := by rw [g2, hh1]; exact T.get_set_same _ _ _
  obtain ⟨hs, hx⟩ := Step.link (e := ⟨w.heap.size, 0, 0, n, 0, false⟩) (ob := .cells z.cells ty) v.step g1 hget (Nat.le_refl _) g3 rfl (fun ρ' => by
    obtain ⟨r1, r2⟩ := rowOf_rel (ρ := ρ') (constV_rel hcv) hrow
    refine ⟨rfl, rfl, rfl, z.cells, (0, 0), rfl, by rw [r1]; exact (Nat.zero_add _).symm, Nat.le_refl _, fun i hi hf => absurd hf.2 (Nat.not_lt_zero _), fun i hi => ?_⟩
    obtain ⟨u, y, q1, q2, q3⟩ := r2 i hi
    exact ⟨u, y, q1, by rw [Nat.zero_add]; exact q2, q3⟩)
  show K (act.put o.dst (.pointer (some ⟨w.heap.size, 0, none⟩))) { w with heap := w.heap.push (.cells z.cells ty) }
  refine hK k (fun j => if j = h0.next then some ⟨w.heap.size, 0, 0, n, 0, false⟩ else ρ j) _ _ ?_
  have put_same : ∀ t', o.dst = some t' → (act.put o.dst (.pointer (some ⟨w.heap.size, 0, none⟩))).tmps.getD t' undef = .pointer (some ⟨w.heap.size, 0, none⟩) := by
    intro t' ht
    rw [ht]
    simp only [Act.put, Array.getD_eq_getD_getElem?, Array.getElem?_setIfInBounds, if_true]
    rw [if_pos (by rw [v.size]; exact hdb t' ht)]
    rfl
  have put_ne : ∀ t', o.dst ≠ some t' → (act.put o.dst (.pointer (some ⟨w.heap.size, 0, none⟩))).tmps.getD t' undef = act.tmps.getD t' undef := by
    intro t' ht
    cases hd : o.dst with
    | none => rfl
    | some d' =>
      have hne : d' ≠ t' := fun e => ht (by rw [hd, e])
      simp only [Act.put, Array.getD_eq_getD_getElem?, Array.getElem?_setIfInBounds, if_neg hne]
  have hno : ∀ x, x ∈ tr → x.i ≠ i := by
    intro x hx e
    have h2 := I.op hx
    rw [e, ho] at h2; injection h2 with h2
    have := (I.t.mem x hx).2.2.1
    rw [← h2, hF] at this; cases this
  refine ⟨hs, v.kle, ?_, ?_, ?_, ?_, ?_, ?_, ?_, ?_, by simp [v.lsz]⟩
  · intro j e he
    rw [getD_set hil, if_neg (Ne.symm (hno e (I.eff he).1))]
    exact v.effs j e he
  · cases hd : o.dst with
    | none => exact v.defers
    | some d => exact v.defers
  · cases hd : o.dst with
    | none => exact v.size
    | some d => simp [Act.put, v.size]
  · intro x hx' hl t' ht
    rw [getD_set hil, if_neg (Ne.symm (hno x hx'))] at hl
    rw [put_ne t']
    · exact (v.s1 x hx' hl t' ht).ext hx
    · intro e
      have e1 := I.W1 _ _ _ ho e
      have e2 := I.W1 _ _ _ (I.op hx') ht
      rw [e1] at e2; injection e2 with e2; exact hno x hx' e2.symm
  · intro i' o' ho' hF' hl t' ht
    have hii := I.F.one i i' o o' ho hF ho' hF'
    subst hii
    rw [ho] at ho'; injection ho' with ho'; subst ho'
    rw [put_same t' ht]
    exact VRel.ptr (e := ⟨w.heap.size, 0, 0, n, 0, false⟩) (if_pos rfl) rfl
  · intro t' u hu' hnw
    have hno' : ∀ j, W.get t' = some j → listed.getD j false = false := by
      intro j hj
      have := hnw j hj
      rw [getD_set hil] at this
      by_cases c : i = j
      · rw [if_pos c] at this; cases this
      · rw [if_neg c] at this; exact this
    rw [put_ne t']
    · exact (v.s3 t' u hu' hno').ext hx
    · intro e
      have := hnw _ (I.W1 _ _ _ ho e)
      rw [getD_set hil, if_pos rfl] at this; cases this
  · intro i' o' ho' hF' hl
    have hii := I.F.one i i' o o' ho hF ho' hF'
    subst hii
    rw [getD_set hil, if_pos rfl] at hl; cases hl
  · intro i' hl
    rw [getD_set hil] at hl
    by_cases c : i = i'
    · rw [← c]
      refine ⟨hi, fun x hx' => ?_⟩
      rw [getD_set hil]
      by_cases c2 : i = x
      · rw [if_pos c2]
      · rw [if_neg c2]; exact hb x hx'
    · rw [if_neg c] at hl
      obtain ⟨d1, d2⟩ := v.down i' hl
      refine ⟨d1, fun x hx' => ?_⟩
      rw [getD_set hil]
      by_cases c2 : i = x
      · rw [if_pos c2]
      · rw [if_neg c2]; exact d2 x hx'
/-- All were carried out. -/
theorem Info.done {k : Nat} {ρ : Env} {listed : Array Bool} {act : Act} {w : World} (v : Inv P N ops B W tr Hs a0 h0 h1 ρ0 w0 k ρ listed act w) (hall : ∀ i, i < ops.size → listed.getD i false = true) : Step ρ0 h0 w0 ρ hf w ∧ ARel ρ N af act := by
  have hlt : ∀ x, x ∈ tr → x.i < ops.size := fun x hx => (Array.getElem?_eq_some_iff.mp (I.op hx)).1
  have hk : k = (tr.filter isE).length := by
    rcases Nat.lt_or_ge k (tr.filter isE).length with h | h
    · exfalso
      have he : (tr.filter isE)[k]? = some (tr.filter isE)[k] := List.getElem?_eq_getElem h
      have := (v.effs k _ he).mp (hall _ (hlt _ (I.eff he).1))
      omega
    · exact Nat.le_antisymm v.kle h
  have hlast := I.t.last
  rw [Nat.zero_add, ← hk] at hlast
  refine ⟨by rw [← hlast]; exact v.step, v.defers, v.size, fun t u hu => ?_⟩
  rcases I.t.fin t u hu with ⟨x, q1, q2, rfl⟩ | ⟨q1, q2⟩
  · exact v.s1 x q1 (hall _ (hlt x q1)) t q2
  · rcases I.F.slot t u q1 with ⟨fi, fo, p1, p2, p3, rfl⟩ | ⟨p1, p2⟩
    · exact v.s2 fi fo p1 p2 (hall _ (Array.getElem?_eq_some_iff.mp p1).1) t p3
    · refine v.s3 t u p1 fun j hj => ?_
      exfalso
      obtain ⟨oj, hoj, hdj⟩ := I.W2 t j hj
      cases hF : isF oj with
      | true => exact p2 j oj hoj hF hdj
      | false =>
        obtain ⟨x, x1, x2, x3⟩ := I.t.cover j oj (by rw [Array.getElem?_toList]; exact hoj) hF
        exact q2 x x1 (by rw [x3]; exact hdj)
theorem Info.main {Q : Exit → Act → World → Prop} (hQ : ∀ ρ' w' act', Step ρ0 h0 w0 ρ' hf w' → ARel ρ' N af act' → Q .normal act' w') : ∀ (fuel : Nat) (k : Nat) (ρ : Env) (listed : Array Bool) (act : Act) (w : World), Inv P N ops B W tr Hs a0 h0 h1 ρ0 w0 k ρ listed act w → (List.range ops.size).countP (fun j => !listed.getD j false) ≤ fuel → wpAny P .any ops Q fuel listed act w := by
  intro fuel
  have fin : ∀ (k : Nat) (ρ : Env) (listed : Array Bool) (act : Act) (w : World), Inv P N ops B W tr Hs a0 h0 h1 ρ0 w0 k ρ listed act w → (∀ i, i < ops.size → listed.getD i false = true) → Q .normal act w := by
    intro k ρ listed act w v hall
    obtain ⟨h1, h2⟩ := I.done v hall
    exact hQ ρ w act h1 h2
  have ready_nil : ∀ (listed : Array Bool), listed.size = ops.size → Region.ready .any ops listed = [] → ∀ i, i < ops.size → listed.getD i false = true := by
    intro listed hsz hr i
    induction i using Nat.strongRecOn with
    | _ i ih =>
      intro hi
      cases hl : listed.getD i false with
      | true => rfl
      | false =>
        exfalso
        have ho : ops[i]? = some ops[i] := Array.getElem?_eq_getElem hi
        have hmem : i ∈ Region.ready .any ops listed := by
          refine mem_ready.mpr ⟨by rw [getD_true_false (by rw [hsz]; exact hi)]; exact hl, _, ho, fun e he hb => ?_⟩
          have hlt := (I.edges ho).1 e (by simpa using he) hb
          exact ih _ hlt (by omega)
        rw [hr] at hmem; cases hmem
  induction fuel with
  | zero =>
    intro k ρ listed act w v hc
    have hall : ∀ i, i < ops.size → listed.getD i false = true := by
      intro i hi
      cases hl : listed.getD i false with
      | true => rfl
      | false =>
        exfalso
        have : 0 < (List.range ops.size).countP (fun j => !listed.getD j false) := List.countP_pos_iff.mpr ⟨i, List.mem_range.mpr hi, by rw [hl]; rfl⟩
        omega
    refine ⟨?_, fin k ρ listed act w v hall⟩
    cases hr : Region.ready .any ops listed with
    | nil => rfl
    | cons i l =>
      exfalso
      have hmem : i ∈ Region.ready .any ops listed := by rw [hr]; exact List.mem_cons_self ..
      obtain ⟨h1, o, h2, _⟩ := mem_ready.mp hmem
      have hi : i < ops.size := (Array.getElem?_eq_some_iff.mp h2).1
      rw [getD_true_false (by rw [v.lsz]; exact hi), hall i hi] at h1; cases h1
  | succ fuel ih =>
    intro k ρ listed act w v hc
    refine ⟨fun hr => fin k ρ listed act w v (ready_nil listed v.lsz hr), fun i hi => ?_⟩
    obtain ⟨_, o, ho, _⟩ := mem_ready.mp hi
    obtain ⟨hu, hb⟩ := I.bits v ho hi
    have hil : i < ops.size := (Array.getElem?_eq_some_iff.mp ho).1
    have hcnt : (List.range ops.size).countP (fun j => !(listed.setIfInBounds i true).getD j false) ≤ fuel := by
      have hlt := countP_lt (p := fun j => !listed.getD j false) (q := fun j => !(listed.setIfInBounds i true).getD j false) (fun j hj => by
        rw [getD_set (by rw [v.lsz]; exact hil)] at hj
        by_cases c : i = j
        · rw [if_pos c] at hj; cases hj
        · rw [if_neg c] at hj; exact hj) (List.mem_range.mpr hil) (by rw [hu]; rfl) (by rw [getD_set (by rw [v.lsz]; exact hil), if_pos rfl]; rfl)
      omega
    have hK : ∀ k' ρ' act' w', Inv P N ops B W tr Hs a0 h0 h1 ρ0 w0 k' ρ' (listed.setIfInBounds i true) act' w' → wpAny P .any ops Q fuel (listed.setIfInBounds i true) act' w' := fun k' ρ' act' w' v' => ih k' ρ' _ act' w' v' hcnt
    cases hF : isF o with
    | true => exact I.var v ho hF hu hb hK
    | false =>
      obtain ⟨rc, r1, r2, r3⟩ := I.t.cover i o (by rw [Array.getElem?_toList]; exact ho) hF
      have r2 : rc.i = i := by omega
      subst r2
      exact I.one v r1 hu hb hK
end
theorem regD_ok {P : Program} (hm : P.follows .mixedOrders = true) : RdOk P (regD P) := by
  intro st hg N ops a h a' h' he ρ w act r ra id Q hQ
  unfold regD at he
  split at he
  · rename_i tab htab
    split at he
    · rename_i a1 h1 hF
      split at he
      · rename_i tr af hf htr
        split at he
        · rename_i hok
          injection he with he; injection he with e1 e2
          subst e1; subst e2
          unfold regInfo at htab
          split at htab
          · rename_i W hW
            split at htab
            · rename_i hall
              injection htab with htab; subst htab
              obtain ⟨Hs, ht⟩ := trD_spec hg ops.toList 0 0 a1 h1 tr af hf htr
              obtain ⟨w1, w2, w3⟩ := mkW_spec ops.toList 0 .e W hW
              unfold traceOk at hok
              simp only [Bool.and_eq_true, List.all_eq_true] at hok
              have hFo := runF_spec hg hF
              have I : Info P st N ops (tabB (mkTab ops.toList 0 .e)) W tr Hs a a1 af h h1 hf := by
                refine ⟨hg, fun m o d hm hd => ?_, fun d j hj => ?_, fun i o ho => ?_, hFo, ht, hok.1, fun r hr hc e he' hec => ?_⟩
                · have := w2 m o d (by rw [Array.getElem?_toList]; exact hm) hd
                  rwa [Nat.zero_add] at this
                · rcases w3 d j hj with h0 | ⟨m, o, q1, q2, q3⟩
                  · cases h0
                  · exact ⟨o, by rw [q3, Nat.zero_add, ← Array.getElem?_toList]; exact q1, q2⟩
                · have := allOk_spec ops.toList 0 hall i o (by rw [Array.getElem?_toList]; exact ho)
                  rwa [Nat.zero_add] at this
                · exact hok.2 r (List.mem_filter.mpr ⟨hr, by unfold isRd; rw [hc]; rfl⟩) e (List.mem_filter.mpr ⟨he', by unfold isE; rw [hec]; rfl⟩)
              refine wp_region_any hm ?_
              have hs0 : Step ρ h w ρ h { w with drawn := w.drawn + 1 } := Step.drew r rfl rfl rfl rfl
              have hrel1 : Rel ρ h1 { w with drawn := w.drawn + 1 } := by
                have hr1 := hs0.rel
                refine ⟨fun k e hk => ?_, hr1.inj, fun k e hk => Nat.lt_of_lt_of_le (hr1.lt k e hk) hFo.next⟩
                rw [hFo.own k (hr1.lt k e hk)]
                exact hr1.obj k e hk
              have hs1 : Step ρ h w ρ (Hs 0) { w with drawn := w.drawn + 1 } := by
                rw [ht.first]
                exact ⟨hs0.ext, hrel1, rfl, rfl, rfl, Nat.le_refl _, fun _ _ _ => rfl, hFo.next, fun k hk _ => hFo.own k hk⟩
              have gD : ∀ i, (Array.replicate ops.size false).getD i false = false := by
                intro i
                rw [Array.getD_eq_getD_getElem?, Array.getElem?_replicate]
                split <;> rfl
              refine I.main (ρ0 := ρ) (w0 := w) hQ ops.size 0 ρ _ act _ ⟨hs1, Nat.zero_le _, fun j e _ => ?_, ra.defers, ra.size, fun x _ hl => ?_, fun i o _ _ hl => ?_, fun t u hu _ => ra.get t u hu, fun i o ho hFi _ => ?_, fun i hl => ?_, by simp⟩ ?_
              · rw [gD]; constructor
                · intro h; cases h
                · intro h; omega
              · rw [gD] at hl; cases hl
              · rw [gD] at hl; cases hl
              · obtain ⟨_, _, _, _, _, _, _, _, _, _, _, _, _, hh1, _⟩ := hFo.form i o ho hFi
                refine ⟨?_, by rw [ht.first], by rw [ht.first, hh1]; exact Nat.lt_succ_self _⟩
                cases hk : ρ h.next with
                | none => rfl
                | some e => exact absurd (r.lt _ _ hk) (Nat.lt_irrefl _)
              · rw [gD] at hl; cases hl
              · exact Nat.le_trans List.countP_le_length (by simp)
            · cases htab
          · cases htab
        · cases he
      · cases he
    · cases he
  · cases he
end Go.Ev
