/- What is looked at of a region whose order is drawn, told one by one. No condition but what each theorem says. -/
import Derived.Test.YtpjilbhhhpikaaaGreatEvD
namespace Go.Ev
set_option linter.unusedVariables false
set_option linter.unusedSimpArgs false
open Go
theorem eqV_eq {x y : V} (he : eqV x y = true) : x = y := by
  unfold eqV at he
  split at he
  · split at he <;> first | rfl | cases he
  · simp only [Bool.and_eq_true] at he
    have h2 := he.2
    rw [eqI_eq] at h2
    rw [kindB_eq he.1, eq_of_beq h2]
  · simp only [Bool.and_eq_true] at he
    rw [Nat.eq_of_beq_eq_true he.1.1, Nat.eq_of_beq_eq_true he.1.2, Nat.eq_of_beq_eq_true he.2]
  · simp only [Bool.and_eq_true] at he
    rw [Nat.eq_of_beq_eq_true he.1.1.1, Nat.eq_of_beq_eq_true he.1.1.2, Nat.eq_of_beq_eq_true he.1.2, Nat.eq_of_beq_eq_true he.2]
  · simp only [Bool.and_eq_true] at he
    rw [Nat.eq_of_beq_eq_true he.1.1.1.1, Nat.eq_of_beq_eq_true he.1.1.1.2, Nat.eq_of_beq_eq_true he.1.1.2, Nat.eq_of_beq_eq_true he.1.2, Nat.eq_of_beq_eq_true he.2]
  · rw [Nat.eq_of_beq_eq_true he]
  all_goals first | rfl | cases he
theorem eqCells_spec {d d' : List (Nat × V)} {t t' : T V} : ∀ {n i : Nat}, eqCells d t d' t' n = true → i < n → ∃ v, rget d t i = some v ∧ rget d' t' i = some v
  | 0, _, _, hi => absurd hi (Nat.not_lt_zero _)
  | n + 1, i, he, hi => by
    unfold eqCells at he
    split at he
    · rename_i x y hx hy
      simp only [Bool.and_eq_true] at he
      by_cases c : i = n
      · subst c
        have := eqV_eq he.1
        subst this
        exact ⟨x, hx, hy⟩
      · exact eqCells_spec he.2 (by omega)
    · cases he
theorem eqW_rel {ρ : Env} {x y : V} {c : Value} (he : eqW x y = true) (hr : VRel ρ x c) : VRel ρ y c := by
  unfold eqW at he
  split at he
  · rename_i n d t n' d' t'
    simp only [Bool.and_eq_true] at he
    obtain rfl := Nat.eq_of_beq_eq_true he.1
    cases hr with
    | agg hs hd hh =>
    refine .agg hs (fun i hi => ?_) (fun i v c hv hc => ?_)
    · obtain ⟨v, _, h2⟩ := eqCells_spec he.2 hi
      exact ⟨v, h2⟩
    · have hi : i < n := by rw [← hs]; exact (Array.getElem?_eq_some_iff.mp hc).1
      obtain ⟨v', h1, h2⟩ := eqCells_spec he.2 hi
      rw [h2] at hv; injection hv with hv; subst hv
      exact hh i _ c h1 hc
  · rename_i t x t' y
    simp only [Bool.and_eq_true] at he
    obtain rfl := Nat.eq_of_beq_eq_true he.1
    obtain rfl := eqV_eq he.2
    exact hr
  · rw [← eqV_eq he]; exact hr
theorem mkW_spec : ∀ (l : List Oper) (i : Nat) (w W : T Nat), mkW l i w = some W → (∀ d j, w.get d = some j → W.get d = some j) ∧ (∀ m o d, l[m]? = some o → o.dst = some d → W.get d = some (i + m)) ∧
    (∀ d j, W.get d = some j → w.get d = some j ∨ ∃ m o, l[m]? = some o ∧ o.dst = some d ∧ j = i + m)
  | [], i, w, W, he => by
    injection he with he; subst he
    exact ⟨fun _ _ h => h, fun m o d h => by simp at h, fun _ _ h => .inl h⟩
  | o :: r, i, w, W, he => by
    unfold mkW at he
    split at he
    · rename_i hd
      obtain ⟨h1, h2, h3⟩ := mkW_spec r (i + 1) w W he
      refine ⟨h1, fun m o' d hm hd' => ?_, fun d j hj => ?_⟩
      · cases m with
        | zero => simp at hm; subst hm; rw [hd] at hd'; cases hd'
        | succ m => rw [show i + (m + 1) = i + 1 + m by omega]; exact h2 m o' d (by simpa using hm) hd'
      · rcases h3 d j hj with h | ⟨m, o', q1, q2, q3⟩
        · exact .inl h
        · exact .inr ⟨m + 1, o', by simpa using q1, q2, by omega⟩
    · rename_i d0 hd
      split at he
      · cases he
      · rename_i hw
        obtain ⟨h1, h2, h3⟩ := mkW_spec r (i + 1) (w.set d0 i) W he
        refine ⟨fun d j hj => h1 d j ?_, fun m o' d hm hd' => ?_, fun d j hj => ?_⟩
        · rw [T.get_set, if_neg]
          · exact hj
          · intro e; subst e; rw [hw] at hj; cases hj
        · cases m with
          | zero =>
            simp at hm; subst hm
            rw [hd] at hd'; injection hd' with hd'; subst hd'
            exact h1 _ _ (T.get_set_same _ _ _)
          | succ m => rw [show i + (m + 1) = i + 1 + m by omega]; exact h2 m o' d (by simpa using hm) hd'
        · rcases h3 d j hj with h | ⟨m, o', q1, q2, q3⟩
          · rw [T.get_set] at h
            by_cases c : d0 = d
            · rw [if_pos c] at h; injection h with h
              exact .inr ⟨0, o, rfl, by rw [hd, c], by omega⟩
            · rw [if_neg c] at h; exact .inl h
          · exact .inr ⟨m + 1, o', by simpa using q1, q2, by omega⟩
theorem allOk_spec {ops : Array Oper} {B : Nat → Nat} {W : T Nat} : ∀ (l : List Oper) (i : Nat), allOk ops B W l i = true → ∀ m o, l[m]? = some o → opOk ops B W (i + m) o = true
  | [], _, _, m, o, h => by simp at h
  | o :: r, i, he, m, o', hm => by
    unfold allOk at he
    simp only [Bool.and_eq_true] at he
    cases m with
    | zero => simp at hm; subst hm; exact he.1
    | succ m => rw [show i + (m + 1) = i + 1 + m by omega]; exact allOk_spec r (i + 1) he.2 m o' (by simpa using hm)
theorem tmpOk_spec {B : Nat → Nat} {W : T Nat} {i t j : Nat} (he : tmpOk B W i t = true) (hj : W.get t = some j) : (j < i ∧ bit (B i) j = true) ∨ (i < j ∧ bit (B j) i = true) := by
  unfold tmpOk at he
  rw [hj] at he
  simp only at he
  split at he
  · rename_i h1
    exact .inl ⟨by simpa [Nat.blt_eq] using h1, he⟩
  · split at he
    · rename_i h1
      exact .inr ⟨by simpa [Nat.blt_eq] using h1, he⟩
    · cases he
theorem chainOk_spec {B : Nat → Nat} : ∀ (l : List Rc), chainOk B l = true → ∀ (j : Nat) (e e2 : Rc), l[j]? = some e → l[j + 1]? = some e2 → bit (B e2.i) e.i = true
  | [], _, j, e, e2, h, _ => by simp at h
  | x :: r, he, j, e, e2, h1, h2 => by
    unfold chainOk at he
    split at he
    · simp at h2
    · rename_i e2' r'
      simp only [Bool.and_eq_true] at he
      cases j with
      | zero =>
        simp at h1 h2
        subst h1; subst h2
        exact he.1
      | succ j => exact chainOk_spec _ he.2 j e e2 (by simpa using h1) (by simpa using h2)
section
variable {P : Program} {st : St} {N : Nat} {ops : Array Oper}
theorem putA_get {a a' : T V} {o : Oper} {v : V} (hp : putA N a o v = some a') : (∀ d, o.dst = some d → d < N) ∧ ∀ t u, a'.get t = some u → (o.dst = some t ∧ u = v) ∨ (o.dst ≠ some t ∧ a.get t = some u) := by
  unfold putA at hp
  cases hd : o.dst with
  | none =>
    rw [hd] at hp; injection hp with hp; subst hp
    exact ⟨fun d h => (by cases h), fun t u h => .inr ⟨by simp, h⟩⟩
  | some d =>
    rw [hd] at hp
    simp only [forceV_eq, T.setK_eq] at hp
    split at hp
    · rename_i hle
      injection hp with hp; subst hp
      refine ⟨fun d' h => by injection h with h; subst h; exact Nat.le_of_ble_eq_true hle, fun t u hu => ?_⟩
      rw [← T.set_eq, T.get_set] at hu
      by_cases c : d = t
      · rw [if_pos c] at hu; injection hu with hu
        exact .inl ⟨by rw [c], hu.symm⟩
      · rw [if_neg c] at hu
        exact .inr ⟨by simpa using c, hu⟩
    · cases hp
/-- How one operation was reckoned. -/
def RcOk (P : Program) (st : St) (N : Nat) (ops : Array Oper) (Hs : Nat → H) (rc : Rc) : Prop :=
  rc.h = Hs rc.k ∧ (∀ d, rc.o.dst = some d → d < N) ∧
  ((rc.c = 0 ∧ want ops rc.a rc.o = some false ∧ rc.v = .tup []) ∨
   (rc.c = cls P rc.o.op ∧ rc.c ≠ 3 ∧ want ops rc.a rc.o = some true ∧ st (evA rc.a) rc.h rc.o = some (rc.v, rc.h)) ∨
   (rc.c = 3 ∧ want ops rc.a rc.o = some true ∧ st (evA rc.a) rc.h rc.o = some (rc.v, rc.h') ∧ rc.h' = Hs (rc.k + 1)))
structure TrOk (P : Program) (st : St) (N : Nat) (ops : Array Oper) (l : List Oper) (i k : Nat) (a : T V) (h : H) (tr : List Rc) (af : T V) (hf : H) (Hs : Nat → H) : Prop where
  first : Hs k = h
  last : Hs (k + (tr.filter isE).length) = hf
  cover : ∀ m o, l[m]? = some o → isF o = false → ∃ rc, rc ∈ tr ∧ rc.i = i + m ∧ rc.o = o
  mem : ∀ rc, rc ∈ tr → i ≤ rc.i ∧ (∃ m, rc.i = i + m ∧ l[m]? = some rc.o) ∧ isF rc.o = false ∧ k ≤ rc.k ∧ RcOk P st N ops Hs rc
  order : ∀ x y, x ∈ tr → y ∈ tr → x.i < y.i → x.k ≤ y.k ∧ (x.c = 3 → x.k < y.k)
  inj : ∀ x y, x ∈ tr → y ∈ tr → x.i = y.i → x = y
  effs : ∀ (j : Nat) (e : Rc), (tr.filter isE)[j]? = some e → e.k = k + j
  kmax : ∀ rc, rc ∈ tr → rc.k ≤ k + (tr.filter isE).length
  slot : ∀ rc, rc ∈ tr → ∀ t u, rc.a.get t = some u → (∃ x, x ∈ tr ∧ x.i < rc.i ∧ x.o.dst = some t ∧ u = x.v) ∨ (a.get t = some u ∧ ∀ x, x ∈ tr → x.i < rc.i → x.o.dst ≠ some t)
  fin : ∀ t u, af.get t = some u → (∃ x, x ∈ tr ∧ x.o.dst = some t ∧ u = x.v) ∨ (a.get t = some u ∧ ∀ x, x ∈ tr → x.o.dst ≠ some t)
theorem TrOk.cons {l : List Oper} {i k k' : Nat} {a a' : T V} {h h1 : H} {tr : List Rc} {af : T V} {hf : H} {Hs : Nat → H} {o : Oper} {rc : Rc} (hi : rc.i = i) (hk : rc.k = k) (ho : rc.o = o) (ha : rc.a = a) (hh : rc.h = h) (hF : isF o = false)
    (hp : putA N a o rc.v = some a') (hE : (rc.c = 3 ∧ k' = k + 1) ∨ (rc.c ≠ 3 ∧ k' = k ∧ h1 = h))
    (hrc : (rc.c = 0 ∧ want ops rc.a rc.o = some false ∧ rc.v = .tup []) ∨
      (rc.c = cls P rc.o.op ∧ rc.c ≠ 3 ∧ want ops rc.a rc.o = some true ∧ st (evA rc.a) rc.h rc.o = some (rc.v, rc.h)) ∨
      (rc.c = 3 ∧ want ops rc.a rc.o = some true ∧ st (evA rc.a) rc.h rc.o = some (rc.v, rc.h') ∧ rc.h' = h1))
    (t : TrOk P st N ops l (i + 1) k' a' h1 tr af hf Hs) : ∃ Hs', TrOk P st N ops (o :: l) i k a h (rc :: tr) af hf Hs' := by
  refine ⟨fun j => if j = k then h else Hs j, ?_⟩
  obtain ⟨p1, p2⟩ := putA_get hp
  have hk' : k ≤ k' := by rcases hE with ⟨_, e⟩ | ⟨_, e, _⟩ <;> omega
  have hsame : ∀ j, k' ≤ j → (if j = k then h else Hs j) = Hs j := by
    intro j hj
    by_cases c : j = k
    · rw [if_pos c]
      rcases hE with ⟨_, e⟩ | ⟨_, e, e2⟩
      · omega
      · rw [c, ← e, t.first, e2]
    · rw [if_neg c]
  have hfil : ((rc :: tr).filter isE) = if rc.c = 3 then rc :: tr.filter isE else tr.filter isE := by
    rw [List.filter_cons]
    by_cases c : rc.c = 3
    · rw [if_pos c, if_pos (by unfold isE; rw [c]; rfl)]
    · rw [if_neg c, if_neg]
      unfold isE
      intro hb
      exact c (Nat.eq_of_beq_eq_true hb)
  have memt : ∀ x, x ∈ tr → RcOk P st N ops (fun j => if j = k then h else Hs j) x := by
    intro x hx
    obtain ⟨q1, _, _, q4, q5, q6, q7⟩ := t.mem x hx
    refine ⟨by rw [q5]; exact (hsame _ q4).symm, q6, ?_⟩
    rcases q7 with q | q | ⟨r1, r2, r3, r4⟩
    · exact .inl q
    · exact .inr (.inl q)
    · exact .inr (.inr ⟨r1, r2, r3, by rw [r4]; exact (hsame _ (by omega)).symm⟩)
  constructor
  · exact if_pos rfl
  · rw [hfil]
    have hl := t.last
    rcases hE with ⟨c, e⟩ | ⟨c, e, e2⟩
    · rw [if_pos c, List.length_cons, show k + ((tr.filter isE).length + 1) = k' + (tr.filter isE).length by omega]
      exact (hsame _ (by omega)).trans hl
    · rw [if_neg c, ← e]
      have := (hsame (k' + (tr.filter isE).length) (by omega)).trans hl
      rw [e] at this ⊢
      exact this
  · intro m o' hm hF'
    cases m with
    | zero => simp at hm; subst hm; exact ⟨rc, List.mem_cons_self .., hi, ho⟩
    | succ m =>
      obtain ⟨x, q1, q2, q3⟩ := t.cover m o' (by simpa using hm) hF'
      exact ⟨x, List.mem_cons_of_mem _ q1, by omega, q3⟩
  · intro x hx
    rcases List.mem_cons.mp hx with hx | hx
    · subst hx
      refine ⟨by omega, ⟨0, by omega, by simp [ho]⟩, by rw [ho]; exact hF, by omega, ?_⟩
      refine ⟨by show _ = (if _ = k then h else _); rw [if_pos hk, hh], by rw [ho]; exact p1, ?_⟩
      rcases hrc with q | q | ⟨r1, r2, r3, r4⟩
      · exact .inl q
      · exact .inr (.inl q)
      · refine .inr (.inr ⟨r1, r2, r3, ?_⟩)
        rcases hE with ⟨_, e⟩ | ⟨c, _, _⟩
        · rw [r4, hk, ← e, ← t.first]; exact (hsame _ (Nat.le_refl _)).symm
        · exact absurd r1 c
    · obtain ⟨q1, ⟨m, q2, q3⟩, q4, q5, _⟩ := t.mem x hx
      exact ⟨by omega, ⟨m + 1, by omega, by simpa using q3⟩, q4, by omega, memt x hx⟩
  · intro x y hx hy hlt
    rcases List.mem_cons.mp hx with hx1 | hx1 <;> rcases List.mem_cons.mp hy with hy1 | hy1
    · rw [hx1, hy1] at hlt; omega
    · rw [hx1] at hlt ⊢
      obtain ⟨_, _, _, q5, _⟩ := t.mem y hy1
      refine ⟨by omega, fun c => ?_⟩
      rcases hE with ⟨_, e⟩ | ⟨c', _, _⟩
      · omega
      · exact absurd c c'
    · rw [hy1] at hlt
      obtain ⟨q1, _⟩ := t.mem x hx1
      omega
    · exact t.order x y hx1 hy1 hlt
  · intro x y hx hy he
    rcases List.mem_cons.mp hx with hx1 | hx1 <;> rcases List.mem_cons.mp hy with hy1 | hy1
    · rw [hx1, hy1]
    · rw [hx1] at he
      obtain ⟨q1, _⟩ := t.mem y hy1
      omega
    · rw [hy1] at he
      obtain ⟨q1, _⟩ := t.mem x hx1
      omega
    · exact t.inj x y hx1 hy1 he
  · intro j e he
    rw [hfil] at he
    rcases hE with ⟨c, e'⟩ | ⟨c, e', _⟩
    · rw [if_pos c] at he
      cases j with
      | zero => simp at he; subst he; omega
      | succ j => have := t.effs j e (by simpa using he); omega
    · rw [if_neg c] at he
      have := t.effs j e he; omega
  · intro x hx
    rw [hfil]
    rcases List.mem_cons.mp hx with hx | hx
    · subst hx; omega
    · have := t.kmax x hx
      rcases hE with ⟨c, e'⟩ | ⟨c, e', _⟩
      · rw [if_pos c, List.length_cons]; omega
      · rw [if_neg c]; omega
  · intro x hx tt u hu
    rcases List.mem_cons.mp hx with hx | hx
    · subst hx
      refine .inr ⟨by rw [← ha]; exact hu, fun y hy hlt => ?_⟩
      rcases List.mem_cons.mp hy with hy | hy
      · subst hy; omega
      · obtain ⟨q1, _⟩ := t.mem y hy; omega
    · obtain ⟨q1, _⟩ := t.mem x hx
      rcases t.slot x hx tt u hu with ⟨y, r1, r2, r3, r4⟩ | ⟨r1, r2⟩
      · exact .inl ⟨y, List.mem_cons_of_mem _ r1, r2, r3, r4⟩
      · rcases p2 tt u r1 with ⟨s1, s2⟩ | ⟨s1, s2⟩
        · exact .inl ⟨rc, List.mem_cons_self .., by omega, by rw [ho]; exact s1, s2⟩
        · refine .inr ⟨s2, fun y hy hlt => ?_⟩
          rcases List.mem_cons.mp hy with hy | hy
          · subst hy; rw [ho]; exact s1
          · exact r2 y hy hlt
  · intro tt u hu
    rcases t.fin tt u hu with ⟨y, r1, r2, r3⟩ | ⟨r1, r2⟩
    · exact .inl ⟨y, List.mem_cons_of_mem _ r1, r2, r3⟩
    · rcases p2 tt u r1 with ⟨s1, s2⟩ | ⟨s1, s2⟩
      · exact .inl ⟨rc, List.mem_cons_self .., by rw [ho]; exact s1, s2⟩
      · refine .inr ⟨s2, fun y hy => ?_⟩
        rcases List.mem_cons.mp hy with hy | hy
        · subst hy; rw [ho]; exact s1
        · exact r2 y hy
theorem TrOk.skipF {l : List Oper} {i k : Nat} {a : T V} {h : H} {tr : List Rc} {af : T V} {hf : H} {Hs : Nat → H} {o : Oper} (hF : isF o = true) (t : TrOk P st N ops l (i + 1) k a h tr af hf Hs) : TrOk P st N ops (o :: l) i k a h tr af hf Hs := by
  refine ⟨t.first, t.last, ?_, ?_, t.order, t.inj, t.effs, t.kmax, t.slot, t.fin⟩
  · intro m o' hm hF'
    cases m with
    | zero => simp at hm; subst hm; rw [hF] at hF'; cases hF'
    | succ m =>
      obtain ⟨x, q1, q2, q3⟩ := t.cover m o' (by simpa using hm) hF'
      exact ⟨x, q1, by omega, q3⟩
  · intro x hx
    obtain ⟨q1, ⟨m, q2, q3⟩, q4, q5, q6⟩ := t.mem x hx
    exact ⟨by omega, ⟨m + 1, by omega, by simpa using q3⟩, q4, q5, q6⟩
theorem cls_vals (P : Program) (o : Op) : cls P o = 1 ∨ cls P o = 2 ∨ cls P o = 3 := by
  unfold cls
  split
  · exact .inl rfl
  · exact .inr (.inl rfl)
  · exact .inr (.inr rfl)
theorem consR'_some {rc : Rc} {x : Option (List Rc × T V × H)} {l : List Rc} {a : T V} {h : H} (he : consR' rc x = some (l, a, h)) : ∃ l', x = some (l', a, h) ∧ l = rc :: l' := by
  unfold consR' at he
  split at he
  · injection he with he; injection he with e1 e2; injection e2 with e2 e3
    subst e1; subst e2; subst e3
    exact ⟨_, rfl, rfl⟩
  · cases he
theorem trD_spec (hs : StG P st) : ∀ (l : List Oper) (i k : Nat) (a : T V) (h : H) (tr : List Rc) (af : T V) (hf : H), trD P st N ops l i k a h = some (tr, af, hf) → ∃ Hs, TrOk P st N ops l i k a h tr af hf Hs
  | [], i, k, a, h, tr, af, hf, he => by
    injection he with he; injection he with e1 e2; injection e2 with e2 e3
    subst e1; subst e2; subst e3
    exact ⟨fun _ => h, rfl, rfl, fun m o hm => (by simp at hm), fun _ hx => (by cases hx), fun _ _ hx => (by cases hx), fun _ _ hx => (by cases hx), fun j e hj => (by simp at hj), fun _ hx => (by cases hx), fun _ hx => (by cases hx), fun t u hu => .inr ⟨hu, fun _ hx => (by cases hx)⟩⟩
  | o :: l, i, k, a, h, tr, af, hf, he => by
    unfold trD at he
    split at he
    · rename_i hF
      obtain ⟨Hs, t⟩ := trD_spec hs l (i + 1) k a h tr af hf he
      exact ⟨Hs, t.skipF hF⟩
    · rename_i hF
      split at he
      · rename_i hw
        split at he
        · rename_i a' hp
          obtain ⟨l', h1, rfl⟩ := consR'_some he
          obtain ⟨Hs, t⟩ := trD_spec hs l (i + 1) k a' h l' af hf h1
          exact TrOk.cons (k' := k) (h1 := h) rfl rfl rfl rfl rfl hF hp (.inr ⟨by show (0 : Nat) ≠ 3; decide, rfl, rfl⟩) (.inl ⟨rfl, hw, rfl⟩) t
        · cases he
      · rename_i hw
        split at he
        · rename_i v h2 hst
          split at he
          · rename_i a' hp
            split at he
            · rename_i hc
              obtain ⟨l', h1, rfl⟩ := consR'_some he
              obtain ⟨Hs, t⟩ := trD_spec hs l (i + 1) (k + 1) a' h2 l' af hf h1
              exact TrOk.cons (k' := k + 1) (h1 := h2) rfl rfl rfl rfl rfl hF hp (.inl ⟨rfl, rfl⟩) (.inr (.inr ⟨rfl, hw, hst, rfl⟩)) t
            · rename_i hc
              have hne : cls P o.op ≠ 3 := fun e => hc e
              obtain rfl := hs.rd _ _ _ _ _ hne hst
              obtain ⟨l', h1, rfl⟩ := consR'_some he
              obtain ⟨Hs, t⟩ := trD_spec hs l (i + 1) k a' h2 l' af hf h1
              exact TrOk.cons (k' := k) (h1 := h2) rfl rfl rfl rfl rfl hF hp (.inr ⟨hne, rfl, rfl⟩) (.inr (.inl ⟨rfl, hne, hw, hst⟩)) t
          · cases he
        · cases he
      · cases he
end
end Go.Ev
