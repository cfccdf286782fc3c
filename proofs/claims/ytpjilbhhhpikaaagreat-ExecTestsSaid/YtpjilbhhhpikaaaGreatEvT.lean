/- A table by numbers that the kernel looks up quickly: a tree by a number's bits. No condition but what each theorem says. -/
namespace Go.Ev
set_option linter.unusedVariables false
set_option linter.unusedSimpArgs false
inductive T (α : Type) where
  | e
  | n (l : T α) (v : Option α) (r : T α)
namespace T
variable {α : Type}
noncomputable def get (t : T α) : Nat → Option α :=
  T.rec (motive := fun _ => Nat → Option α) (fun _ => none)
    (fun _ v _ ihl ihr i => Nat.rec (motive := fun _ => Option α) v (fun j _ => cond (Nat.beq (Nat.mod j 2) 0) (ihl (Nat.div j 2)) (ihr (Nat.div j 2))) i) t
theorem get_e (i : Nat) : (e : T α).get i = none := rfl
theorem get_n0 (l r : T α) (v : Option α) : (n l v r).get 0 = v := rfl
theorem get_nS (l r : T α) (v : Option α) (j : Nat) : (n l v r).get (j + 1) = cond (Nat.beq (Nat.mod j 2) 0) (l.get (Nat.div j 2)) (r.get (Nat.div j 2)) := rfl
noncomputable def setF (f : Nat) (x : Option α) : T α → Nat → T α :=
  Nat.rec (motive := fun _ => T α → Nat → T α) (fun t _ => t)
    (fun _ ih t i => T.casesOn (motive := fun _ => T α) t
      (Nat.rec (motive := fun _ => T α) (n e x e) (fun j _ => cond (Nat.beq (Nat.mod j 2) 0) (n (ih e (Nat.div j 2)) none e) (n e none (ih e (Nat.div j 2)))) i)
      (fun l v r => Nat.rec (motive := fun _ => T α) (n l x r) (fun j _ => cond (Nat.beq (Nat.mod j 2) 0) (n (ih l (Nat.div j 2)) v r) (n l v (ih r (Nat.div j 2)))) i)) f
theorem setF_e0 (f : Nat) (x : Option α) : setF (f + 1) x e 0 = n e x e := rfl
theorem setF_eS (f : Nat) (x : Option α) (j : Nat) : setF (f + 1) x e (j + 1) = cond (Nat.beq (Nat.mod j 2) 0) (n (setF f x e (Nat.div j 2)) none e) (n e none (setF f x e (Nat.div j 2))) := rfl
theorem setF_n0 (f : Nat) (x : Option α) (l r : T α) (v : Option α) : setF (f + 1) x (n l v r) 0 = n l x r := rfl
theorem setF_nS (f : Nat) (x : Option α) (l r : T α) (v : Option α) (j : Nat) : setF (f + 1) x (n l v r) (j + 1) = cond (Nat.beq (Nat.mod j 2) 0) (n (setF f x l (Nat.div j 2)) v r) (n l v (setF f x r (Nat.div j 2))) := rfl
/-- The same, built whole before it is handed on. -/
noncomputable def setK {β : Type} (f : Nat) (x : Option α) : T α → Nat → (T α → β) → β :=
  Nat.rec (motive := fun _ => T α → Nat → (T α → β) → β) (fun t _ k => k t)
    (fun _ ih t i k => T.casesOn (motive := fun _ => β) t
      (Nat.rec (motive := fun _ => β) (k (n e x e)) (fun j _ => cond (Nat.beq (Nat.mod j 2) 0) (ih e (Nat.div j 2) fun l' => k (n l' none e)) (ih e (Nat.div j 2) fun r' => k (n e none r'))) i)
      (fun l v r => Nat.rec (motive := fun _ => β) (k (n l x r)) (fun j _ => cond (Nat.beq (Nat.mod j 2) 0) (ih l (Nat.div j 2) fun l' => k (n l' v r)) (ih r (Nat.div j 2) fun r' => k (n l v r'))) i)) f
theorem setK_eq {β : Type} (f : Nat) (x : Option α) : ∀ (t : T α) (i : Nat) (k : T α → β), setK f x t i k = k (setF f x t i) := by
  induction f with
  | zero => intro t i k; rfl
  | succ f ih =>
    intro t i k
    cases t with
    | e =>
      cases i with
      | zero => rfl
      | succ j =>
        show cond (Nat.beq (Nat.mod j 2) 0) (setK f x e (Nat.div j 2) fun l' => k (n l' none e)) (setK f x e (Nat.div j 2) fun r' => k (n e none r')) = _
        rw [setF_eS, ih, ih]
        cases Nat.beq (Nat.mod j 2) 0 <;> rfl
    | n l v r =>
      cases i with
      | zero => rfl
      | succ j =>
        show cond (Nat.beq (Nat.mod j 2) 0) (setK f x l (Nat.div j 2) fun l' => k (n l' v r)) (setK f x r (Nat.div j 2) fun r' => k (n l v r')) = _
        rw [setF_nS, ih, ih]
        cases Nat.beq (Nat.mod j 2) 0 <;> rfl
noncomputable def set (t : T α) (i : Nat) (x : α) : T α := setK (i + 1) (some x) t i fun t' => t'
theorem set_eq (t : T α) (i : Nat) (x : α) : t.set i x = setF (i + 1) (some x) t i := setK_eq _ _ _ _ _
/-- The tree, looked at before it is handed on. -/
noncomputable def force {β : Type} (t : T α) (k : T α → β) : β := T.casesOn (motive := fun _ => β) t (k e) fun l v r => k (n l v r)
theorem force_eq {β : Type} (t : T α) (k : T α → β) : t.force k = k t := by cases t <;> rfl
theorem half (j : Nat) : Nat.div j 2 ≤ j := Nat.div_le_self j 2
theorem apart {i j : Nat} (hm : Nat.beq (Nat.mod i 2) 0 = Nat.beq (Nat.mod j 2) 0) (hd : Nat.div i 2 = Nat.div j 2) : i = j := by
  have hi := Nat.div_add_mod i 2
  have hj := Nat.div_add_mod j 2
  have hd' : i / 2 = j / 2 := hd
  have hm' : (i % 2).beq 0 = (j % 2).beq 0 := hm
  have h1 : i % 2 < 2 := Nat.mod_lt _ (by decide)
  have h2 : j % 2 < 2 := Nat.mod_lt _ (by decide)
  have : i % 2 = j % 2 := by
    rcases Nat.lt_or_ge (i % 2) 1 with h | h <;> rcases Nat.lt_or_ge (j % 2) 1 with g | g
    · omega
    · exfalso
      have a : i % 2 = 0 := by omega
      have b : j % 2 = 1 := by omega
      rw [a, b] at hm'
      cases hm'
    · exfalso
      have a : i % 2 = 1 := by omega
      have b : j % 2 = 0 := by omega
      rw [a, b] at hm'
      cases hm'
    · omega
  omega
theorem get_setF_same (f : Nat) (x : Option α) : ∀ (t : T α) (i : Nat), i < f → (setF f x t i).get i = x := by
  induction f with
  | zero => intro t i h; exact absurd h (Nat.not_lt_zero _)
  | succ f ih =>
    intro t i h
    cases t with
    | e =>
      cases i with
      | zero => rfl
      | succ j =>
        have hj := ih e (Nat.div j 2) (Nat.lt_of_le_of_lt (half j) (by omega))
        rw [setF_eS]
        cases hc : Nat.beq (Nat.mod j 2) 0 <;> simp only [cond_true, cond_false, get_nS, hc] <;> exact hj
    | n l v r =>
      cases i with
      | zero => rfl
      | succ j =>
        have hl := ih l (Nat.div j 2) (Nat.lt_of_le_of_lt (half j) (by omega))
        have hr := ih r (Nat.div j 2) (Nat.lt_of_le_of_lt (half j) (by omega))
        rw [setF_nS]
        cases hc : Nat.beq (Nat.mod j 2) 0 <;> simp only [cond_true, cond_false, get_nS, hc] <;> assumption
theorem get_setF_ne (f : Nat) (x : Option α) : ∀ (t : T α) (i k : Nat), i ≠ k → (setF f x t i).get k = t.get k := by
  induction f with
  | zero => intro t i k h; rfl
  | succ f ih =>
    intro t i k h
    cases t with
    | e =>
      cases i with
      | zero =>
        cases k with
        | zero => exact absurd rfl h
        | succ m => rw [setF_e0, get_nS]; cases Nat.beq (Nat.mod m 2) 0 <;> rfl
      | succ j =>
        rw [setF_eS]
        cases k with
        | zero => cases Nat.beq (Nat.mod j 2) 0 <;> rfl
        | succ m =>
          cases hc : Nat.beq (Nat.mod j 2) 0 <;> cases hk : Nat.beq (Nat.mod m 2) 0 <;> simp only [cond_true, cond_false, get_nS, hk, get_e] <;>
            first | rfl | (rw [ih e _ _ fun hd => h (congrArg (· + 1) (apart (hc.trans hk.symm) hd))]; rfl)
    | n l v r =>
      cases i with
      | zero =>
        cases k with
        | zero => exact absurd rfl h
        | succ m => rfl
      | succ j =>
        rw [setF_nS]
        cases k with
        | zero => cases Nat.beq (Nat.mod j 2) 0 <;> rfl
        | succ m =>
          cases hc : Nat.beq (Nat.mod j 2) 0 <;> cases hk : Nat.beq (Nat.mod m 2) 0 <;> simp only [cond_true, cond_false, get_nS, hk] <;>
            (exact ih _ _ _ fun hd => h (congrArg (· + 1) (apart (hc.trans hk.symm) hd)))
theorem get_set_same (t : T α) (i : Nat) (x : α) : (t.set i x).get i = some x := by rw [set_eq]; exact get_setF_same _ _ t i (Nat.lt_succ_self i)
theorem get_set_ne (t : T α) {i k : Nat} (x : α) (h : i ≠ k) : (t.set i x).get k = t.get k := by rw [set_eq]; exact get_setF_ne _ _ t i k h
theorem get_set (t : T α) (i k : Nat) (x : α) : (t.set i x).get k = if i = k then some x else t.get k := by
  by_cases h : i = k
  · subst h; rw [if_pos rfl, get_set_same]
  · rw [if_neg h, get_set_ne t x h]
end T
end Go.Ev
