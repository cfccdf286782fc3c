/- The builtin copy into a cut of a row of one's own ('copy(out[off:], l)'): the row's cells from that place on are the other's, as far as both go. No condition but what each theorem names. -/
import Derived.Test.YtpjilbhhhpikaaaXErr
import Derived.Test.YtpjilbhhhpikaaaXSpot
import Derived.Test.YtpjilbhhhpikaaaWWords
import Derived.Test.YtpjilbhhhpikaaaWLast
import Derived.Laws.IdiomCopy
import Derived.Laws.Tables
namespace Go.Proofs.YtpjilbhhhpikaaaX
open Go Go.RowKit Go.Proofs.YtpjilbhhhpikaaaW.PrintWords Go.Proofs.YtpjilbhhhpikaaaW.PrintLast

/-- ys laid over xs from place off on, as far as xs goes. -/
def cpy {α : Type} (xs : List α) (off : Nat) (ys : List α) : List α := xs.take off ++ (ys.take (xs.length - off) ++ xs.drop (off + min ys.length (xs.length - off)))
theorem cpy_length {α : Type} (xs : List α) (off : Nat) (ys : List α) : (cpy xs off ys).length = xs.length := by
  simp only [cpy, List.length_append, List.length_take, List.length_drop]; omega

section
variable {P : Program} {ops : Array Oper} {rest : List Oper} {o : Oper} {a : Act} {Q : Exit → Act → World → Prop} {α : Type}
theorem R_copy_at {enc : α → Value} {h1 : ∀ x, (enc x).oneCell' = true} (d : α) {w0 W : World} (base : Nat) (hgd : o.guard = none) (s x : Operand) (t t' e : TypeId)
    (ho : o.op = .call { callee := .builtin .copy, args := #[s, x], argTypes := #[t, t'] }) (ht : P.underlying t = some (.slice e)) (hinfo : (P.info? e).map (·.size) = some 1)
    {A0 A Ay : Option Addr} {n c off m cA cy : Nat} {xs ys : List α} {ok : Nat → Prop}
    (hs : a.eval s = .slice A m cA) (hx : a.eval x = .slice Ay ys.length cy)
    (hA : A = if c = off then A0 else A0.map (·.add (off * 1))) (hm : m = n - off) (hk : off ≤ n)
    (HO : (Kd.scalar enc h1).R e W base ok (.slice A0 n c) xs) (HR : (Kd.scalar enc h1).C W Ay ys.length ys) (HB : Below base w0 W) (hbase : base ≤ W.heap.size)
    (h : ∀ w1, (Kd.scalar enc h1).R e w1 base ok (.slice A0 n c) (cpy xs off ys) → Below base w0 w1 → W.grownBy w1 (Value.slice A0 n c).ownBlock → wpList P ops Q rest (a.put o.dst (.int .i64 ((min ys.length m : Nat) : Int))) w1) :
    wpList P ops Q (o :: rest) a W := by
  have hR := Kd.reads_of_C (enc := enc) (d := d) (h1 := h1) HR
  have hown := Kd.own_of_R HO
  have hn : xs.length = n := by
    rcases hown.2 with ⟨hv, h0⟩ | ⟨g, cap, cur, hv, _⟩
    · injection hv with _ h2 _; omega
    · injection hv with _ h2 _; exact h2.symm
  have fin : ∀ w1, (Builtin.copy_ #[t, t'] o.type #[.slice A m cA, .slice Ay ys.length cy]).run P W = .ok (goInt ((min ys.length m : Nat) : Int)) w1 → (Kd.scalar enc h1).R e w1 base ok (.slice A0 n c) (cpy xs off ys) → W.grownBy w1 (Value.slice A0 n c).ownBlock → wpList P ops Q (o :: rest) a W := by
    intro w1 hr hrow hg
    refine wpList_plain hgd fun K hK => ?_
    unfold Oper.wp execOp
    simp only [ho, resolve, invoke, builtin, Sem.run_bind, Sem.run_pure, Result.andThen_ok, List.map_toArray, List.map_cons, List.map_nil, hs, hx, hr]
    exact hK _ _ (h w1 hrow (HB.grown hg hbase (own_base hown)) hg)
  subst hm
  rcases Nat.eq_zero_or_pos (min ys.length (n - off)) with h0 | hp
  · refine fin W ?_ ?_ (World.grownBy.refl W _)
    · rw [h0]
      exact run_copy_none W t t' o.type e A Ay (n - off) cA ys.length cy ht hinfo h0
    · have hc : cpy xs off ys = xs := by
        have ht0 : ys.take (n - off) = [] := List.eq_nil_of_length_eq_zero (by rw [List.length_take]; omega)
        unfold cpy
        rw [hn, ht0, h0, List.nil_append, Nat.add_zero, List.take_append_drop]
      rw [hc]
      exact HO
  · obtain ⟨ad, hAy, hc⟩ := hR.2.2 (by omega)
    rcases hown.2 with ⟨hv, hx0⟩ | ⟨g, cap, cur, hv, hb, hh, hnc, hcm, hcs, htake⟩
    · omega
    injection hv with hA0 _ hcc
    subst hcc
    have hco : ¬ c = off := by omega
    rw [if_neg hco, hA0, Option.map_some, add_at, Nat.zero_add, Nat.mul_one] at hA
    have hsrc : ∀ j u, (encs enc (ys.take (n - off)))[j]? = some u → W.cell? (ad.add j) = some u := by
      intro j u hu
      have hj : j < (ys.take (n - off)).length := by
        rcases Nat.lt_or_ge j (ys.take (n - off)).length with h | h
        · exact h
        · rw [List.getElem?_eq_none (by rw [encs_length]; exact h)] at hu
          cases hu
      have hjm : j < ys.length ∧ j < n - off := by rw [List.length_take] at hj; omega
      rw [encs_get (d := d) _ j hj] at hu
      rw [hc j hjm.1, ← hu]
      simp [List.getD_eq_getElem?_getD, hjm.2]
    have hkl : (encs enc (ys.take (n - off))).length = min ys.length (n - off) := by rw [encs_length, List.length_take]; omega
    have hr := run_copy_cells (P := P) W t t' o.type e g off (n - off) cA ad ys.length cy (encs enc (ys.take (n - off))) ht hinfo (by rw [hkl]) hsrc
      (fun j hj => by rw [cell_of_row W g _ cur e (0, 0) hh]; simp; omega) (fun j _ => blk_frozen hh _) (by intro u hu; simp only [encs, List.mem_map] at hu; obtain ⟨q, _, rfl⟩ := hu; exact h1 q)
    obtain ⟨cur', h3, h4, h5⟩ := setCells_row (encs enc (ys.take (n - off))) off W cur hh (by rw [hkl]; omega)
    obtain ⟨s1, s2, s3, s4⟩ := setCells_same g (encs enc (ys.take (n - off))) off W
    refine fin _ (by rw [hA, hAy, hr, hkl]) (Kd.R_of_own ?_ HO.1) ⟨s1, s2, s3, by rw [s4]; exact Nat.le_refl _, fun k _ hk => setCells_far _ _ k (fun he => hk (by rw [hA0, he]; simp [Value.ownBlock]))⟩
    have hln := cpy_length xs off ys
    rw [hln]
    refine ⟨by rw [encs_length, hln, Nat.mul_one], .inr ⟨g, c, cur', by rw [hA0, hn], hb, h3, hnc, hcm, by rw [h4, hcs], ?_⟩⟩
    have htk : cur.toList.take xs.length = encs enc xs := by rw [← htake, Nat.mul_one]
    have hcl : cur.toList.length = c := by rw [Array.length_toList, hcs, Nat.mul_one]
    have e1 : cur.toList.take off = (encs enc xs).take off := by rw [← htk, List.take_take, Nat.min_eq_left (by omega)]
    have e2 : ∀ k, (cur.toList.drop k).take (xs.length - k) = (encs enc xs).drop k := by intro k; rw [← htk, List.drop_take]
    rw [h5, hkl, Nat.mul_one, List.append_assoc, List.take_append, List.take_of_length_le (by rw [List.length_take]; omega)]
    unfold cpy
    rw [encs_append, encs_append, hn, show encs enc (xs.take off) = (encs enc xs).take off by simp [encs, List.map_take], ← e1]
    congr 1
    rw [List.take_append, hkl, List.take_of_length_le (by rw [hkl, List.length_take]; omega)]
    congr 1
    rw [show encs enc (xs.drop (off + min ys.length (n - off))) = (encs enc xs).drop (off + min ys.length (n - off)) by simp [encs, List.map_drop], ← e2, hn]
    congr 1
    rw [List.length_take]
    omega
end
/-! What an error is, from world to world. -/
section
variable {CT PT ST : TypeId} {W W1 : World} {base base' : Nat} {r : Option Int} {v : Value}
theorem ErrAt.turn (h : ErrAt CT PT ST W base r v) (hm : ∀ (b : Nat) cs, base ≤ b → W.heap[b]? = some (Obj.cells cs ST (0, 0)) → base' ≤ b ∧ W1.heap[b]? = W.heap[b]?) : ErrAt CT PT ST W1 base' r v := by
  rcases r with _ | q
  · exact h
  · by_cases hq : q < 0
    · obtain ⟨b, h1, h2, h3⟩ := h.spot_eq hq
      obtain ⟨h4, h5⟩ := hm b _ h2 h3
      simp only [ErrAt, if_pos hq]
      exact ⟨b, h1, h4, h5.trans h3⟩
    · simp only [ErrAt, if_neg hq]
      exact h.code_eq hq
theorem ErrAt.lower (h : ErrAt CT PT ST W base r v) (hb : base' ≤ base) : ErrAt CT PT ST W base' r v := h.turn fun _ _ h1 _ => ⟨Nat.le_trans hb h1, rfl⟩
theorem ErrAt.move (h : ErrAt CT PT ST W base r v) (hm : ∀ (k : Nat) cs, W.heap[k]? = some (Obj.cells cs ST (0, 0)) → W1.heap[k]? = W.heap[k]?) : ErrAt CT PT ST W1 base r v := h.turn fun b cs h1 h2 => ⟨h1, hm b cs h2⟩
theorem ErrAt.below (h : ErrAt CT PT ST W base r v) (hb : Below W.heap.size W W1) : ErrAt CT PT ST W1 base r v := ErrAt.move h fun k _ hk => hb.block k (blk_lt hk)
theorem ErrAt.alloc (h : ErrAt CT PT ST W base r v) (o : Obj) : ErrAt CT PT ST (W.alloc o) base r v := ErrAt.move h fun _ _ hk => (blk_alloc hk o).trans hk.symm
theorem ErrAt.drew (h : ErrAt CT PT ST W base r v) : ErrAt CT PT ST W.drew base r v := h
theorem ErrAt.drewN (h : ErrAt CT PT ST W base r v) (n : Nat) : ErrAt CT PT ST (W.drewN n) base r v := h
theorem ErrAt.atq {n : Nat} (hq : W.drewN n = W1) (h : ErrAt CT PT ST W base r v) : ErrAt CT PT ST W1 base r v := hq ▸ ErrAt.drewN h n
theorem ErrAt.grown {row : Option Nat} (h : ErrAt CT PT ST W base r v) (hg : W.grownBy W1 row) (hne : ∀ (k : Nat) cs, W.heap[k]? = some (Obj.cells cs ST (0, 0)) → some k ≠ row) : ErrAt CT PT ST W1 base r v :=
  ErrAt.move h fun k cells hk => (blk_grown hk hg (hne k cells hk)).trans hk.symm
theorem ErrAt.some_form {q : Int} (h : ErrAt CT PT ST W base (some q) v) : ∃ T x, v = .iface T x := by
  by_cases hq : q < 0
  · obtain ⟨b, h1, _⟩ := h.spot_eq hq
    exact ⟨_, _, h1⟩
  · exact ⟨_, _, h.code_eq hq⟩
end
/-! Short names, for texts that would be too long. -/
theorem bA {w W : World} (h : Below w.heap.size w W) (o : Obj) : Below w.heap.size w (W.alloc o) := below_alloc h o
theorem bN {B : Nat} {w W : World} (h : Below B w W) (n : Nat) : Below B w (W.drewN n) := pw_below_drewN h n
theorem bD {base : Nat} {w W : World} (h : Below base w W) : Below base w W.drew := below_drew1 h
section
variable {α : Type} {d : Kd α} {e : Nat} {w : World} {base : Nat} {ok : Nat → Prop} {v : Value} {xs : List α}
theorem rA (h : d.R e w base ok v xs) (o : Obj) : d.R e (w.alloc o) base ok v xs := Kd.R_alloc h o
theorem rD (h : d.R e w base ok v xs) : d.R e w.drew base ok v xs := Kd.R_drew h
theorem rN (h : d.R e w base ok v xs) (m : Nat) : d.R e (w.drewN m) base ok v xs := Kd.R_drewN h m
end
section
variable {α : Type} {d : Kd α} {e : Nat} {w : World} {base n : Nat} {A : Option Addr} {ok : Nat → Prop} {v : Value} {xs : List α}
theorem cA (h : d.C w A n xs) (o : Obj) : d.C (w.alloc o) A n xs := Kd.C_alloc h o
theorem cD (h : d.C w A n xs) : d.C w.drew A n xs := Kd.C_drew h
theorem cN (h : d.C w A n xs) (m : Nat) : d.C (w.drewN m) A n xs := Kd.C_drewN h m
theorem qA (h : d.Q e w base ok v xs) (o : Obj) : d.Q e (w.alloc o) base ok v xs := Kd.Q_alloc h o
theorem qD (h : d.Q e w base ok v xs) : d.Q e w.drew base ok v xs := Kd.Q_drew h
theorem qN (h : d.Q e w base ok v xs) (m : Nat) : d.Q e (w.drewN m) base ok v xs := Kd.Q_drewN h m
theorem kA {g : Nat} {o : Obj} (h : w.heap[g]? = some o) (o' : Obj) : (w.alloc o').heap[g]? = some o := blk_alloc h o'
theorem kD {g : Nat} {o : Obj} (h : w.heap[g]? = some o) : w.drew.heap[g]? = some o := blk_drew h
theorem kN {g : Nat} {o : Obj} (h : w.heap[g]? = some o) (m : Nat) : (w.drewN m).heap[g]? = some o := blk_drewN h m
theorem aM {p : Prop} (h : p) : Aside0 p := Aside0.mk h
theorem sA (l : List α) (i : Nat) (a : α) : l.toArray.setIfInBounds i a = (l.set i a).toArray := List.setIfInBounds_toArray ..
theorem sZ (a b : α) (l : List α) : (a :: l).set 0 b = b :: l := rfl
theorem sS (a b : α) (l : List α) (i : Nat) : (a :: l).set (i + 1) b = a :: l.set i b := rfl
end
/-- A struct built of parts, its cells told ahead. -/
theorem wpList_build {P : Program} {ops : Array Oper} {rest : List Oper} {o : Oper} {a : Act} {Q : Exit → Act → World → Prop} {w : World} (hgd : o.guard = none) (t : TypeId) (ps : Array (Nat × Operand)) (ho : o.op = .build t ps) (cells : Array Value)
    (h : P.built t (ps.map fun (i, x) => (i, a.eval x)).toList = some cells) (hk : wpList P ops Q rest (a.put o.dst (.agg cells)) w) : wpList P ops Q (o :: rest) a w := by
  refine wpList_plain hgd fun K hK => ?_
  have hr := run_build (P := P) w t (ps.map fun (i, x) => (i, a.eval x)) cells h
  unfold Oper.wp execOp
  simp only [ho, Sem.run_bind, Sem.run_pure, hr, Result.andThen_ok]
  exact hK _ _ hk
/-- A block of ours that is a row of a struct. -/
def IsRow (W : World) (g : Nat) (T : TypeId) : Prop := ∃ cs, W.heap[g]? = some (.cells cs T (0, 0))
theorem IsRow.of {W : World} {g : Nat} {T : TypeId} {cs : Array Value} (h : W.heap[g]? = some (.cells cs T (0, 0))) : IsRow W g T := ⟨cs, h⟩
theorem IsRow.set {W : World} {g g' i : Nat} {T : TypeId} {v : Value} (h : IsRow W g T) : IsRow (W.setCell ⟨g', i, none⟩ v) g T := by
  obtain ⟨cs, h⟩ := h
  by_cases e : g = g'
  · subst e
    exact ⟨_, blk_set h i v⟩
  · exact ⟨_, blk_far h (p := ⟨g', i, none⟩) e v⟩
theorem IsRow.alloc {W : World} {g : Nat} {T : TypeId} (h : IsRow W g T) (o : Obj) : IsRow (W.alloc o) g T := h.elim fun cs h => ⟨cs, blk_alloc h o⟩
theorem IsRow.drew {W : World} {g : Nat} {T : TypeId} (h : IsRow W g T) : IsRow W.drew g T := h
theorem IsRow.drewN {W : World} {g : Nat} {T : TypeId} (h : IsRow W g T) (n : Nat) : IsRow (W.drewN n) g T := h
theorem ErrAt.set {CT PT ST : TypeId} {W : World} {base g i : Nat} {r : Option Int} {v u : Value} {T : TypeId} (h : ErrAt CT PT ST W base r v) (hr : IsRow W g T) (hT : T ≠ ST) : ErrAt CT PT ST (W.setCell ⟨g, i, none⟩ u) base r v := by
  obtain ⟨cs, hr⟩ := hr
  refine ErrAt.move h fun k cs' hk => ?_
  have hne : k ≠ g := by
    rintro rfl
    rw [hr] at hk
    injection hk with hk
    injection hk with _ h2 _
    exact hT h2
  exact (blk_far hk (p := ⟨g, i, none⟩) hne u).trans hk.symm
/-- A list of Bools, by the bits of a number. -/
def bzA (n m : Nat) : Array Bool := ((List.range n).map fun i => m.testBit i).toArray
/-! What a box's cells hold, all at once. -/
theorem bx1 {w : World} {g : Nat} {t : TypeId} {v0 : Value} (h : w.heap[g]? = some (.cells #[v0] t (0, 0))) : w.cell? ⟨g, 0, none⟩ = some v0 ∧ w.frozen? ⟨g, 0, none⟩ = false := ⟨(blk_cell h 0).trans rfl, blk_frozen h 0⟩
theorem bx2 {w : World} {g : Nat} {t : TypeId} {v0 v1 : Value} (h : w.heap[g]? = some (.cells #[v0, v1] t (0, 0))) : w.cell? ⟨g, 0, none⟩ = some v0 ∧ w.cell? ⟨g, 1, none⟩ = some v1 ∧ w.frozen? ⟨g, 0, none⟩ = false ∧ w.frozen? ⟨g, 1, none⟩ = false := ⟨(blk_cell h 0).trans rfl, (blk_cell h 1).trans rfl, blk_frozen h 0, blk_frozen h 1⟩
theorem bx3 {w : World} {g : Nat} {t : TypeId} {v0 v1 v2 : Value} (h : w.heap[g]? = some (.cells #[v0, v1, v2] t (0, 0))) : w.cell? ⟨g, 0, none⟩ = some v0 ∧ w.cell? ⟨g, 1, none⟩ = some v1 ∧ w.cell? ⟨g, 2, none⟩ = some v2 ∧ w.frozen? ⟨g, 0, none⟩ = false ∧ w.frozen? ⟨g, 1, none⟩ = false ∧ w.frozen? ⟨g, 2, none⟩ = false := ⟨(blk_cell h 0).trans rfl, (blk_cell h 1).trans rfl, (blk_cell h 2).trans rfl, blk_frozen h 0, blk_frozen h 1, blk_frozen h 2⟩
theorem bx4 {w : World} {g : Nat} {t : TypeId} {v0 v1 v2 v3 : Value} (h : w.heap[g]? = some (.cells #[v0, v1, v2, v3] t (0, 0))) : w.cell? ⟨g, 0, none⟩ = some v0 ∧ w.cell? ⟨g, 1, none⟩ = some v1 ∧ w.cell? ⟨g, 2, none⟩ = some v2 ∧ w.cell? ⟨g, 3, none⟩ = some v3 ∧ w.frozen? ⟨g, 0, none⟩ = false ∧ w.frozen? ⟨g, 1, none⟩ = false ∧ w.frozen? ⟨g, 2, none⟩ = false ∧ w.frozen? ⟨g, 3, none⟩ = false := ⟨(blk_cell h 0).trans rfl, (blk_cell h 1).trans rfl, (blk_cell h 2).trans rfl, (blk_cell h 3).trans rfl, blk_frozen h 0, blk_frozen h 1, blk_frozen h 2, blk_frozen h 3⟩
theorem bx5 {w : World} {g : Nat} {t : TypeId} {v0 v1 v2 v3 v4 : Value} (h : w.heap[g]? = some (.cells #[v0, v1, v2, v3, v4] t (0, 0))) : w.cell? ⟨g, 0, none⟩ = some v0 ∧ w.cell? ⟨g, 1, none⟩ = some v1 ∧ w.cell? ⟨g, 2, none⟩ = some v2 ∧ w.cell? ⟨g, 3, none⟩ = some v3 ∧ w.cell? ⟨g, 4, none⟩ = some v4 ∧ w.frozen? ⟨g, 0, none⟩ = false ∧ w.frozen? ⟨g, 1, none⟩ = false ∧ w.frozen? ⟨g, 2, none⟩ = false ∧ w.frozen? ⟨g, 3, none⟩ = false ∧ w.frozen? ⟨g, 4, none⟩ = false := ⟨(blk_cell h 0).trans rfl, (blk_cell h 1).trans rfl, (blk_cell h 2).trans rfl, (blk_cell h 3).trans rfl, (blk_cell h 4).trans rfl, blk_frozen h 0, blk_frozen h 1, blk_frozen h 2, blk_frozen h 3, blk_frozen h 4⟩
theorem bx6 {w : World} {g : Nat} {t : TypeId} {v0 v1 v2 v3 v4 v5 : Value} (h : w.heap[g]? = some (.cells #[v0, v1, v2, v3, v4, v5] t (0, 0))) : w.cell? ⟨g, 0, none⟩ = some v0 ∧ w.cell? ⟨g, 1, none⟩ = some v1 ∧ w.cell? ⟨g, 2, none⟩ = some v2 ∧ w.cell? ⟨g, 3, none⟩ = some v3 ∧ w.cell? ⟨g, 4, none⟩ = some v4 ∧ w.cell? ⟨g, 5, none⟩ = some v5 ∧ w.frozen? ⟨g, 0, none⟩ = false ∧ w.frozen? ⟨g, 1, none⟩ = false ∧ w.frozen? ⟨g, 2, none⟩ = false ∧ w.frozen? ⟨g, 3, none⟩ = false ∧ w.frozen? ⟨g, 4, none⟩ = false ∧ w.frozen? ⟨g, 5, none⟩ = false := ⟨(blk_cell h 0).trans rfl, (blk_cell h 1).trans rfl, (blk_cell h 2).trans rfl, (blk_cell h 3).trans rfl, (blk_cell h 4).trans rfl, (blk_cell h 5).trans rfl, blk_frozen h 0, blk_frozen h 1, blk_frozen h 2, blk_frozen h 3, blk_frozen h 4, blk_frozen h 5⟩
theorem bx7 {w : World} {g : Nat} {t : TypeId} {v0 v1 v2 v3 v4 v5 v6 : Value} (h : w.heap[g]? = some (.cells #[v0, v1, v2, v3, v4, v5, v6] t (0, 0))) : w.cell? ⟨g, 0, none⟩ = some v0 ∧ w.cell? ⟨g, 1, none⟩ = some v1 ∧ w.cell? ⟨g, 2, none⟩ = some v2 ∧ w.cell? ⟨g, 3, none⟩ = some v3 ∧ w.cell? ⟨g, 4, none⟩ = some v4 ∧ w.cell? ⟨g, 5, none⟩ = some v5 ∧ w.cell? ⟨g, 6, none⟩ = some v6 ∧ w.frozen? ⟨g, 0, none⟩ = false ∧ w.frozen? ⟨g, 1, none⟩ = false ∧ w.frozen? ⟨g, 2, none⟩ = false ∧ w.frozen? ⟨g, 3, none⟩ = false ∧ w.frozen? ⟨g, 4, none⟩ = false ∧ w.frozen? ⟨g, 5, none⟩ = false ∧ w.frozen? ⟨g, 6, none⟩ = false := ⟨(blk_cell h 0).trans rfl, (blk_cell h 1).trans rfl, (blk_cell h 2).trans rfl, (blk_cell h 3).trans rfl, (blk_cell h 4).trans rfl, (blk_cell h 5).trans rfl, (blk_cell h 6).trans rfl, blk_frozen h 0, blk_frozen h 1, blk_frozen h 2, blk_frozen h 3, blk_frozen h 4, blk_frozen h 5, blk_frozen h 6⟩
theorem bx8 {w : World} {g : Nat} {t : TypeId} {v0 v1 v2 v3 v4 v5 v6 v7 : Value} (h : w.heap[g]? = some (.cells #[v0, v1, v2, v3, v4, v5, v6, v7] t (0, 0))) : w.cell? ⟨g, 0, none⟩ = some v0 ∧ w.cell? ⟨g, 1, none⟩ = some v1 ∧ w.cell? ⟨g, 2, none⟩ = some v2 ∧ w.cell? ⟨g, 3, none⟩ = some v3 ∧ w.cell? ⟨g, 4, none⟩ = some v4 ∧ w.cell? ⟨g, 5, none⟩ = some v5 ∧ w.cell? ⟨g, 6, none⟩ = some v6 ∧ w.cell? ⟨g, 7, none⟩ = some v7 ∧ w.frozen? ⟨g, 0, none⟩ = false ∧ w.frozen? ⟨g, 1, none⟩ = false ∧ w.frozen? ⟨g, 2, none⟩ = false ∧ w.frozen? ⟨g, 3, none⟩ = false ∧ w.frozen? ⟨g, 4, none⟩ = false ∧ w.frozen? ⟨g, 5, none⟩ = false ∧ w.frozen? ⟨g, 6, none⟩ = false ∧ w.frozen? ⟨g, 7, none⟩ = false := ⟨(blk_cell h 0).trans rfl, (blk_cell h 1).trans rfl, (blk_cell h 2).trans rfl, (blk_cell h 3).trans rfl, (blk_cell h 4).trans rfl, (blk_cell h 5).trans rfl, (blk_cell h 6).trans rfl, (blk_cell h 7).trans rfl, blk_frozen h 0, blk_frozen h 1, blk_frozen h 2, blk_frozen h 3, blk_frozen h 4, blk_frozen h 5, blk_frozen h 6, blk_frozen h 7⟩
theorem bx9 {w : World} {g : Nat} {t : TypeId} {v0 v1 v2 v3 v4 v5 v6 v7 v8 : Value} (h : w.heap[g]? = some (.cells #[v0, v1, v2, v3, v4, v5, v6, v7, v8] t (0, 0))) : w.cell? ⟨g, 0, none⟩ = some v0 ∧ w.cell? ⟨g, 1, none⟩ = some v1 ∧ w.cell? ⟨g, 2, none⟩ = some v2 ∧ w.cell? ⟨g, 3, none⟩ = some v3 ∧ w.cell? ⟨g, 4, none⟩ = some v4 ∧ w.cell? ⟨g, 5, none⟩ = some v5 ∧ w.cell? ⟨g, 6, none⟩ = some v6 ∧ w.cell? ⟨g, 7, none⟩ = some v7 ∧ w.cell? ⟨g, 8, none⟩ = some v8 ∧ w.frozen? ⟨g, 0, none⟩ = false ∧ w.frozen? ⟨g, 1, none⟩ = false ∧ w.frozen? ⟨g, 2, none⟩ = false ∧ w.frozen? ⟨g, 3, none⟩ = false ∧ w.frozen? ⟨g, 4, none⟩ = false ∧ w.frozen? ⟨g, 5, none⟩ = false ∧ w.frozen? ⟨g, 6, none⟩ = false ∧ w.frozen? ⟨g, 7, none⟩ = false ∧ w.frozen? ⟨g, 8, none⟩ = false := ⟨(blk_cell h 0).trans rfl, (blk_cell h 1).trans rfl, (blk_cell h 2).trans rfl, (blk_cell h 3).trans rfl, (blk_cell h 4).trans rfl, (blk_cell h 5).trans rfl, (blk_cell h 6).trans rfl, (blk_cell h 7).trans rfl, (blk_cell h 8).trans rfl, blk_frozen h 0, blk_frozen h 1, blk_frozen h 2, blk_frozen h 3, blk_frozen h 4, blk_frozen h 5, blk_frozen h 6, blk_frozen h 7, blk_frozen h 8⟩
end Go.Proofs.YtpjilbhhhpikaaaX
