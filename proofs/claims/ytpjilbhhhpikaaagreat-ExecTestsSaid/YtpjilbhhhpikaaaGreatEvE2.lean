/- Append, and an entry laid into a map: reckoned by the kernel; and that the machine's operation comes to the same, whatever capacity it draws. No condition but what each theorem says. -/
import Derived.Test.YtpjilbhhhpikaaaGreatEvE
import Derived.Laws.Append
namespace Go.Ev
set_option linter.unusedVariables false
set_option linter.unusedSimpArgs false
open Go
section
variable {P : Program} {ρ : Env} {h : H} {w : World}
/-! ### append -/
noncomputable def cellsAt (h : H) (size : Nat) : V → Option (Nat × List V)
  | .snil => some (0, [])
  | .semp => some (0, [])
  | .slice k gen off len _ => match h.t.get k with
    | some (.cells _ g _ _ n d t) => match Nat.beq g gen, Nat.ble (Nat.add off (Nat.mul len size)) n with
      | true, true => match many d t off (Nat.mul len size) with
        | some l => some (len, l)
        | none => none
      | _, _ => none
    | _ => none
  | _ => none
/-- The first n elements of a slice, in the world: n of a slice that is read now. -/
theorem cellsAt_sound (r : Rel ρ h w) {size n : Nat} {v : V} {c : Value} {l : List V} (hv : VRel ρ v c) (he : cellsAt h size v = some (n, l)) :
    (Builtin.lenOf c).run P w = .ok n w ∧ l.length = n * size ∧ ∃ cs : List Value, (Builtin.firstCells size n c).run P w = .ok cs.toArray w ∧ LRel ρ l cs := by
  unfold cellsAt at he
  split at he
  · injection he with he
    injection he with h1 h2
    subst h1; subst h2
    cases hv
    exact ⟨rfl, by simp, [], rfl, trivial⟩
  · injection he with he
    injection he with h1 h2
    subst h1; subst h2
    cases hv
    refine ⟨rfl, by simp, [], ?_, trivial⟩
    show (loadCells _ (0 * size)).run P w = _
    rw [Nat.zero_mul]; rfl
  · rename_i k gen off len cap
    split at he
    · rename_i ty g esz ro m d t hk
      split at he
      · rename_i hg hle
        obtain rfl := Nat.eq_of_beq_eq_true hg
        have hle : off + len * size ≤ m := Nat.le_of_ble_eq_true hle
        split at he
        · rename_i l' hl
          injection he with he
          injection he with h1 h2
          subst h1; subst h2
          obtain ⟨e, cc, hek, rfl, _, _, _⟩ := slice_now r hv hk
          obtain ⟨cs, h1, h2, h3⟩ := run_many (P := P) r hek hk hle hl
          exact ⟨rfl, (many_spec _ _ _ _ _ hl).1, cs, h1, LRel.of h2 h3⟩
        · cases he
      · cases he
    · cases he
  · cases he
noncomputable def evAppend (P : Program) (h : H) (ts : List TypeId) (s x : V) : Option (V × H) :=
  match ts with
  | [st, xt] => match Nat.beq st xt, P.underlying st with
    | true, some (.slice elem) => match P.info? elem with
      | some it => match it.zero with
        | some z => match cellsAt h it.size x, cellsAt h it.size s, Nat.beq z.cells.size it.size with
          | some (n, l), some (sl, old), true => match l.all one, Nat.ble (Nat.mul (sl + n) it.bytes) 140737488355328, Nat.ble (sl + n) 9223372036854775807 with
            | true, true, true => match s with
              | .snil => match n with
                | 0 => some (.snil, h)
                | n + 1 => T.force (setMany .e 0 l) fun t2 => some (.slice h.next 0 0 (n + 1) none, h.push (.cells elem 0 it.size false (Nat.mul (n + 1) it.size) [] t2))
              | .slice k gen off len (some c) => match Nat.ble (len + n) c with
                | true => match h.t.get k with
                  | some (.cells ty g esz ro m d t) => match ro, Nat.ble (Nat.add off (Nat.mul (len + n) it.size)) m with
                    | false, true => T.force (setMany t (Nat.add off (Nat.mul len it.size)) l) fun t2 => some (.slice k gen off (len + n) (some c), h.put k (.cells ty g esz false m d t2))
                    | _, _ => none
                  | _ => none
                | false => T.force (setMany .e 0 (old ++ l)) fun t2 => some (.slice h.next 0 0 (len + n) none, h.push (.cells elem 0 it.size false (Nat.mul (len + n) it.size) [] t2))
              | .slice k gen off len none => match off, h.t.get k with
                | 0, some (.cells ty g esz ro _ d t) => match ro, Nat.beq esz it.size, Nat.beq ty elem with
                  | false, true, true => T.force (setMany t (Nat.mul len it.size) l) fun t2 => some (.slice k (gen + 1) 0 (len + n) none, h.put k (.cells ty (gen + 1) esz false (Nat.mul (len + n) it.size) d t2))
                  | _, _, _ => none
                | _, _ => none
              | _ => none
            | _, _, _ => none
          | _, _, _ => none
        | none => none
      | none => none
    | _, _ => none
  | _ => none
theorem run_place (w : World) {ty st elem : TypeId} {it : TypeInfo} {base : Option Addr} {sl n cap : Nat} {xc : Value} {new : List Value}
    (hu : P.underlying st = some (.slice elem)) (hit : P.info? elem = some it)
    (hlen : (Builtin.lenOf xc).run P w = .ok n w) (hnew : (Builtin.firstCells it.size n xc).run P w = .ok new.toArray w) (hc : sl + n ≤ cap) :
    (Builtin.append_ #[st, st] ty #[.slice base sl cap, xc]).run P w = (((match base with | some a => storeCells (a.add (sl * it.size)) new | none => pure ()) : Sem Unit).run P w).andThen fun _ w' => .ok (.slice base (sl + n) cap) w' := by
  cases base with
  | none => simp [Builtin.append_, run_und hu, sizeOf, typeInfo, hit, hlen, hnew, hc]
  | some a => simp [Builtin.append_, run_und hu, sizeOf, typeInfo, hit, hlen, hnew, hc]
theorem run_grow (w : World) {ty st elem : TypeId} {it : TypeInfo} {z : Value} {base : Option Addr} {sl n cap : Nat} {xc : Value} {old new : List Value}
    (hu : P.underlying st = some (.slice elem)) (hit : P.info? elem = some it) (hz : it.zero = some z)
    (hlen : (Builtin.lenOf xc).run P w = .ok n w) (hnew : (Builtin.firstCells it.size n xc).run P w.drew = .ok new.toArray w.drew) (hold : (Builtin.firstCells it.size sl (.slice base sl cap)).run P w.drew = .ok old.toArray w.drew)
    (hb : (sl + n) * it.bytes ≤ 140737488355328) (hs : sl + n ≤ 9223372036854775807) (hc : cap < sl + n) :
    ∃ c, sl + n ≤ c ∧ (Builtin.append_ #[st, st] ty #[.slice base sl cap, xc]).run P w = .ok (.slice (some ⟨w.heap.size, 0, none⟩) (sl + n) c) (w.drew.alloc (.cells (old.toArray ++ new.toArray ++ Builtin.zeroCells z.cells (c - (sl + n))) elem)) := by
  have hn : ¬ (sl + n ≤ cap) := by omega
  have h63' : ¬ (9223372036854775807 < ((sl : Int) + (n : Int))) := by omega
  have h48' : ¬ (281474976710656 < Builtin.nextslicecap (sl + n) cap * it.bytes) := by
    have := growslice_fits hc hb
    omega
  refine ⟨grownCap w (sl + n) cap elem, by unfold grownCap Question.cut; simp only; omega, ?_⟩
  simp [Builtin.append_, run_und hu, sizeOf, typeInfo, zeroValue, hit, hz, hlen, hn, h63', h48', Question.forced, hnew, hold, newRow, grownCap]
  congr 2
  apply Array.ext'
  simp [List.append_assoc]
theorem zeroCells_size (z : Array Value) (n : Nat) : (Builtin.zeroCells z n).size = n * z.size := by simp [Builtin.zeroCells]
theorem rget_app {l : List V} (i : Nat) : rget [] (setMany .e 0 l) i = l[i]? := by
  rw [rget_setMany]
  by_cases hi : 0 ≤ i ∧ i < 0 + l.length
  · rw [if_pos hi]; rfl
  · rw [if_neg hi, List.getElem?_eq_none (by omega)]; rfl
theorem LRel.app {a b : List V} {c d : List Value} (h1 : LRel ρ a c) (h2 : LRel ρ b d) : LRel ρ (a ++ b) (c ++ d) := by
  induction a generalizing c with
  | nil => cases c with | nil => exact h2 | cons _ _ => exact h1.elim
  | cons v a ih => cases c with | nil => exact h1.elim | cons x c => exact ⟨h1.1, ih h1.2⟩
set_option maxHeartbeats 1000000 in
theorem evAppend_sound (r : Rel ρ h w) {ts : Array TypeId} {rt : TypeId} {s x u : V} {cs cx : Value} {h' : H} (hs : VRel ρ s cs) (hx : VRel ρ x cx) (he : evAppend P h ts.toList s x = some (u, h')) : Comes1 P ρ h w (Builtin.append_ ts rt #[cs, cx]) u h' := by
  unfold evAppend at he
  simp only [T.force_eq] at he
  split at he
  · rename_i st xt hts
    obtain rfl : ts = #[st, xt] := by cases ts; simp at hts; subst hts; rfl
    split at he
    · rename_i elem heq hu
      obtain rfl := Nat.eq_of_beq_eq_true heq
      split at he
      · rename_i it hit
        split at he
        · rename_i z hz
          split at he
          · rename_i n l sl old hxl hsl hzs
            have hzs := Nat.eq_of_beq_eq_true hzs
            obtain ⟨q1, q2, nw, q3, q4⟩ := cellsAt_sound (P := P) r hx hxl
            obtain ⟨_, _, nw', q3', q4'⟩ := cellsAt_sound (P := P) (r.drew (w' := w.drew) rfl) hx hxl
            obtain ⟨_, p2, ol, p3, p4⟩ := cellsAt_sound (P := P) (r.drew (w' := w.drew) rfl) hs hsl
            split at he
            · rename_i a1 a2 a3
              have a2 : (sl + n) * it.bytes ≤ 140737488355328 := Nat.le_of_ble_eq_true a2
              have a3 := Nat.le_of_ble_eq_true a3
              have hlo : ol.length = sl * it.size := p4.length.trans p2
              have hln : nw'.length = n * it.size := q4'.length.trans q2
              -- the cells that the machine lays behind what it copies
              have row : ∀ (c : Nat), sl + n ≤ c → (ol.toArray ++ nw'.toArray ++ Builtin.zeroCells z.cells (c - (sl + n))).size = c * it.size ∧
                  ∀ i, i < (sl + n) * it.size → ∃ u x, (old ++ l)[i]? = some u ∧ (ol.toArray ++ nw'.toArray ++ Builtin.zeroCells z.cells (c - (sl + n)))[i]? = some x ∧ VRel ρ u x := by
                intro c hc
                constructor
                · simp only [Array.size_append, List.size_toArray, zeroCells_size, hzs, hlo, hln]
                  rw [← Nat.add_mul, ← Nat.add_mul]; congr 1; omega
                · intro i hi
                  have hi1 : i < (old ++ l).length := by rw [List.length_append, p2, q2, ← Nat.add_mul]; exact hi
                  have hi2 : i < (ol ++ nw').length := by rw [List.length_append, hlo, hln, ← Nat.add_mul]; exact hi
                  refine ⟨_, (ol ++ nw')[i], List.getElem?_eq_getElem hi1, ?_, (p4.app q4').get i _ _ (List.getElem?_eq_getElem hi1) (List.getElem?_eq_getElem hi2)⟩
                  rw [Array.getElem?_append_left (by simpa using hi2)]
                  simp [List.getElem?_eq_getElem hi2]
              -- a new block, whose capacity the machine draws
              have fresh : ∀ {base : Option Addr} {cap : Nat}, cs = .slice base sl cap → cap < sl + n → ∃ (q : Value) (w' : World) (ρ' : Env), (Builtin.append_ #[st, st] rt #[cs, cx]).run P w = .ok q w' ∧ Step ρ h w ρ' (h.push (.cells elem 0 it.size false ((sl + n) * it.size) [] (setMany .e 0 (old ++ l)))) w' ∧ VRel ρ' (.slice h.next 0 0 (sl + n) none) q := by
                intro base cap hcs hc
                subst hcs
                obtain ⟨c, c1, c2⟩ := run_grow (P := P) (ty := rt) w hu hit hz q1 q3' p3 a2 a3 hc
                obtain ⟨r1, r2⟩ := row c c1
                obtain ⟨ρ', s1, s2, s3⟩ := step_row (P := P) (ty := elem) (esz := it.size) (d := []) (t := setMany .e 0 (old ++ l)) (n := (sl + n) * it.size) (r.drew (w' := w.drew) rfl) r1 (Nat.mul_le_mul_right _ c1) (fun i hi => by
                  obtain ⟨u, x, h1, h2, h3⟩ := r2 i hi
                  exact ⟨u, x, by rw [rget_app]; exact h1, h2, h3⟩)
                refine ⟨_, _, ρ', c2, (Step.drew (w' := w.drew) r rfl rfl rfl rfl).trans s2, ?_⟩
                exact .slice (c := c) s3 rfl (fun x hx => by cases hx) c1 (fun _ => by show 0 + c * it.size ≤ c * it.size; omega)
              split at he
              · cases hs
                injection hsl with hsl
                injection hsl with h1 h2
                subst h1; subst h2
                split at he
                · injection he with he
                  injection he with h1 h2
                  subst h1; subst h2
                  refine ⟨.slice none 0 0, w, ρ, ?_, Step.refl r, .snil⟩
                  rw [run_place (P := P) (ty := rt) w hu hit q1 q3 (Nat.le_refl _)]
                  rfl
                · rename_i n
                  injection he with he
                  injection he with h1 h2
                  subst h1; subst h2
                  have := fresh rfl (by omega)
                  rw [Nat.zero_add, List.nil_append] at this
                  exact this
              · rename_i k gen off len c
                obtain ⟨ty0, g0, esz0, ro0, m0, d0, t0, hk0⟩ : ∃ ty g esz ro m d t, h.t.get k = some (.cells ty g esz ro m d t) ∧ g = gen ∧ len = sl := by
                  unfold cellsAt at hsl
                  split at hsl
                  · rename_i heq; cases heq
                  · rename_i heq; cases heq
                  · rename_i heq; injection heq with e1 e2 e3 e4 e5; subst e1; subst e2; subst e3; subst e4
                    split at hsl
                    · rename_i hk
                      split at hsl
                      · rename_i hg _
                        split at hsl
                        · injection hsl with hsl; injection hsl with h1 h2
                          exact ⟨_, _, _, _, _, _, _, hk, Nat.eq_of_beq_eq_true hg, h1⟩
                        · cases hsl
                      · cases hsl
                    · cases hsl
                  · rename_i hne; exact absurd rfl (hne _ _ _ _ _)
                obtain ⟨hk0, rfl, rfl⟩ := hk0
                obtain ⟨e, cc, hek, rfl, hcap, hle, _⟩ := slice_now r hs hk0
                obtain rfl := hcap _ rfl
                split at he
                · rename_i hfit
                  have hfit := Nat.le_of_ble_eq_true hfit
                  split at he
                  · rename_i ty g esz ro m d t hk
                    rw [hk] at hk0
                    injection hk0 with hk0
                    injection hk0 with e1 e2 e3 e4 e5 e6 e7
                    subst e1; subst e2; subst e3; subst e4; subst e5; subst e6; subst e7
                    split at he
                    · rename_i hm
                      have hm : off + (len + n) * it.size ≤ m := Nat.le_of_ble_eq_true hm
                      injection he with he
                      injection he with h1 h2
                      subst h1; subst h2
                      obtain ⟨w', s1, s2⟩ := step_store (P := P) r hek hk (off := off + len * it.size) (l := l) (cs := nw) (by rw [q2, Nat.add_assoc, ← Nat.add_mul]; exact hm) a1 q4.length q4.get
                      refine ⟨.slice (some ⟨e.b, e.at_ + off, none⟩) (len + n) cc, w', ρ, ?_, s2, ?_⟩
                      · rw [run_place (P := P) (ty := rt) w hu hit q1 q3 hfit]
                        simp only [addr_add, Nat.add_assoc]
                        rw [s1]
                        rfl
                      · exact .slice hek (r.cells hek hk).1 (fun x hx => by injection hx) hfit (fun hh => by cases hh)
                    · cases he
                  · cases he
                · rename_i hfit
                  have hfit : cc < len + n := by
                    rcases Nat.lt_or_ge cc (len + n) with h0 | h0
                    · exact h0
                    · rw [Nat.ble_eq_true_of_le h0] at hfit; cases hfit
                  injection he with he
                  injection he with h1 h2
                  subst h1; subst h2
                  exact fresh rfl hfit
              · rename_i k gen off len
                split at he
                · rename_i ty g esz ro m d t hk
                  split at he
                  · rename_i hesz hty
                    obtain rfl := Nat.eq_of_beq_eq_true hesz
                    obtain rfl := Nat.eq_of_beq_eq_true hty
                    obtain ⟨rfl, rfl, hlm⟩ : g = gen ∧ len = sl ∧ len * it.size ≤ m := by
                      unfold cellsAt at hsl
                      split at hsl
                      · rename_i heq; cases heq
                      · rename_i heq; cases heq
                      · rename_i heq; injection heq with e1 e2 e3 e4 e5; subst e1; subst e2; subst e3; subst e4
                        rw [hk] at hsl
                        simp only at hsl
                        split at hsl
                        · rename_i hg hle
                          split at hsl
                          · injection hsl with hsl; injection hsl with h1 h2
                            have hle := Nat.le_of_ble_eq_true hle
                            have hle : 0 + _ * it.size ≤ m := hle
                            exact ⟨Nat.eq_of_beq_eq_true hg, h1, by omega⟩
                          · cases hsl
                        · cases hsl
                      · rename_i hne; exact absurd rfl (hne _ _ _ _ _)
                    injection he with he
                    injection he with h1 h2
                    subst h1; subst h2
                    obtain ⟨e, cc, hek, rfl, _, hle, hroom⟩ := slice_now r hs hk
                    have hroom := hroom rfl
                    obtain ⟨c1, c2, c3, xs, fz, c4, c5, c6, c7, c8⟩ := r.cells hek hk
                    rw [c2] at hroom
                    by_cases hfit : len + n ≤ cc
                    · -- the capacity holds them: they are laid where the block stands
                      have hsum : (len + n) * it.size = len * it.size + n * it.size := Nat.add_mul ..
                      have hmul : (len + n) * it.size ≤ cc * it.size := Nat.mul_le_mul_right _ hfit
                      obtain ⟨w', xs', s1, s2, s3, s4, s5, s6, s7, s8, s9⟩ := run_storeCells (P := P) nw w e.b (e.at_ + 0 + len * it.size) 0 xs ty fz c4 (by rw [q4.length, q2]; omega) c7 (one_all a1 q4.length q4.get)
                      refine ⟨.slice (some ⟨e.b, e.at_ + 0, none⟩) (len + n) cc, w', _, ?_, Step.turn r hek c3 (.cells ty (g + 1) it.size false ((len + n) * it.size) d (setMany t (len * it.size) l)) (.cells xs' ty fz) ⟨e.b, e.at_, g + 1, e.room, it.size, false⟩ (.inr (by show e.gen < g + 1; omega)) rfl (.inl rfl) s2 ?_ s7 s8 s9 (Nat.le_of_eq s6.symm) (fun b _ hne => s5 b hne), ?_⟩
                      · rw [run_place (P := P) (ty := rt) w hu hit q1 q3 hfit]
                        simp only [addr_add]
                        rw [s1]
                        rfl
                      · intro ρ' x _
                        refine ⟨rfl, rfl, rfl, xs', fz, rfl, s3.trans c5, ?_, by rw [s3]; exact c7, fun i hi => ?_⟩
                        · show (len + n) * it.size ≤ e.room
                          omega
                        · rw [rget_setMany, s4]
                          by_cases ci : len * it.size ≤ i ∧ i < len * it.size + l.length
                          · rw [if_pos ci]
                            have hlt : i - len * it.size < l.length := by omega
                            have hlt' : i - len * it.size < nw.length := by rw [q4.length]; exact hlt
                            refine ⟨l[i - len * it.size], nw[i - len * it.size], List.getElem?_eq_getElem hlt, ?_, (q4.get _ _ _ (List.getElem?_eq_getElem hlt) (List.getElem?_eq_getElem hlt')).ext x⟩
                            show (if e.at_ + 0 + len * it.size + 0 ≤ e.at_ + i ∧ e.at_ + i < e.at_ + 0 + len * it.size + 0 + nw.length then nw[e.at_ + i - (e.at_ + 0 + len * it.size + 0)]? else xs[e.at_ + i]?) = _
                            rw [if_pos (by rw [q4.length]; omega), show e.at_ + i - (e.at_ + 0 + len * it.size + 0) = i - len * it.size by omega]
                            exact List.getElem?_eq_getElem hlt'
                          · rw [if_neg ci]
                            have him : i < len * it.size := by rw [q2] at ci; omega
                            obtain ⟨v, y, d1, d2, d3⟩ := c8 i (by omega)
                            refine ⟨v, y, d1, ?_, d3.ext x⟩
                            show (if e.at_ + 0 + len * it.size + 0 ≤ e.at_ + i ∧ e.at_ + i < e.at_ + 0 + len * it.size + 0 + nw.length then nw[e.at_ + i - (e.at_ + 0 + len * it.size + 0)]? else xs[e.at_ + i]?) = _
                            rw [if_neg (by omega)]
                            exact d2
                      · exact VRel.slice (e := ⟨e.b, e.at_, g + 1, e.room, it.size, false⟩) (if_pos rfl) rfl (fun x hx => by cases hx) hfit (fun _ => by show 0 + cc * it.size ≤ e.room; omega)
                    · -- it doesn't: the block stands elsewhere from now on
                      obtain ⟨c, g1, g2⟩ := run_grow (P := P) (ty := rt) w hu hit hz q1 q3' p3 a2 a3 (by omega)
                      obtain ⟨r1, r2⟩ := row c g1
                      have hst := Step.turn (w' := w.drew.alloc (.cells (ol.toArray ++ nw'.toArray ++ Builtin.zeroCells z.cells (c - (len + n))) ty)) r hek c3 (.cells ty (g + 1) it.size false ((len + n) * it.size) d (setMany t (len * it.size) l)) (.cells (ol.toArray ++ nw'.toArray ++ Builtin.zeroCells z.cells (c - (len + n))) ty) ⟨w.heap.size, 0, g + 1, c * it.size, it.size, false⟩ (.inr (by show e.gen < g + 1; omega)) rfl (.inr (Nat.le_refl _)) (by show (w.heap.push _)[w.heap.size]? = _; simp) ?_ rfl rfl rfl (by show w.heap.size ≤ (w.heap.push _).size; simp) (fun b hb _ => by show (w.heap.push _)[b]? = _; rw [Array.getElem?_push, if_neg (by omega)])
                      · refine ⟨_, _, _, g2, hst, ?_⟩
                        exact VRel.slice (e := ⟨w.heap.size, 0, g + 1, c * it.size, it.size, false⟩) (if_pos rfl) rfl (fun x hx => by cases hx) g1 (fun _ => by show 0 + c * it.size ≤ c * it.size; omega)
                      · intro ρ' x _
                        refine ⟨rfl, rfl, rfl, _, (0, 0), rfl, by rw [r1]; show _ = 0 + c * it.size; omega, Nat.mul_le_mul_right _ g1, fun i hi hf => absurd hf.2 (Nat.not_lt_zero _), fun i hi => ?_⟩
                        obtain ⟨u, y, h1, h2, h3⟩ := r2 i hi
                        refine ⟨u, y, ?_, by rw [Nat.zero_add]; exact h2, h3.ext x⟩
                        rw [rget_setMany]
                        have hold : ∀ j, j < len * it.size → old[j]? = rget d t j := by
                          intro j hj
                          simp only [cellsAt, hk] at hsl
                          split at hsl
                          · split at hsl
                            · rename_i l0 hl0
                              injection hsl with hsl; injection hsl with _ h2'
                              subst h2'
                              have hjl : j < l0.length := by rw [p2]; exact hj
                              rw [List.getElem?_eq_getElem hjl]
                              have := (many_spec _ _ _ _ _ hl0).2 j _ (List.getElem?_eq_getElem hjl)
                              rw [Nat.zero_add] at this
                              exact this.symm
                            · cases hsl
                          · cases hsl
                        by_cases ci : len * it.size ≤ i ∧ i < len * it.size + l.length
                        · rw [if_pos ci]
                          rw [List.getElem?_append_right (by omega), p2] at h1
                          exact h1
                        · rw [if_neg ci]
                          have hsum : (len + n) * it.size = len * it.size + n * it.size := Nat.add_mul ..
                          have him : i < len * it.size := by rw [q2] at ci; omega
                          rw [List.getElem?_append_left (by omega)] at h1
                          rw [← hold i him]
                          exact h1
                  · cases he
                · cases he
              · cases he
            · cases he
          · cases he
        · cases he
      · cases he
    · cases he
  · cases he
end
end Go.Ev
