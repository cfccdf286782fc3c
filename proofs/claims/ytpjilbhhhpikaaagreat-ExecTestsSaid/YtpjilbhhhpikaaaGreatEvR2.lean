/- Addresses, cuts, fields, elements, loads: reckoned by the kernel; and that the machine's operation comes to the same. No condition but what each theorem says. -/
import Derived.Test.YtpjilbhhhpikaaaGreatEvR
namespace Go.Ev
set_option linter.unusedVariables false
set_option linter.unusedSimpArgs false
open Go
section
variable {P : Program} {ρ : Env} {h : H} {w : World}
theorem ptr_now (r : Rel ρ h w) {k gen off : Nat} {c : Value} (hv : VRel ρ (.ptr k gen off) c) {ty esz len : Nat} {ro : Bool} {d : List (Nat × V)} {t : T V} (hk : h.t.get k = some (.cells ty gen esz ro len d t)) :
    ∃ e, ρ k = some e ∧ c = .pointer (some ⟨e.b, e.at_ + off, none⟩) := by
  cases hv with
  | ptr he hg => exact ⟨_, he, rfl⟩
  | ptrOld he hg =>
    have := (r.cells he hk).1
    omega
theorem slice_now (r : Rel ρ h w) {k gen off n : Nat} {cap : Option Nat} {c : Value} (hv : VRel ρ (.slice k gen off n cap) c) {ty esz len : Nat} {ro : Bool} {d : List (Nat × V)} {t : T V} (hk : h.t.get k = some (.cells ty gen esz ro len d t)) :
    ∃ e m, ρ k = some e ∧ c = .slice (some ⟨e.b, e.at_ + off, none⟩) n m ∧ (∀ x, cap = some x → m = x) ∧ n ≤ m ∧ (cap = none → off + m * e.esz ≤ e.room) := by
  cases hv with
  | slice he hg h1 h2 h3 => exact ⟨_, _, he, rfl, h1, h2, h3⟩
  | sliceOld he hg =>
    have := (r.cells he hk).1
    omega
theorem agg_of_list {l : List V} {cs : List Value} (hl : cs.length = l.length) (hr : ∀ (i : Nat) (v : V) (c : Value), l[i]? = some v → cs[i]? = some c → VRel ρ v c) : VRel ρ (.agg l.length [] (setMany .e 0 l)) (.agg cs.toArray) := by
  refine .agg (by simp [hl]) (fun i hi => ⟨l[i], ?_⟩) (fun i v c hv hc => ?_)
  · rw [rget_setMany, if_pos (by omega)]
    simp
  · rw [rget_setMany] at hv
    by_cases hi : 0 ≤ i ∧ i < 0 + l.length
    · rw [if_pos hi] at hv
      exact hr i v c (by simpa using hv) (by simpa using hc)
    · rw [if_neg hi] at hv; cases hv
/-! ### load -/
noncomputable def loadO (P : Program) (t : TypeId) (gen off : Nat) : O → Option V
  | .cells _ g _ _ len d t' =>
    match Nat.beq g gen with
    | true => match aggB P t with
      | some false => match Nat.ble (off + 1) len with
        | true => rget d t' off
        | false => none
      | some true => match siz P t with
        | some n => match Nat.ble (off + n) len with
          | true => match many d t' off n with
            | some l => some (.agg n [] (setMany .e 0 l))
            | none => none
          | false => none
        | none => none
      | none => none
    | false => none
  | .map _ => none
noncomputable def evLoad (P : Program) (h : H) (t : TypeId) : V → Option V
  | .ptr k gen off => match h.t.get k with | some o => loadO P t gen off o | none => none
  | _ => none
theorem evLoad_sound (r : Rel ρ h w) {t : TypeId} {a v : V} {c : Value} (hv : VRel ρ a c) (he : evLoad P h t a = some v) : ∃ x, (Instr.loadAt t c).run P w = .ok x w ∧ VRel ρ v x := by
  unfold evLoad at he
  split at he
  · rename_i k gen off
    split at he
    · rename_i o hk
      unfold loadO at he
      split at he
      · rename_i ty g esz ro len d t'
        split at he
        · rename_i hg
          obtain rfl := Nat.eq_of_beq_eq_true hg
          obtain ⟨e, hek, rfl⟩ := ptr_now r hv hk
          split at he
          · rename_i ha
            split at he
            · rename_i hlt
              obtain ⟨x, hx, hr⟩ := r.cell hek hk (i := off) (Nat.le_of_ble_eq_true hlt) he
              refine ⟨x, ?_, hr⟩
              simp only [Instr.loadAt, Instr.sureAddr, loadVar, Sem.run_bind, Sem.run_pure, Result.andThen_ok, run_agg ha, Bool.false_eq_true, if_false, run_load, hx]
            · cases he
          · rename_i ha
            split at he
            · rename_i n hn
              split at he
              · rename_i hle
                split at he
                · rename_i l hl
                  injection he with he; subst he
                  obtain ⟨cs, h1, h2, h3⟩ := run_many (P := P) r hek hk (Nat.le_of_ble_eq_true hle) hl
                  refine ⟨.agg cs.toArray, ?_, ?_⟩
                  · simp only [Instr.loadAt, Instr.sureAddr, loadVar, Sem.run_bind, Sem.run_pure, Result.andThen_ok, run_agg ha, if_true, run_siz hn, h1]
                  · have := agg_of_list h2 h3
                    rwa [(many_spec _ _ _ _ _ hl).1] at this
                · cases he
              · cases he
            · cases he
          · cases he
        · cases he
      · cases he
    · cases he
  · cases he
/-! ### addresses -/
def evFieldAddr (P : Program) (s : TypeId) (f : Nat) : V → Option V
  | .ptr k gen off => match P.underlying s with
    | some (.struct fs) => match fs[f]? with
      | some fd => match siz P fd.type with
        | some (_ + 1) => some (.ptr k gen (Nat.add off fd.offset))
        | _ => none
      | none => none
    | _ => none
  | _ => none
theorem ptr_move {k gen off n : Nat} {c : Value} (hv : VRel ρ (.ptr k gen off) c) : ∃ a : Addr, c = .pointer (some a) ∧ VRel ρ (.ptr k gen (off + n)) (.pointer (some (a.add n))) := by
  cases hv with
  | ptr he hg => exact ⟨_, rfl, by rw [addr_add, Nat.add_assoc]; exact .ptr he hg⟩
  | ptrOld he hg => exact ⟨_, rfl, .ptrOld he hg⟩
theorem evFieldAddr_sound (w : World) {s : TypeId} {f : Nat} {a v : V} {c : Value} (hv : VRel ρ a c) (he : evFieldAddr P s f a = some v) : ∃ x, (Instr.fieldAt s c f).run P w = .ok x w ∧ VRel ρ v x := by
  unfold evFieldAddr at he
  split at he
  · rename_i k gen off
    split at he
    · rename_i fs hu
      split at he
      · rename_i fd hf
        split at he
        · rename_i n hn
          injection he with he; subst he
          obtain ⟨ad, rfl, hr⟩ := ptr_move (n := fd.offset) hv
          refine ⟨_, ?_, hr⟩
          simp [Instr.fieldAt, Instr.sureAddr, fieldPlace, run_und hu, hf, run_siz hn]
        · cases he
      · cases he
    · cases he
  · cases he
noncomputable def genIs (h : H) (k gen : Nat) : Bool :=
  match h.t.get k with
  | some (.cells _ g _ _ _ _ _) => Nat.beq g gen
  | _ => false
theorem genIs_cells {k gen : Nat} (hg : genIs h k gen = true) : ∃ ty esz ro len d t, h.t.get k = some (.cells ty gen esz ro len d t) := by
  unfold genIs at hg
  split at hg
  · rename_i hk
    obtain rfl := Nat.eq_of_beq_eq_true hg
    exact ⟨_, _, _, _, _, _, hk⟩
  · cases hg
/-- A number that isn't negative, as such. -/
def natOf : V → Option Nat
  | .int _ (.ofNat n) => some n
  | _ => none
theorem natOf_rel {v : V} {c : Value} {n : Nat} (hv : VRel ρ v c) (hn : natOf v = some n) : ∃ k, c = .int k (n : Int) := by
  unfold natOf at hn
  split at hn
  · injection hn with hn; subst hn
    cases hv
    exact ⟨_, rfl⟩
  · cases hn
noncomputable def evIndexAddr (P : Program) (h : H) (t : TypeId) (x i : V) : Option V :=
  match natOf i with
  | some n => match P.underlying t, x with
    | some (.array len elem), .ptr k gen off => match Nat.ble (n + 1) len with
      | true => match siz P elem with
        | some s => some (.ptr k gen (Nat.add off (Nat.mul n s)))
        | none => none
      | false => none
    | some (.slice elem), .slice k gen off len _ => match genIs h k gen with
      | true => match Nat.ble (n + 1) len with
        | true => match siz P elem with
          | some s => some (.ptr k gen (Nat.add off (Nat.mul n s)))
          | none => none
        | false => none
      | false => none
    | _, _ => none
  | none => none
theorem evIndexAddr_sound (r : Rel ρ h w) {t : TypeId} {a i v : V} {c ci : Value} (hv : VRel ρ a c) (hi : VRel ρ i ci) (he : evIndexAddr P h t a i = some v) : ∃ x, (Instr.indexAt t c ci).run P w = .ok x w ∧ VRel ρ v x := by
  unfold evIndexAddr at he
  split at he
  · rename_i n hn
    obtain ⟨ik, rfl⟩ := natOf_rel hi hn
    split at he
    · rename_i len elem k gen off hu
      split at he
      · rename_i hlt
        have hlt := Nat.le_of_ble_eq_true hlt
        split at he
        · rename_i s hs
          injection he with he; subst he
          obtain ⟨ad, rfl, hr⟩ := ptr_move (n := n * s) hv
          refine ⟨_, ?_, hr⟩
          have hlt' : n < len := hlt
          simp [Instr.indexAt, Instr.sureAddr, asIntOf, run_und hu, run_siz hs, hlt']
        · cases he
      · cases he
    · rename_i elem k gen off len cap hu
      split at he
      · rename_i hg
        obtain ⟨ty, esz, ro, len', d, t', hk⟩ := genIs_cells hg
        split at he
        · rename_i hlt
          have hlt : n < len := Nat.le_of_ble_eq_true hlt
          split at he
          · rename_i s hs
            injection he with he; subst he
            obtain ⟨e, m, hek, rfl, _, _, _⟩ := slice_now r hv hk
            refine ⟨.pointer (some ((⟨e.b, e.at_ + off, none⟩ : Addr).add (n * s))), ?_, ?_⟩
            · simp [Instr.indexAt, asIntOf, run_und hu, run_siz hs, hlt]
            · rw [addr_add, Nat.add_assoc]
              exact .ptr hek (r.cells hek hk).1
          · cases he
        · cases he
      · cases he
    · cases he
  · cases he
/-! ### fields and elements of values -/
noncomputable def partV (P : Program) (t : TypeId) (n : Nat) (d : List (Nat × V)) (t' : T V) (off : Nat) : Option V :=
  match aggB P t with
  | some false => match Nat.ble (off + 1) n with
    | true => rget d t' off
    | false => none
  | some true => match siz P t with
    | some s => match Nat.ble (off + s) n with
      | true => match many d t' off s with
        | some l => some (.agg s [] (setMany .e 0 l))
        | none => none
      | false => none
    | none => none
  | none => none
theorem partV_sound (w : World) {t : TypeId} {n off : Nat} {d : List (Nat × V)} {t' : T V} {cs : Array Value} {v : V} (hv : VRel ρ (.agg n d t') (.agg cs)) (he : partV P t n d t' off = some v) : ∃ x, (part t cs off).run P w = .ok x w ∧ VRel ρ v x := by
  cases hv with
  | agg hs hd hh =>
  unfold partV at he
  split at he
  · rename_i ha
    split at he
    · rename_i hlt
      have hlt : off < cs.size := by have := Nat.le_of_ble_eq_true hlt; omega
      refine ⟨cs[off], ?_, hh off v _ he (Array.getElem?_eq_getElem hlt)⟩
      simp [part, run_agg ha, Array.getElem?_eq_getElem hlt]
    · cases he
  · rename_i ha
    split at he
    · rename_i s hsz
      split at he
      · rename_i hle
        have hle := Nat.le_of_ble_eq_true hle
        split at he
        · rename_i l hl
          injection he with he; subst he
          obtain ⟨h1, h2⟩ := many_spec _ _ _ _ _ hl
          refine ⟨.agg (cs.extract off (off + s)), ?_, ?_⟩
          · simp [part, run_agg ha, run_siz hsz]
          · have hlen : (cs.extract off (off + s)).toList.length = l.length := by simp; omega
            have := agg_of_list (ρ := ρ) (l := l) (cs := (cs.extract off (off + s)).toList) hlen (fun i u x hu hx => by
              refine hh (off + i) u x (h2 i u hu) ?_
              have hi : i < l.length := (List.getElem?_eq_some_iff.mp hu).1
              rw [Array.getElem?_toList, Array.getElem?_extract, if_pos (by omega)] at hx
              exact hx)
            rw [h1, Array.toArray_toList] at this
            exact this
        · cases he
      · cases he
    · cases he
  · cases he
noncomputable def evField (P : Program) (s : TypeId) (f : Nat) : V → Option V
  | .agg n d t => match P.underlying s with
    | some (.struct fs) => match fs[f]? with
      | some fd => partV P fd.type n d t fd.offset
      | none => none
    | _ => none
  | _ => none
theorem evField_sound (w : World) {s : TypeId} {f : Nat} {a v : V} {c : Value} (hv : VRel ρ a c) (he : evField P s f a = some v) : ∃ x, (Instr.field s c f).run P w = .ok x w ∧ VRel ρ v x := by
  unfold evField at he
  split at he
  · rename_i n d t
    split at he
    · rename_i fs hu
      split at he
      · rename_i fd hf
        obtain ⟨cs, rfl⟩ : ∃ cs, c = .agg cs := by cases hv; exact ⟨_, rfl⟩
        obtain ⟨x, hx, hr⟩ := partV_sound w hv he
        exact ⟨x, by simp [Instr.field, run_und hu, hf, asAgg, hx], hr⟩
      · cases he
    · cases he
  · cases he
noncomputable def evIndex (P : Program) (t : TypeId) (x i : V) : Option V :=
  match natOf i with
  | some n => match P.underlying t, x with
    | some (.array len elem), .agg m d t' => match Nat.ble (n + 1) len with
      | true => match siz P elem with
        | some s => partV P elem m d t' (Nat.mul n s)
        | none => none
      | false => none
    | some .string, .str s => match s.data.toList[n]? with
      | some b => some (.int .u8 (Int.ofNat b.toNat))
      | none => none
    | _, _ => none
  | none => none
theorem evIndex_sound (w : World) {t : TypeId} {a i v : V} {c ci : Value} (hv : VRel ρ a c) (hi : VRel ρ i ci) (he : evIndex P t a i = some v) : ∃ x, (Instr.index t c ci).run P w = .ok x w ∧ VRel ρ v x := by
  unfold evIndex at he
  split at he
  · rename_i n hn
    obtain ⟨ik, rfl⟩ := natOf_rel hi hn
    split at he
    · rename_i len elem m d t' hu
      split at he
      · rename_i hlt
        have hlt : n < len := Nat.le_of_ble_eq_true hlt
        split at he
        · rename_i s hs
          obtain ⟨cs, rfl⟩ : ∃ cs, c = .agg cs := by cases hv; exact ⟨_, rfl⟩
          obtain ⟨x, hx, hr⟩ := partV_sound w hv he
          have hx : (part elem cs (n * s)).run P w = .ok x w := hx
          exact ⟨x, by simp [Instr.index, asIntOf, run_und hu, hlt, run_siz hs, hx], hr⟩
        · cases he
      · cases he
    · rename_i s hu
      split at he
      · rename_i b hb
        injection he with he; subst he
        cases hv
        refine ⟨_, ?_, .int _ _⟩
        have hb' : s[n]? = some b := by
          have : n < s.data.toList.length := (List.getElem?_eq_some_iff.mp hb).1
          have hn : n < s.size := this
          rw [List.getElem?_eq_getElem this] at hb
          injection hb with hb
          rw [getElem?_pos s n hn]
          congr 1
        simp [Instr.index, asIntOf, run_und hu, hb']
      · cases he
    · cases he
  · cases he
def evExtract (i : Nat) : V → Option V
  | .tup l => l[i]?
  | _ => none
theorem evExtract_sound (w : World) {i : Nat} {a v : V} {c : Value} (hv : VRel ρ a c) (he : evExtract i a = some v) : ∃ x, (Instr.extract c i).run P w = .ok x w ∧ VRel ρ v x := by
  unfold evExtract at he
  split at he
  · cases hv with
    | tup hs hh =>
    rename_i l cs
    have hi : i < cs.size := by rw [hs]; exact (List.getElem?_eq_some_iff.mp he).1
    exact ⟨cs[i], by simp [Instr.extract, Array.getElem?_eq_getElem hi], hh i v _ he (Array.getElem?_eq_getElem hi)⟩
  · cases he
end
end Go.Ev
