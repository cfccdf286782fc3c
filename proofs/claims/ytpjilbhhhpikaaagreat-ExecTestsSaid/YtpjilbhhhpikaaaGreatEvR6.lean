/- Built values, looked-up entries, and any operation that changes no memory: reckoned by the kernel; and that the machine's operation comes to the same. No condition but what each theorem says. -/
import Derived.Test.YtpjilbhhhpikaaaGreatEvR5
namespace Go.Ev
set_option linter.unusedVariables false
set_option linter.unusedSimpArgs false
open Go
section
variable {P : Program} {ρ : Env} {h : H} {w : World}
/-! ### built values -/
noncomputable def fillV (place : Nat → Option (Nat × Nat)) (n : Nat) (t : T V) : List (Nat × V) → Option (T V)
  | [] => some t
  | (i, v) :: rest => match place i with
    | some (off, size) => match cellsV v with
      | some l => match Nat.beq l.length size, Nat.ble (off + l.length) n with
        | true, true => fillV place n (setMany t off l) rest
        | _, _ => none
      | none => none
    | none => none
def PRel (ρ : Env) : List (Nat × V) → List (Nat × Value) → Prop
  | [], [] => True
  | (i, v) :: l, (j, c) :: m => i = j ∧ VRel ρ v c ∧ PRel ρ l m
  | _, _ => False
theorem fold_get (off : Nat) : ∀ (l : List Value) (k : Nat) (cs : Array Value) (j : Nat), off + k + l.length ≤ cs.size →
    ((l.zipIdx k).foldl (fun cs (p : Value × Nat) => cs.setIfInBounds (off + p.2) p.1) cs).size = cs.size ∧
    ((l.zipIdx k).foldl (fun cs (p : Value × Nat) => cs.setIfInBounds (off + p.2) p.1) cs)[j]? = if off + k ≤ j ∧ j < off + k + l.length then l[j - (off + k)]? else cs[j]?
  | [], k, cs, j, hl => by
    refine ⟨rfl, ?_⟩
    rw [if_neg]
    · rfl
    · simp only [List.length_nil]; omega
  | c :: l, k, cs, j, hl => by
    simp only [List.length_cons] at hl ⊢
    obtain ⟨h1, h2⟩ := fold_get off l (k + 1) (cs.setIfInBounds (off + k) c) j (by simp; omega)
    refine ⟨h1.trans (by simp), ?_⟩
    rw [List.zipIdx_cons, List.foldl_cons]
    rw [h2]
    by_cases c1 : off + k = j
    · subst c1
      rw [if_neg (by omega), if_pos (by omega), Nat.sub_self, Array.getElem?_setIfInBounds]
      simp only [if_true]
      rw [if_pos (by omega)]
      rfl
    · by_cases c2 : off + (k + 1) ≤ j ∧ j < off + (k + 1) + l.length
      · rw [if_pos c2, if_pos (by omega), show j - (off + k) = (j - (off + (k + 1))) + 1 by omega]
        rfl
      · rw [if_neg c2, if_neg (by omega), Array.getElem?_setIfInBounds, if_neg c1]
/-- Cells that stand, as far as they are known. -/
def WRel (ρ : Env) (n : Nat) (d : List (Nat × V)) (t : T V) (cs : Array Value) : Prop := cs.size = n ∧ ∀ (i : Nat) (v : V) (c : Value), rget d t i = some v → cs[i]? = some c → VRel ρ v c
theorem fill_rel {place : Nat → Option (Nat × Nat)} {n : Nat} {d : List (Nat × V)} : ∀ (l : List (Nat × V)) (m : List (Nat × Value)) (t t' : T V) (cs : Array Value), fillV place n t l = some t' → PRel ρ l m → WRel ρ n d t cs →
    ∃ cs', Instr.fill place cs m = some cs' ∧ WRel ρ n d t' cs' ∧ ∀ i, (∃ v, rget d t i = some v) → ∃ v, rget d t' i = some v
  | [], [], t, t', cs, hf, _, hr => by injection hf with hf; subst hf; exact ⟨cs, rfl, hr, fun _ h => h⟩
  | [], _ :: _, _, _, _, _, hp, _ => hp.elim
  | _ :: _, [], _, _, _, _, hp, _ => hp.elim
  | (i, v) :: l, (j, c) :: m, t, t', cs, hf, hp, hr => by
    obtain ⟨rfl, hv, hp⟩ := hp
    unfold fillV at hf
    split at hf
    · rename_i off size hpl
      split at hf
      · rename_i cl hcl
        split at hf
        · rename_i a1 a2
          obtain rfl := Nat.eq_of_beq_eq_true a1
          have a2 := Nat.le_of_ble_eq_true a2
          obtain ⟨g1, g2⟩ := cellsV_rel hv hcl
          obtain ⟨hs, hh⟩ := hr
          have hlen : c.cells.toList.length = cl.length := by simpa using g1
          have hfold : ∀ j, ((c.cells.zipIdx.foldl (fun cs (x : Value × Nat) => cs.setIfInBounds (off + x.2) x.1) cs)).size = cs.size ∧ (c.cells.zipIdx.foldl (fun cs (x : Value × Nat) => cs.setIfInBounds (off + x.2) x.1) cs)[j]? = if off ≤ j ∧ j < off + cl.length then c.cells[j - off]? else cs[j]? := by
            intro j
            have := fold_get off c.cells.toList 0 cs j (by rw [hlen]; omega)
            rw [← Array.foldl_toList, Array.toList_zipIdx]
            simpa [hlen] using this
          obtain ⟨cs', h1, h2, h3⟩ := fill_rel (d := d) l m (setMany t off cl) t' (c.cells.zipIdx.foldl (fun cs (x : Value × Nat) => cs.setIfInBounds (off + x.2) x.1) cs) hf hp (by
            refine ⟨(hfold 0).1.trans hs, fun i u x hu hx => ?_⟩
            rw [rget_setMany] at hu
            rw [(hfold i).2] at hx
            by_cases hi' : off ≤ i ∧ i < off + cl.length
            · rw [if_pos hi'] at hu hx; exact g2 _ u x hu hx
            · rw [if_neg hi'] at hu hx; exact hh i u x hu hx)
          refine ⟨cs', ?_, h2, fun i hi => h3 i ?_⟩
          · unfold Instr.fill
            simp only [hpl]
            rw [if_neg]
            · exact h1
            · rw [g1]; simp; omega
          · rw [rget_setMany]
            by_cases hi' : off ≤ i ∧ i < off + cl.length
            · rw [if_pos hi']; exact ⟨cl[i - off]'(by omega), List.getElem?_eq_getElem _⟩
            · rw [if_neg hi']; exact hi
        · cases hf
      · cases hf
    · cases hf
theorem fill_agg {place : Nat → Option (Nat × Nat)} {n : Nat} {d : List (Nat × V)} {l : List (Nat × V)} {m : List (Nat × Value)} {t t' : T V} {cs : Array Value} (hf : fillV place n t l = some t') (hp : PRel ρ l m) (hr : VRel ρ (.agg n d t) (.agg cs)) :
    ∃ cs', Instr.fill place cs m = some cs' ∧ VRel ρ (.agg n d t') (.agg cs') := by
  cases hr with
  | agg hs hd hh =>
  obtain ⟨cs', h1, ⟨h2, h3⟩, h4⟩ := fill_rel l m t t' cs hf hp ⟨hs, hh⟩
  exact ⟨cs', h1, .agg h2 (fun i hi => h4 i (hd i hi)) h3⟩
def placesOf (P : Program) (fs : Array Field) : Option (List (Nat × Nat)) := fs.toList.mapM (fun f => (P.info? f.type).map fun i => (f.offset, i.size))
noncomputable def evBuild (P : Program) (t : TypeId) (parts : List (Nat × V)) : Option V :=
  match P.info? t with
  | some it => match it.zero with
    | some z => match constV z with
      | some (.agg n d e0) => match P.underlying t with
        | some (.struct fs) => match placesOf P fs with
          | some pl => match fillV (pl.toArray[·]?) n e0 parts with
            | some t' => some (.agg n d t')
            | none => none
          | none => none
        | some (.array _ el) => match P.info? el with
          | some ie => match fillV (fun i => some (i * ie.size, ie.size)) n e0 parts with
            | some t' => some (.agg n d t')
            | none => none
          | none => none
        | _ => none
      | _ => none
    | none => none
  | none => none
theorem evBuild_sound (w : World) {t : TypeId} {parts : List (Nat × V)} {parts' : Array (Nat × Value)} {v : V} (hp : PRel ρ parts parts'.toList) (he : evBuild P t parts = some v) : ∃ q, (Instr.build t parts').run P w = .ok q w ∧ VRel ρ v q := by
  unfold evBuild at he
  split at he
  · rename_i it hit
    split at he
    · rename_i z hz
      split at he
      · rename_i n d e0 hc
        have hrz := constV_rel (ρ := ρ) hc
        obtain ⟨cs, rfl⟩ : ∃ cs, z = .agg cs := by cases hrz; exact ⟨_, rfl⟩
        split at he
        · rename_i fs hu
          split at he
          · rename_i pl hpl
            split at he
            · rename_i t' hf
              injection he with he; subst he
              obtain ⟨cs', h1, h2⟩ := fill_agg hf hp hrz
              refine ⟨.agg cs', run_build w t parts' cs' ?_, h2⟩
              unfold Program.built
              have hpl : fs.toList.mapM (fun f => (P.info? f.type).map fun i => (f.offset, i.size)) = some pl := hpl
              simp only [hit, hu, hz, hpl]
              exact h1
            · cases he
          · cases he
        · rename_i n' el hu
          split at he
          · rename_i ie hie
            split at he
            · rename_i t' hf
              injection he with he; subst he
              obtain ⟨cs', h1, h2⟩ := fill_agg hf hp hrz
              refine ⟨.agg cs', run_build w t parts' cs' ?_, h2⟩
              unfold Program.built
              simp only [hit, hu, hz, hie]
              exact h1
            · cases he
          · cases he
        · cases he
      · cases he
    · cases he
  · cases he
/-! ### entries of maps -/
def eqKey (a b : V) : Option Bool :=
  match a, b with
  | .int k n, .int k' m => match kindB k k' with | true => some (eqI n m) | false => none
  | .str s, .str u => some (eqS s u)
  | _, _ => none
theorem eqKey_eq {a b : V} (he : eqKey a b = some true) : a = b := by
  unfold eqKey at he
  split at he
  · split at he
    · rename_i k n k' m hk
      obtain rfl := kindB_eq hk
      injection he with he
      rw [eqI_eq] at he
      rw [eq_of_beq he]
    · cases he
  · rename_i s u
    injection he with he
    unfold eqS at he
    rw [eqL_eq] at he
    have := eq_of_beq he
    have : s = u := by cases s; cases u; congr; exact Array.toList_inj.mp this
    rw [this]
  · cases he
/-- Is a key of a kind that a map of this type has? -/
def keyOk (P : Program) (t : TypeId) : V → Bool
  | .int _ _ => match P.underlying t with | some (.int _) => true | _ => false
  | .str _ => match P.underlying t with | some .string => true | _ => false
  | _ => false
def evFind (key : V) : List (V × V) → Option V
  | [] => none
  | (k, v) :: r => match eqKey key k with
    | some true => some v
    | _ => evFind key r
def allKeys (key : V) : List (V × V) → Bool
  | [] => true
  | (k, _) :: r => match eqKey key k with
    | some _ => allKeys key r
    | none => false
theorem allKeys_mem {key : V} {es : List (V × V)} (ha : allKeys key es = true) {p : V × V} (hp : p ∈ es) : ∃ b, eqKey key p.1 = some b := by
  induction es with
  | nil => cases hp
  | cons q es ih =>
    unfold allKeys at ha
    split at ha
    · rename_i b hb
      cases hp with
      | head => exact ⟨b, hb⟩
      | tail _ hp => exact ih ha hp
    · cases ha
theorem evFind_some {key v : V} {es : List (V × V)} (he : evFind key es = some v) : ∃ k, (k, v) ∈ es ∧ eqKey key k = some true := by
  induction es with
  | nil => cases he
  | cons q es ih =>
    obtain ⟨k, u⟩ := q
    unfold evFind at he
    split at he
    · rename_i hk; injection he with he; subst he; exact ⟨k, List.mem_cons_self .., hk⟩
    · obtain ⟨k', h1, h2⟩ := ih he; exact ⟨k', List.mem_cons_of_mem _ h1, h2⟩
theorem evFind_none {key : V} {es : List (V × V)} (he : evFind key es = none) {p : V × V} (hp : p ∈ es) : eqKey key p.1 ≠ some true := by
  induction es with
  | nil => cases hp
  | cons q es ih =>
    obtain ⟨k, u⟩ := q
    unfold evFind at he
    split at he
    · cases he
    · rename_i hk
      cases hp with
      | head => exact hk
      | tail _ hp => exact ih he hp
theorem sameNow_eq {t : TypeId} {key k : V} {ck cm : Value} {b : Bool} {dd : TypeDesc} (hu : P.underlying t = some dd) (ho : keyOk P t key = true) (h1 : VRel ρ key ck) (h2 : VRel ρ k cm) (he : eqKey key k = some b) : Instr.sameNow dd ck cm = some b := by
  unfold eqKey at he
  split at he
  · split at he
    · rename_i kk n k' m hk
      obtain rfl := kindB_eq hk
      injection he with he; subst he
      cases h1; cases h2
      unfold keyOk at ho
      rw [hu] at ho
      cases dd <;> first | (simp at ho; done) | simp [Instr.sameNow, eqI_eq]
    · cases he
  · injection he with he; subst he
    cases h1; cases h2
    unfold keyOk at ho
    rw [hu] at ho
    rename_i s u
    have : (s == u) = eqS s u := by
      unfold eqS
      rw [eqL_eq]
      obtain ⟨⟨s⟩⟩ := s
      obtain ⟨⟨u⟩⟩ := u
      show ((⟨s⟩ : Array UInt8) == ⟨u⟩) = (s == u)
      rw [Bool.eq_iff_iff, beq_iff_eq, beq_iff_eq]
      exact ⟨fun e => by injection e, fun e => by rw [e]⟩
    cases dd <;> first | (simp at ho; done) | simp [Instr.sameNow, this]
  · cases he
theorem findNow_spec {t : TypeId} {dd : TypeDesc} (hu : P.underlying t = some dd) {key : V} {ck : Value} (ho : keyOk P t key = true) (hk : VRel ρ key ck) : ∀ (l : List (V × V)) (es : List MapEntry) (i : Nat), l.length = es.length →
    (∀ (j : Nat) (p : V × V) (m : MapEntry), l[j]? = some p → es[j]? = some m → VRel ρ p.1 m.key ∧ VRel ρ p.2 m.val) → (∀ p, p ∈ l → ∃ b, eqKey key p.1 = some b) →
    (Instr.findNow dd ck es i = some none ∧ ∀ p, p ∈ l → eqKey key p.1 = some false) ∨
    ∃ (j : Nat) (p : V × V) (m : MapEntry), Instr.findNow dd ck es i = some (some (i + j, m.val)) ∧ l[j]? = some p ∧ es[j]? = some m ∧ eqKey key p.1 = some true
  | [], [], i, _, _, _ => .inl ⟨rfl, fun p hp => by cases hp⟩
  | [], _ :: _, _, hl, _, _ => by cases hl
  | _ :: _, [], _, hl, _, _ => by cases hl
  | p :: l, m :: es, i, hl, hr, ha => by
    obtain ⟨b, hb⟩ := ha p (List.mem_cons_self ..)
    have hs := sameNow_eq hu ho hk (hr 0 p m rfl rfl).1 hb
    cases b with
    | true => exact .inr ⟨0, p, m, by unfold Instr.findNow; rw [hs]; rfl, rfl, rfl, hb⟩
    | false =>
      rcases findNow_spec hu ho hk l es (i + 1) (by simpa using hl) (fun j p' m' h1 h2 => hr (j + 1) p' m' h1 h2) (fun p' hp => ha p' (List.mem_cons_of_mem _ hp)) with ⟨h1, h2⟩ | ⟨j, p', m', h1, h2, h3, h4⟩
      · refine .inl ⟨by unfold Instr.findNow; rw [hs]; exact h1, fun p' hp => ?_⟩
        cases hp with
        | head => exact hb
        | tail _ hp => exact h2 p' hp
      · refine .inr ⟨j + 1, p', m', ?_, h2, h3, h4⟩
        unfold Instr.findNow; rw [hs]
        show Instr.findNow dd ck es (i + 1) = _
        rw [h1, show i + 1 + j = i + (j + 1) by omega]
theorem run_checkKey (w : World) {t : TypeId} {dd : TypeDesc} (hu : P.underlying t = some dd) {key : V} {ck : Value} (ho : keyOk P t key = true) (hk : VRel ρ key ck) (e : Bool) : (Instr.checkKey e 10000 t ck).run P w = .ok () w := by
  have h1 : ∀ n, (Instr.checkKey e (n + 1) t ck).run P w = .ok () w := by
    intro n
    unfold Instr.checkKey
    rw [Sem.run_bind, run_und hu, Result.andThen_ok]
    unfold keyOk at ho
    split at ho
    · cases hk
      rw [hu] at ho
      cases dd <;> first | (simp at ho; done) | rfl
    · cases hk
      rw [hu] at ho
      cases dd <;> first | (simp at ho; done) | rfl
    · cases ho
  exact h1 9999
def outHit (ok : Bool) (v : V) : V := match ok with | true => .tup [v, .bool true] | false => v
def outMiss (P : Program) (et : TypeId) (ok : Bool) : Option V :=
  match P.info? et with
  | some it => match it.zero with
    | some z => match constV z with
      | some v => some (match ok with | true => .tup [v, .bool false] | false => v)
      | none => none
    | none => none
  | none => none
noncomputable def evLookup (P : Program) (h : H) (t : TypeId) (x key : V) (commaOk : Bool) : Option V :=
  match P.underlying t with
  | some (.map kt et) => match keyOk P kt key with
    | true => match x with
      | .mnil => outMiss P et commaOk
      | .map k => match h.t.get k with
        | some (.map es) => match allKeys key es with
          | true => match evFind key es with
            | some v => some (outHit commaOk v)
            | none => outMiss P et commaOk
          | false => none
        | _ => none
      | _ => none
    | false => none
  | _ => none
theorem tup2 {a : V} {c : Value} {b : Bool} (ha : VRel ρ a c) : VRel ρ (.tup [a, .bool b]) (.tuple #[c, .bool b]) := by
  refine .tup rfl fun i v x hv hx => ?_
  match i with
  | 0 => simp at hv hx; subst hv; subst hx; exact ha
  | 1 => simp at hv hx; subst hv; subst hx; exact .bool _
  | i + 2 => simp at hv
theorem outMiss_sound (w : World) {et : TypeId} {ok : Bool} {v : V} (he : outMiss P et ok = some v) : ∃ z, (zeroValue et).run P w = .ok z w ∧ VRel ρ v (if ok then .tuple #[z, .bool false] else z) := by
  unfold outMiss at he
  split at he
  · rename_i it hit
    split at he
    · rename_i z hz
      split at he
      · rename_i u hc
        injection he with he; subst he
        refine ⟨z, by simp [zeroValue, typeInfo, hit, hz], ?_⟩
        cases ok
        · exact constV_rel hc
        · exact tup2 (constV_rel hc)
      · cases he
    · cases he
  · cases he
theorem evLookup_sound (r : Rel ρ h w) {t : TypeId} {x key v : V} {c ck : Value} {ok : Bool} (hx : VRel ρ x c) (hk : VRel ρ key ck) (he : evLookup P h t x key ok = some v) : ∃ q, (Instr.lookup t c ck ok).run P w = .ok q w ∧ VRel ρ v q := by
  unfold evLookup at he
  split at he
  · rename_i kt et hu
    split at he
    · rename_i ho
      have hun : ∃ dd, P.underlying kt = some dd := by
        cases hq : P.underlying kt with
        | some dd => exact ⟨dd, rfl⟩
        | none => unfold keyOk at ho; rw [hq] at ho; split at ho <;> simp at ho
      obtain ⟨dd, hdd⟩ := hun
      split at he
      · cases hx
        obtain ⟨z, hz, hv⟩ := outMiss_sound (ρ := ρ) w he
        refine ⟨_, ?_, hv⟩
        unfold Instr.lookup
        simp only [Sem.run_bind, run_und hu, Result.andThen_ok, Sem.run_pure, run_checkKey w hdd ho hk, Instr.findKey, run_und hdd]
        simp [Instr.findNow, hz]
      · rename_i k
        split at he
        · rename_i es hget
          split at he
          · rename_i ha
            obtain ⟨e, es', clock, hek, _, _, rfl, hb, ⟨hky, l, hp, hl, hr⟩, _⟩ := map_now r hx hget
            have hall : ∀ p, p ∈ l → ∃ b, eqKey key p.1 = some b := fun p hpm => allKeys_mem ha (hp.mem_iff.mp hpm)
            have hsp := findNow_spec hdd ho hk l es'.toList 0 hl hr hall
            have run1 : ∀ o, Instr.findNow dd ck es'.toList 0 = some o → (Instr.lookup t (.map (some e.b)) ck ok).run P w = (((match o with | some (_, v) => pure (v, true) | none => (fun z => (z, false)) <$> zeroValue et : Sem (Value × Bool))).run P w).andThen fun p w' => .ok (if ok then .tuple #[p.1, .bool p.2] else p.1) w' := by
              intro o hfo
              unfold Instr.lookup
              simp only [Sem.run_bind, run_und hu, Result.andThen_ok, run_getMap w hb, Sem.run_pure, run_checkKey w hdd ho hk, Instr.findKey, run_und hdd, hfo]
              cases o with
              | none => simp; cases (zeroValue et).run P w <;> rfl
              | some p => obtain ⟨i, v⟩ := p; simp
            split at he
            · rename_i u hf
              injection he with he; subst he
              obtain ⟨k0, hm0, hk0⟩ := evFind_some hf
              rcases hsp with ⟨_, hno⟩ | ⟨j, p, m, h1, h2, h3, h4⟩
              · have := hno _ (hp.mem_iff.mpr hm0)
                rw [hk0] at this; cases this
              · have hpu : p = (k0, u) := keys_inj hky (hp.mem_iff.mp (List.mem_of_getElem? h2)) hm0 ((eqKey_eq h4).symm.trans (eqKey_eq hk0))
                subst hpu
                refine ⟨if ok then .tuple #[m.val, .bool true] else m.val, ?_, ?_⟩
                · rw [run1 _ h1]; simp
                · have hv := (hr j _ m h2 h3).2
                  cases ok
                  · exact hv
                  · exact tup2 hv
            · rename_i hf
              have hnone : Instr.findNow dd ck es'.toList 0 = some none := by
                rcases hsp with ⟨h1, _⟩ | ⟨j, p, m, h1, h2, h3, h4⟩
                · exact h1
                · exact absurd h4 (evFind_none hf (hp.mem_iff.mp (List.mem_of_getElem? h2)))
              obtain ⟨z, hz, hv⟩ := outMiss_sound (ρ := ρ) w he
              refine ⟨_, ?_, hv⟩
              rw [run1 _ hnone]; simp [hz]
          · cases he
        · cases he
      · cases he
    · cases he
  · cases he
end
end Go.Ev
