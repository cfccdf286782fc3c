/- What an operation that makes or changes memory comes to, reckoned by the kernel; and that the machine's operation comes to the same. No condition but what each theorem says. -/
import Derived.Test.YtpjilbhhhpikaaaGreatEvR7
namespace Go.Ev
set_option linter.unusedVariables false
set_option linter.unusedSimpArgs false
open Go
section
variable {P : Program} {ρ : Env} {h : H} {w : World}
/-- A value's cells, as a row. -/
noncomputable def rowOf : V → Option (Nat × List (Nat × V) × T V)
  | .agg n d t => some (n, d, t)
  | .tup _ => none
  | v => some (1, [], T.set .e 0 v)
theorem rowOf_rel {v : V} {c : Value} {n : Nat} {d : List (Nat × V)} {t : T V} (hv : VRel ρ v c) (hr : rowOf v = some (n, d, t)) : c.cells.size = n ∧ ∀ i, i < n → ∃ u x, rget d t i = some u ∧ c.cells[i]? = some x ∧ VRel ρ u x := by
  cases hv with
  | agg hs hd hh =>
    injection hr with hr
    injection hr with h1 h2
    injection h2 with h2 h3
    subst h1; subst h2; subst h3
    refine ⟨hs, fun i hi => ?_⟩
    obtain ⟨u, hu⟩ := hd i hi
    have hlt := hs ▸ hi
    exact ⟨u, _, hu, Array.getElem?_eq_getElem hlt, hh i u _ hu (Array.getElem?_eq_getElem hlt)⟩
  | tup => cases hr
  | _ =>
    injection hr with hr
    injection hr with h1 h2
    injection h2 with h2 h3
    subst h1; subst h2; subst h3
    refine ⟨rfl, fun i hi => ?_⟩
    obtain rfl : i = 0 := by omega
    refine ⟨_, _, by rw [rget_set, if_pos rfl], rfl, ?_⟩
    constructor <;> assumption
theorem step_row (r : Rel ρ h w) {ty n esz room : Nat} {d : List (Nat × V)} {t : T V} {cs : Array Value} (hs : cs.size = room) (hn : n ≤ room) (hc : ∀ i, i < n → ∃ u x, rget d t i = some u ∧ cs[i]? = some x ∧ VRel ρ u x) :
    ∃ ρ' : Env, (newRow ty cs).run P w = .ok ⟨w.heap.size, 0, none⟩ { w with heap := w.heap.push (.cells cs ty) } ∧ Step ρ h w ρ' (h.push (.cells ty 0 esz false n d t)) { w with heap := w.heap.push (.cells cs ty) } ∧ ρ' h.next = some ⟨w.heap.size, 0, 0, room, esz, false⟩ := by
  refine ⟨_, by simp [newRow], Step.alloc r (.cells ty 0 esz false n d t) (.cells cs ty) ⟨w.heap.size, 0, 0, room, esz, false⟩ rfl ?_, if_pos rfl⟩
  intro ρ' x _
  refine ⟨rfl, rfl, rfl, cs, (0, 0), rfl, by rw [hs]; exact (Nat.zero_add _).symm, hn, fun i hi hf => absurd hf.2 (Nat.not_lt_zero _), fun i hi => ?_⟩
  obtain ⟨u, y, h1, h2, h3⟩ := hc i hi
  exact ⟨u, y, h1, by rw [Nat.zero_add]; exact h2, h3.ext x⟩
noncomputable def evNew (h : H) (ty : TypeId) (v : V) : Option (V × H) :=
  match rowOf v with
  | some (n, d, t) => some (.ptr h.next 0 0, h.push (.cells ty 0 0 false n d t))
  | none => none
/-- What came of an operation. -/
def Comes1 (P : Program) (ρ : Env) (h : H) (w : World) (s : Sem Value) (v : V) (h' : H) : Prop :=
  ∃ (q : Value) (w' : World) (ρ' : Env), s.run P w = .ok q w' ∧ Step ρ h w ρ' h' w' ∧ VRel ρ' v q
theorem evNew_sound (r : Rel ρ h w) {ty : TypeId} {v u : V} {c : Value} {h' : H} (hv : VRel ρ v c) (he : evNew h ty v = some (u, h')) : Comes1 P ρ h w (do pure (.pointer (some (← newVar ty c)))) u h' := by
  unfold evNew at he
  split at he
  · rename_i n d t hr
    injection he with he
    injection he with h1 h2
    subst h1; subst h2
    obtain ⟨g1, g2⟩ := rowOf_rel hv hr
    obtain ⟨ρ', h1, h2, h3⟩ := step_row (P := P) (ty := ty) (esz := 0) r g1 (Nat.le_refl _) g2
    refine ⟨.pointer (some ⟨w.heap.size, 0, none⟩), _, ρ', by rw [newVar, Sem.run_bind, h1]; rfl, h2, ?_⟩
    exact .ptr h3 rfl
  · cases he
noncomputable def evAlloc (P : Program) (h : H) (ty : TypeId) : Option (V × H) :=
  match P.info? ty with
  | some it => match it.zero with
    | some z => match constV z with
      | some v => evNew h ty v
      | none => none
    | none => none
  | none => none
theorem evAlloc_sound (r : Rel ρ h w) {ty : TypeId} {u : V} {h' : H} (he : evAlloc P h ty = some (u, h')) : Comes1 P ρ h w (Instr.alloc ty true (.tuple #[])) u h' := by
  unfold evAlloc at he
  split at he
  · rename_i it hit
    split at he
    · rename_i z hz
      split at he
      · rename_i v hc
        obtain ⟨q, w', ρ', h1, h2, h3⟩ := evNew_sound (P := P) r (constV_rel hc) he
        refine ⟨q, w', ρ', ?_, h2, h3⟩
        unfold Instr.alloc
        have : (zeroValue ty).run P w = .ok z w := by simp [zeroValue, typeInfo, hit, hz]
        rw [Sem.run_bind, this, Result.andThen_ok]
        exact h1
      · cases he
    · cases he
  · cases he
/-! ### slices made -/
noncomputable def evMakeSlice (P : Program) (h : H) (t : TypeId) (len cap : V) : Option (V × H) :=
  match natOf len, natOf cap, P.underlying t with
  | some l, some c, some (.slice elem) => match P.info? elem with
    | some it => match it.zero with
      | some z => match constS z, Nat.beq it.size 1, Nat.ble l c, Nat.ble (Nat.mul it.bytes c) 281474976710656, Nat.ble c 9223372036854775807 with
        | some v, true, true, true, true => some (.slice h.next 0 0 l (some c), h.push (.cells elem 0 1 false c [(c, v)] .e))
        | _, _, _, _, _ => none
      | none => none
    | none => none
  | _, _, _ => none
theorem constS_cells {z : Value} {v : V} (hc : constS z = some v) : z.cells = #[z] := by
  unfold constS at hc
  split at hc <;> first | rfl | cases hc
theorem evMakeSlice_sound (r : Rel ρ h w) {t : TypeId} {l c u : V} {cl cc : Value} {h' : H} (hl : VRel ρ l cl) (hc : VRel ρ c cc) (he : evMakeSlice P h t l c = some (u, h')) : Comes1 P ρ h w (Instr.makeSlice t cl cc) u h' := by
  unfold evMakeSlice at he
  split at he
  · rename_i ln cn elem hln hcn hu
    obtain ⟨k1, rfl⟩ := natOf_rel hl hln
    obtain ⟨k2, rfl⟩ := natOf_rel hc hcn
    split at he
    · rename_i it hit
      split at he
      · rename_i z hz
        split at he
        · rename_i v hv a1 a2 a3 a4
          have a1 := Nat.eq_of_beq_eq_true a1
          have a2 := Nat.le_of_ble_eq_true a2
          have a3 := Nat.le_of_ble_eq_true a3
          have a4 := Nat.le_of_ble_eq_true a4
          injection he with he
          injection he with h1 h2
          subst h1; subst h2
          have hw1 : IntKind.wrap .i64 (ln : Int) = ln := wrap_i64_in ln (by omega)
          have hw2 : IntKind.wrap .i64 (cn : Int) = cn := wrap_i64_in cn a4
          have hzv : (zeroValue elem).run P w = .ok z w := by simp [zeroValue, typeInfo, hit, hz]
          have hti : (typeInfo elem).run P w = .ok it w := by simp [typeInfo, hit]
          have hsz : (sizeOf elem).run P w = .ok 1 w := by rw [← a1]; simp [sizeOf, typeInfo, hit]
          have key : ∀ (zs : Array Value), (cn ≠ 0 → zs = #[z]) → ∃ q w' ρ', ((do let a ← newRow elem ((Array.range cn).map (zs[· % zs.size]!)); pure (Value.slice (some a) ln cn) : Sem Value)).run P w = .ok q w' ∧ Step ρ h w ρ' (h.push (.cells elem 0 1 false cn [(cn, v)] .e)) w' ∧ VRel ρ' (.slice h.next 0 0 ln (some cn)) q := by
            intro zs hzs
            obtain ⟨ρ', g1, g2, g3⟩ := step_row (P := P) (ty := elem) (esz := 1) (d := [(cn, v)]) (t := .e) (n := cn) (room := cn) (cs := (Array.range cn).map (zs[· % zs.size]!)) r (by simp) (Nat.le_refl _) (fun i hi => by
              have := hzs (by omega)
              subst this
              refine ⟨v, z, dget_cons_hit _ _ _ hi, ?_, constS_rel hv⟩
              simp [Array.getElem?_range, hi, Nat.mod_one])
            refine ⟨.slice (some ⟨w.heap.size, 0, none⟩) ln cn, _, ρ', by rw [Sem.run_bind, g1]; rfl, g2, ?_⟩
            exact .slice g3 rfl (fun x hx => by injection hx) a2 (fun hh => by cases hh)
          obtain ⟨q, w', ρ', g1, g2, g3⟩ := key (if cn = 0 then #[] else #[z]) (fun hne => if_neg hne)
          refine ⟨q, w', ρ', ?_, g2, g3⟩
          have hb1 : ¬ ((cn : Int) < 0) := by omega
          have hb2 : ¬ ((it.bytes : Int) * (cn : Int) > 2 ^ 48) := by
            have : ((it.bytes * cn : Nat) : Int) ≤ ((281474976710656 : Nat) : Int) := Int.ofNat_le.mpr a3
            have e2 : (2 : Int) ^ 48 = 281474976710656 := by decide
            rw [e2]
            rw [← Int.natCast_mul]
            omega
          have hb3 : ¬ ((ln : Int) < 0) := by omega
          have hb4 : ¬ ((ln : Int) > (cn : Int)) := by omega
          unfold Instr.makeSlice
          simp only [Sem.run_bind, run_und hu, Result.andThen_ok, asInt, asIntOf, Sem.run_pure, hti, hw1, hw2]
          have hbig : ((decide ((cn : Int) < 0) || decide ((it.bytes : Int) * (cn : Int) > 2 ^ 48)) || decide ((ln : Int) < 0) || decide ((ln : Int) > (cn : Int))) = false := by
            rw [decide_eq_false hb1, decide_eq_false hb2, decide_eq_false hb3, decide_eq_false hb4]; rfl
          simp only [hbig, Bool.false_eq_true, if_false, Sem.run_bind, run_askRoom, Result.andThen_ok, hsz, Sem.run_pure]
          have ht1 : (cn : Int).toNat = cn := rfl
          have ht2 : (ln : Int).toNat = ln := rfl
          simp only [ht1, ht2, Nat.mul_one]
          by_cases h0 : cn = 0
          · rw [if_pos h0] at g1
            simp only [h0, if_true, Sem.run_pure, Result.andThen_ok] at g1 ⊢
            exact g1
          · rw [if_neg h0] at g1
            simp only [if_neg h0, Sem.run_bind, hzv, Result.andThen_ok, Sem.run_pure, constS_cells hv]
            exact g1
        · cases he
      · cases he
    · cases he
  · cases he
/-! ### slices written out -/
noncomputable def evBuildSlice (P : Program) (h : H) (t : TypeId) (len : Nat) (parts : List (Nat × V)) : Option (V × H) :=
  match P.underlying t with
  | some (.slice elem) => match P.info? elem with
    | some it => match it.zero with
      | some z => match Nat.ble (Nat.mul len it.size) 16777216 with
        | true => match fillV (fun i => some (i * it.size, it.size)) (Nat.mul len it.size) .e parts with
          | some t' => match many [] t' 0 (Nat.mul len it.size) with
            | some _ => some (.slice h.next 0 0 len (some len), h.push (.cells elem 0 it.size false (Nat.mul len it.size) [] t'))
            | none => match constS z, Nat.beq it.size 1 with
              | some v, true => some (.slice h.next 0 0 len (some len), h.push (.cells elem 0 1 false len [(len, v)] t'))
              | _, _ => none
          | none => none
        | false => none
      | none => none
    | none => none
  | _ => none
theorem evBuildSlice_sound (r : Rel ρ h w) {t : TypeId} {len : Nat} {parts : List (Nat × V)} {parts' : Array (Nat × Value)} {u : V} {h' : H} (hp : PRel ρ parts parts'.toList) (he : evBuildSlice P h t len parts = some (u, h')) : Comes1 P ρ h w (Instr.buildSlice t len parts') u h' := by
  unfold evBuildSlice at he
  split at he
  · rename_i elem hu
    split at he
    · rename_i it hit
      split at he
      · rename_i z hz
        split at he
        · rename_i hle
          have hle : len * it.size ≤ 16777216 := Nat.le_of_ble_eq_true hle
          split at he
          · rename_i t' hf
            have hzv : (zeroValue elem).run P w = .ok z w := by simp [zeroValue, typeInfo, hit, hz]
            have hsz : (sizeOf elem).run P w = .ok it.size w := by simp [sizeOf, typeInfo, hit]
            have hgt : ¬ (len * it.size > 2 ^ 24) := by
              have : (2 : Nat) ^ 24 = 16777216 := by decide
              omega
            have run1 : ∀ (zs : Array Value), (if len * it.size = 0 then zs = #[] else zs = z.cells) → ∀ cells, Instr.fill (fun i => some (i * it.size, it.size)) ((Array.range (len * it.size)).map (zs[· % zs.size]!)) parts'.toList = some cells →
                (Instr.buildSlice t len parts').run P w = .ok (.slice (some ⟨w.heap.size, 0, none⟩) len len) { w with heap := w.heap.push (.cells cells elem) } := by
              intro zs hzs cells hfill
              unfold Instr.buildSlice
              simp only [Sem.run_bind, run_und hu, Result.andThen_ok, hsz, if_neg hgt, Sem.run_pure]
              by_cases h0 : len * it.size = 0
              · rw [if_pos h0] at hzs
                simp only [if_pos h0, Sem.run_pure, Result.andThen_ok]
                rw [← hzs]
                simp only [Sem.run_bind, Sem.run_pure, Result.andThen_ok, hfill]
                simp [newRow]
              · rw [if_neg h0] at hzs
                simp only [if_neg h0, Sem.run_bind, hzv, Sem.run_pure, Result.andThen_ok]
                rw [← hzs]
                simp only [Sem.run_bind, Sem.run_pure, Result.andThen_ok, hfill]
                simp [newRow]
            have hex : ∃ zs : Array Value, (if len * it.size = 0 then zs = #[] else zs = z.cells) := by
              by_cases h0 : len * it.size = 0
              · exact ⟨#[], by rw [if_pos h0]⟩
              · exact ⟨z.cells, by rw [if_neg h0]⟩
            obtain ⟨zs, hzs⟩ := hex
            split at he
            · rename_i l hm
              injection he with he
              injection he with h1 h2
              subst h1; subst h2
              obtain ⟨cells, g1, ⟨g2, g3⟩, _⟩ := fill_rel (d := []) parts parts'.toList .e t' ((Array.range (len * it.size)).map (zs[· % zs.size]!)) hf hp ⟨by simp, fun i v c hv => by
                have : rget [] .e i = none := rfl
                rw [this] at hv; cases hv⟩
              obtain ⟨m1, m2⟩ := many_spec _ _ _ _ _ hm
              obtain ⟨ρ', s1, s2, s3⟩ := step_row (P := P) (ty := elem) (esz := it.size) (d := []) (t := t') (n := len * it.size) (room := len * it.size) (cs := cells) r g2 (Nat.le_refl _) (fun i hi => by
                have hl : i < l.length := by rw [m1]; exact hi
                have hv := m2 i l[i] (List.getElem?_eq_getElem hl)
                rw [Nat.zero_add] at hv
                have hc : i < cells.size := by rw [g2]; exact hi
                exact ⟨l[i], cells[i], hv, Array.getElem?_eq_getElem hc, g3 i _ _ hv (Array.getElem?_eq_getElem hc)⟩)
              exact ⟨_, _, ρ', run1 zs hzs cells g1, s2, .slice s3 rfl (fun x hx => by injection hx) (Nat.le_refl _) (fun hh => by cases hh)⟩
            · split at he
              · rename_i v hv h1s
                have h1s := Nat.eq_of_beq_eq_true h1s
                injection he with he
                injection he with h1 h2
                subst h1; subst h2
                have hn : len * it.size = len := by rw [h1s, Nat.mul_one]
                have hf : fillV (fun i => some (i * it.size, it.size)) (len * it.size) .e parts = some t' := hf
                rw [hn] at hzs run1 hf
                obtain ⟨cells, g1, ⟨g2, g3⟩, g4⟩ := fill_rel (d := [(len, v)]) parts parts'.toList .e t' ((Array.range len).map (zs[· % zs.size]!)) hf hp ⟨by simp, fun i u c hu hc => by
                  have hi : i < len := by have := (Array.getElem?_eq_some_iff.mp hc).1; simpa using this
                  have hgu : rget [(len, v)] .e i = some v := dget_cons_hit _ _ _ hi
                  rw [hgu] at hu; injection hu with hu; subst hu
                  rw [if_neg (by omega)] at hzs
                  have : zs = #[z] := hzs.trans (constS_cells hv)
                  subst this
                  have : c = z := by simpa [Nat.mod_one, hi] using hc.symm
                  subst this
                  exact constS_rel hv⟩
                obtain ⟨ρ', s1, s2, s3⟩ := step_row (P := P) (ty := elem) (esz := 1) (d := [(len, v)]) (t := t') (n := len) (room := len) (cs := cells) r g2 (Nat.le_refl _) (fun i hi => by
                  obtain ⟨x, hx⟩ := g4 i ⟨v, dget_cons_hit _ _ _ hi⟩
                  have hc : i < cells.size := by rw [g2]; exact hi
                  exact ⟨x, cells[i], hx, Array.getElem?_eq_getElem hc, g3 i _ _ hx (Array.getElem?_eq_getElem hc)⟩)
                exact ⟨_, _, ρ', run1 zs hzs cells g1, s2, .slice s3 rfl (fun x hx => by injection hx) (Nat.le_refl _) (fun hh => by cases hh)⟩
              · cases he
          · cases he
        · cases he
      · cases he
    · cases he
  · cases he
noncomputable def evMakeMap (h : H) : V × H := (.map h.next, h.push (.map []))
theorem evMakeMap_sound (r : Rel ρ h w) {t : TypeId} : Comes1 P ρ h w (Instr.makeMap t none) (evMakeMap h).1 (evMakeMap h).2 := by
  refine ⟨.map (some w.heap.size), _, _, rfl, Step.alloc r (.map []) (.map #[] 0) ⟨w.heap.size, 0, 0, 0, 0, false⟩ rfl ?_, ?_⟩
  case refine_2 => exact VRel.map (e := ⟨w.heap.size, 0, 0, 0, 0, false⟩) (if_pos rfl) rfl
  intro ρ' x _
  exact ⟨rfl, rfl, #[], 0, rfl, ⟨.nil, [], .refl _, rfl, fun i p m hp _ => by simp at hp⟩, ⟨.nil, fun m hm => by simp at hm⟩⟩
/-! ### stores -/
noncomputable def evStore (P : Program) (h : H) (t : TypeId) (a v : V) : Option H :=
  match a, cellsV v, siz P t with
  | .ptr k gen off, some l, some n => match h.t.get k with
    | some (.cells ty g esz ro len d t') => match ro, Nat.beq g gen, Nat.beq l.length n, Nat.ble (off + l.length) len, l.all one with
      | false, true, true, true, true => T.force (setMany t' off l) fun t2 => some (h.put k (.cells ty g esz false len d t2))
      | _, _, _, _, _ => none
    | _ => none
  | _, _, _ => none
theorem evStore_sound (r : Rel ρ h w) {t : TypeId} {a v : V} {ca c : Value} {h' : H} (ha : VRel ρ a ca) (hv : VRel ρ v c) (he : evStore P h t a v = some h') : ∃ w', (Instr.storeAt t ca c).run P w = .ok () w' ∧ Step ρ h w ρ h' w' := by
  unfold evStore at he
  simp only [T.force_eq] at he
  split at he
  · rename_i k gen off l n hl hn
    split at he
    · rename_i ty g esz ro len d t' hk
      split at he
      · rename_i hg hln hle ho
        obtain rfl := Nat.eq_of_beq_eq_true hg
        have hln := Nat.eq_of_beq_eq_true hln
        have hle := Nat.le_of_ble_eq_true hle
        injection he with he; subst he
        obtain ⟨e, hek, rfl⟩ := ptr_now r ha hk
        obtain ⟨g1, g2⟩ := cellsV_rel hv hl
        obtain ⟨w', h1, h2⟩ := step_store (P := P) r hek hk (l := l) (cs := c.cells.toList) hle ho (by simpa using g1) (fun i u x hu hx => g2 i u x hu (by simpa using hx))
        refine ⟨w', ?_, h2⟩
        unfold Instr.storeAt storeVar
        simp only [Instr.sureAddr, Sem.run_bind, Sem.run_pure, Result.andThen_ok, run_siz hn]
        rw [if_neg (by rw [g1, hln]; simp)]
        exact h1
      · cases he
    · cases he
  · cases he
end
end Go.Ev
