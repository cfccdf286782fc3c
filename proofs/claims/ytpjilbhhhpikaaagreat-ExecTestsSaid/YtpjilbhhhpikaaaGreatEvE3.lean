/- An entry laid into a map, and any operation that makes or changes memory, by its kind: reckoned by the kernel; and that the machine's operation comes to the same. No condition but what each theorem says. -/
import Derived.Test.YtpjilbhhhpikaaaGreatEvE2
namespace Go.Ev
set_option linter.unusedVariables false
set_option linter.unusedSimpArgs false
open Go
section
variable {P : Program} {ρ : Env} {h : H} {w : World}
def setKey (key v : V) (p : V × V) : V × V := match eqKey key p.1 with | some true => (key, v) | _ => p
theorem setKey_fst (key v : V) (p : V × V) : (setKey key v p).1 = p.1 := by
  unfold setKey
  split
  · rename_i hk; exact eqKey_eq hk
  · rfl
noncomputable def evMapUpdate (P : Program) (h : H) (t : TypeId) (m key v : V) : Option H :=
  match P.underlying t, m with
  | some (.map kt _), .map k => match keyOk P kt key, h.t.get k with
    | true, some (.map es) => match allKeys key es with
      | true => match evFind key es with
        | some _ => some (h.put k (.map (es.map (setKey key v))))
        | none => some (h.put k (.map ((key, v) :: es)))
      | false => none
    | _, _ => none
  | _, _ => none
theorem sameBits_self {t : TypeId} {key : V} {a b : Value} (h1 : VRel ρ key a) (h2 : VRel ρ key b) (ho : keyOk P t key = true) : a = b ∧ Instr.sameBits 10000 a b = true := by
  unfold keyOk at ho
  split at ho
  · cases h1; cases h2
    exact ⟨rfl, by simp [Instr.sameBits]⟩
  · cases h1; cases h2
    rename_i s
    refine ⟨rfl, ?_⟩
    obtain ⟨⟨s⟩⟩ := s
    show ((⟨s⟩ : Array UInt8) == ⟨s⟩) = true
    exact beq_self_eq_true _
  · cases ho
theorem run_setMap (w : World) {b : Nat} {es : Array MapEntry} {clock : Nat} (hb : w.heap[b]? = some (.map es clock)) (o : Obj) : (setObj b o).run P w = .ok () { w with heap := w.heap.setIfInBounds b o } := by
  simp [setObj, Sem.run, hb]
theorem evMapUpdate_sound (r : Rel ρ h w) {t : TypeId} {m key v : V} {cm ck cv : Value} {h' : H} (hm : VRel ρ m cm) (hk : VRel ρ key ck) (hv : VRel ρ v cv) (he : evMapUpdate P h t m key v = some h') : ∃ w', (Instr.mapUpdate t cm ck cv).run P w = .ok () w' ∧ Step ρ h w ρ h' w' := by
  unfold evMapUpdate at he
  split at he
  · rename_i kt et k hu
    split at he
    · rename_i es ho hget
      split at he
      · rename_i ha
        obtain ⟨e, es', clock, hek, hg0, hro, rfl, hb, ⟨hky, l, hp, hl, hr⟩, hok⟩ := map_now r hm hget
        have hun : ∃ dd, P.underlying kt = some dd := by
          cases hq : P.underlying kt with
          | some dd => exact ⟨dd, rfl⟩
          | none => unfold keyOk at ho; rw [hq] at ho; split at ho <;> simp at ho
        obtain ⟨dd, hdd⟩ := hun
        have hall : ∀ p, p ∈ l → ∃ b, eqKey key p.1 = some b := fun p hpm => allKeys_mem ha (hp.mem_iff.mp hpm)
        have hsp := findNow_spec hdd ho hk l es'.toList 0 hl hr hall
        have hlt : e.b < w.heap.size := r.b_lt hek
        have turn : ∀ (es2 : List (V × V)) (en : Array MapEntry) (cl : Nat), MRel ρ es2 en.toList → MapOk en.toList cl → Step ρ h w ρ (h.put k (.map es2)) { w with heap := w.heap.setIfInBounds e.b (.map en cl) } := by
          intro es2 en cl hmr hmo
          have hst := Step.turn (w' := { w with heap := w.heap.setIfInBounds e.b (.map en cl) }) r hek hro (.map es2) (.map en cl) e (.inl rfl) hro (.inl rfl) (by show (w.heap.setIfInBounds e.b _)[e.b]? = _; simp [hlt]) ?_ rfl rfl rfl (by show w.heap.size ≤ (w.heap.setIfInBounds _ _).size; simp) (fun b _ hne => by show (w.heap.setIfInBounds _ _)[b]? = _; rw [Array.getElem?_setIfInBounds, if_neg (Ne.symm hne)])
          · rw [env_same hek] at hst; exact hst
          · intro ρ' x _
            obtain ⟨m0, l2, m1, m2, m3⟩ := hmr
            exact ⟨hg0, hro, en, cl, rfl, ⟨m0, l2, m1, m2, fun i p q h1 h2 => ⟨(m3 i p q h1 h2).1.ext x, (m3 i p q h1 h2).2.ext x⟩⟩, hmo⟩
        have run1 : (Instr.mapUpdate t (.map (some e.b)) ck cv).run P w = ((match Instr.findNow dd ck es'.toList 0 with
            | some r => pure r
            | none => Instr.findAsking kt ck es'.toList : Sem (Option (Nat × Value))).run P w).andThen fun o w' => ((match o with
              | some (i, _) => do
                let key ← Instr.keyThatStays (((es'[i]?).map (·.key)).getD ck) ck
                setObj e.b (.map (es'.modify i fun e => { e with key, val := cv }) clock)
              | none => setObj e.b (.map (es'.push { key := ck, val := cv, born := clock }) (clock + 1)) : Sem Unit)).run P w' := by
          unfold Instr.mapUpdate
          simp only [Sem.run_bind, run_und hu, Result.andThen_ok, run_getMap w hb, run_checkKey w hdd ho hk, Instr.findKey, run_und hdd]
          rfl
        split at he
        · rename_i v0 hf
          injection he with he; subst he
          obtain ⟨k0, hm0, hk0⟩ := evFind_some hf
          rcases hsp with ⟨_, hno⟩ | ⟨j, p, m, h1, h2, h3, h4⟩
          · have := hno _ (hp.mem_iff.mpr hm0)
            rw [hk0] at this; cases this
          · rw [Nat.zero_add] at h1
            have hjp : p.1 = key := (eqKey_eq h4).symm
            have hkm := (hr j p m h2 h3).1
            rw [hjp] at hkm
            obtain ⟨rfl, hsb⟩ := sameBits_self (P := P) hkm hk ho
            have h3' : es'[j]? = some m := by rw [← h3, Array.getElem?_toList]
            refine ⟨_, ?_, turn (es.map (setKey key v)) (es'.modify j fun e => { e with key := m.key, val := cv }) clock ?_ ?_⟩
            · rw [run1, h1]
              simp only [Sem.run_pure, Result.andThen_ok, Sem.run_bind, h3', Option.map_some, Option.getD_some, Instr.keyThatStays, hsb, if_true]
              exact run_setMap w hb _
            · refine ⟨?_, l.map (setKey key v), hp.map _, by simpa using hl, ?_⟩
              · rw [List.pairwise_map]
                exact hky.imp fun {a b} hab => by rw [setKey_fst, setKey_fst]; exact hab
              · intro i q m' hq hm'
                rw [List.getElem?_map] at hq
                rw [Array.getElem?_toList, Array.getElem?_modify] at hm'
                cases hli : l[i]? with
                | none => rw [hli] at hq; cases hq
                | some q0 =>
                  rw [hli] at hq
                  have hq : setKey key v q0 = q := by simpa using hq
                  by_cases hij : j = i
                  · subst hij
                    rw [if_pos rfl, h3'] at hm'
                    injection hm' with hm'; subst hm'
                    rw [h2] at hli; injection hli with hli; subst hli
                    have : setKey key v p = (key, v) := by unfold setKey; rw [h4]
                    rw [this] at hq; subst hq
                    exact ⟨hk, hv⟩
                  · rw [if_neg hij] at hm'
                    have hne : eqKey key q0.1 ≠ some true := by
                      intro hc
                      have e1 := keys_inj hky (hp.mem_iff.mp (List.mem_of_getElem? hli)) (hp.mem_iff.mp (List.mem_of_getElem? h2)) ((eqKey_eq hc).symm.trans hjp.symm)
                      have hpl : l.Pairwise (fun p q => p.1 ≠ q.1) := hp.symm.pairwise hky (fun {a b} hab => Ne.symm hab)
                      have hi1 := (List.getElem?_eq_some_iff.mp hli)
                      have hj1 := (List.getElem?_eq_some_iff.mp h2)
                      obtain ⟨hi1, hi2⟩ := hi1
                      obtain ⟨hj1, hj2⟩ := hj1
                      rcases Nat.lt_or_gt_of_ne hij with hlt | hlt
                      · exact List.pairwise_iff_getElem.mp hpl j i hj1 hi1 hlt (by rw [hi2, hj2, e1])
                      · exact List.pairwise_iff_getElem.mp hpl i j hi1 hj1 hlt (by rw [hi2, hj2, e1])
                    have : setKey key v q0 = q0 := by
                      unfold setKey
                      split
                      · rename_i hc; exact absurd hc hne
                      · rfl
                    rw [this] at hq; subst hq
                    exact hr i q0 m' hli (by rw [Array.getElem?_toList]; exact hm')
            · have hmap : (es'.modify j fun e => { e with key := m.key, val := cv }).toList.map (·.born) = es'.toList.map (·.born) := by
                apply List.ext_getElem?
                intro i
                rw [List.getElem?_map, List.getElem?_map, Array.getElem?_toList, Array.getElem?_toList, Array.getElem?_modify]
                split <;> cases es'[i]? <;> rfl
              refine ⟨by rw [hmap]; exact hok.1, fun q hq => ?_⟩
              have : q.born ∈ (es'.toList.map (·.born)) := by rw [← hmap]; exact List.mem_map.mpr ⟨q, hq, rfl⟩
              obtain ⟨q', hq', hb'⟩ := List.mem_map.mp this
              rw [← hb']; exact hok.2 q' hq'
        · rename_i hf
          injection he with he; subst he
          have hnone : Instr.findNow dd ck es'.toList 0 = some none := by
            rcases hsp with ⟨h1, _⟩ | ⟨j, p, m, h1, h2, h3, h4⟩
            · exact h1
            · exact absurd h4 (evFind_none hf (hp.mem_iff.mp (List.mem_of_getElem? h2)))
          refine ⟨_, ?_, turn ((key, v) :: es) (es'.push { key := ck, val := cv, born := clock }) (clock + 1) ?_ ?_⟩
          · rw [run1, hnone]
            simp only [Sem.run_pure, Result.andThen_ok]
            exact run_setMap w hb _
          · refine ⟨List.Pairwise.cons (fun q hq e1 => ?_) hky, l ++ [(key, v)], ?_, by simp [hl], ?_⟩
            · have e1 : key = q.1 := e1
              obtain ⟨b, hb'⟩ := allKeys_mem ha hq
              have : eqKey key q.1 = some true := by
                rw [← e1]
                unfold keyOk at ho
                split at ho
                · have kr : ∀ k : IntKind, kindB k k = true := fun k => by cases k <;> rfl
                  simp [eqKey, kr, eqI_eq]
                · simp [eqKey, eqS, eqL_eq]
                · cases ho
              exact evFind_none hf hq this
            · exact (List.perm_append_comm).trans ((List.Perm.refl [(key, v)]).append hp)
            · intro i q m' hq hm'
              rw [Array.toList_push] at hm'
              by_cases hi : i < l.length
              · rw [List.getElem?_append_left hi] at hq
                rw [List.getElem?_append_left (by rw [← hl]; exact hi)] at hm'
                exact hr i q m' hq hm'
              · have hi2 : i = l.length := by
                  have := (List.getElem?_eq_some_iff.mp hq).1
                  simp at this; omega
                subst hi2
                rw [List.getElem?_append_right (Nat.le_refl _), Nat.sub_self] at hq
                rw [List.getElem?_append_right (by rw [hl]; exact Nat.le_refl _), hl, Nat.sub_self] at hm'
                injection hq with hq; injection hm' with hm'; subst hq; subst hm'
                exact ⟨hk, hv⟩
          · refine ⟨?_, fun q hq => ?_⟩
            · rw [Array.toList_push, List.map_append, List.nodup_append]
              refine ⟨hok.1, by simp, fun a ha b hb' => ?_⟩
              simp at hb'; subst hb'
              obtain ⟨q, hq, rfl⟩ := List.mem_map.mp ha
              exact Nat.ne_of_lt (hok.2 q hq)
            · rw [Array.toList_push] at hq
              rcases List.mem_append.mp hq with hq | hq
              · exact Nat.lt_succ_of_lt (hok.2 q hq)
              · simp at hq; subst hq; exact Nat.lt_succ_self _
      · cases he
    · cases he
  · cases he
end
end Go.Ev
