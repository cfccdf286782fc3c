/- slices.Sorted of a map's keys (this program's, at uint64): whatever order they come in, they are sorted into one list: each order's sort reckoned by the kernel. No condition but what each theorem says. -/
import Derived.Test.YtpjilbhhhpikaaaGreatEvDM
import Derived.Test.YtpjilbhhhpikaaaGreatEvS2
import Derived.Test.YtpjilbhhhpikaaaGreatEvKW
namespace Go.Ev
set_option linter.unusedVariables false
set_option linter.unusedSimpArgs false
open Go Go.Proofs Go.RowKit
def ins {α : Type} (x : α) : List α → List (List α)
  | [] => [[x]]
  | y :: l => (x :: y :: l) :: (ins x l).map (y :: ·)
def perms {α : Type} : List α → List (List α)
  | [] => [[]]
  | x :: l => (perms l).flatMap (ins x)
theorem mem_ins {α : Type} (x : α) : ∀ (s t : List α), s ++ x :: t ∈ ins x (s ++ t)
  | [], [] => by simp [ins]
  | [], y :: t => by simp [ins]
  | y :: s, t => by
    show y :: (s ++ x :: t) ∈ (x :: y :: (s ++ t)) :: (ins x (s ++ t)).map (y :: ·)
    exact List.mem_cons_of_mem _ (List.mem_map.mpr ⟨_, mem_ins x s t, rfl⟩)
theorem mem_perms {α : Type} : ∀ (m l : List α), l.Perm m → l ∈ perms m
  | [], l, h => by rw [h.eq_nil]; simp [perms]
  | x :: m, l, h => by
    obtain ⟨s, t, rfl⟩ := List.append_of_mem (h.symm.subset (List.mem_cons_self ..))
    have h2 : (s ++ t).Perm m := (List.perm_cons x).mp (List.perm_middle.symm.trans h)
    exact List.mem_flatMap.mpr ⟨s ++ t, mem_perms m _ h2, mem_ins x s t⟩
def v64 (z : Int) : V := .int .u64 z
def u64? : V → Option Int
  | .int .u64 z => some z
  | _ => none
theorem u64?_eq {v : V} {z : Int} (h : u64? v = some z) : v = v64 z := by
  unfold u64? at h
  split at h
  · injection h with h; rw [h]; rfl
  · cases h
def u64s : List V → Option (List Int)
  | [] => some []
  | v :: l => match u64? v with
    | some z => match u64s l with
      | some m => some (z :: m)
      | none => none
    | none => none
theorem u64s_eq : ∀ {l : List V} {m : List Int}, u64s l = some m → l = m.map v64
  | [], m, h => by injection h with h; rw [← h]; rfl
  | v :: l, m, h => by
    unfold u64s at h
    split at h
    · rename_i z hz
      split at h
      · rename_i m' hm; injection h with h; rw [← h, List.map_cons, ← u64s_eq hm, ← u64?_eq hz]
      · cases h
    · cases h
def insZ (x : Int) : List Int → List Int
  | [] => [x]
  | y :: l => match leI x y with | true => x :: y :: l | false => y :: insZ x l
def sortZ : List Int → List Int
  | [] => []
  | x :: l => insZ x (sortZ l)
noncomputable def sameZ (d : List (Nat × V)) (t : T V) : Nat → List Int → Bool
  | _, [] => true
  | i, z :: l => match rget d t i with
    | some u => match same1 u (v64 z) with | true => sameZ d t (i + 1) l | false => false
    | none => false
theorem sameZ_eq {d : List (Nat × V)} {t : T V} : ∀ {l : List Int} {i : Nat}, sameZ d t i l = true → ∀ (k : Nat) (z : Int), l[k]? = some z → rget d t (i + k) = some (v64 z)
  | [], _, _, k, z, hk => by simp at hk
  | y :: l, i, h, k, z, hk => by
    unfold sameZ at h
    split at h
    · rename_i u hu
      split at h
      · rename_i hs
        cases k with
        | zero => simp at hk; subst hk; rw [Nat.add_zero, hu, same1_eq hs]
        | succ k =>
          have := sameZ_eq h k z (by simpa using hk)
          rw [show i + (k + 1) = i + 1 + k by omega]; exact this
      · cases h
    · cases h
noncomputable section
def ov0 : FuncId → Option (List V → H → Option (V × H)) := fun _ => none
def sortH (zs : List Int) : H := ⟨1, T.set .e 0 (.cells 22 0 1 false zs.length [] (setMany .e 0 (zs.map v64)))⟩
def sortRun (fuel : Nat) (args : List V) (h : H) : Option (V × H) := callV Tryz.prog ov0 (evC Tryz.prog ov0 (regD Tryz.prog) fuel) 102 args h
def sortOk (fuel : Nat) (L zs : List Int) : Bool := match zs with
  | [] => match sortRun fuel [.snil] ⟨0, .e⟩ with | some _ => true | none => false
  | _ :: _ => match sortRun fuel [.slice 0 0 0 zs.length none] (sortH zs) with
    | some (_, h) => match h.t.get 0 with
      | some (.cells ty g _ _ n d t) => match Nat.beq ty 22, Nat.beq g 0, Nat.beq zs.length n, Nat.beq L.length n, sameZ d t 0 L with
        | true, true, true, true, true => true
        | _, _, _, _, _ => false
      | _ => false
    | none => false
def sorted76 (fuel : Nat) : List V → H → Option (V × H) := fun args h => match args with
  | [.func f [.ptr kb g off]] => match Nat.beq f 103, h.t.get kb with
    | true, some (.cells _ g' _ _ len d t) => match Nat.beq g' g, Nat.blt off len, rget d t off with
      | true, true, some (.map km) => match h.t.get km with
        | some (.map es) => match u64s (es.map (·.1)) with
          | some zs => match Nat.ble zs.length 4, (perms zs).all (sortOk fuel (sortZ zs)), zs with
            | true, true, [] => some (.snil, h)
            | true, true, _ :: _ => some (.slice h.next 0 0 zs.length none, h.push (.cells 22 0 1 false zs.length [] (setMany .e 0 ((sortZ zs).map v64))))
            | _, _, _ => none
          | none => none
        | _ => none
      | _, _, _ => none
    | _, _ => none
  | _ => none
end
theorem entered : Entered Tryz.prog := by
  have h : Tryz.prog.funcs.toList.all (fun fn => !(fn.name == "runtime.NumGoroutine")) = true := by decide +kernel
  intro fn hfn
  have := List.all_eq_true.mp h fn (by simpa using hfn)
  simpa using this
theorem mixedOrd : Tryz.prog.follows .mixedOrders = true := by decide +kernel
theorem ov0_ok : OvOk Tryz.prog ov0 := fun f g h => by cases h
theorem sortRun_ok (fuel : Nat) {args : List V} {h : H} {v : V} {h' : H} (he : sortRun fuel args h = some (v, h')) (ρ : Env) (w : World) (args' : Array Value) (r : Rel ρ h w) (hl : LRel ρ args args'.toList) :
    Calls Tryz.prog 102 args' w fun e w' => ∃ (q : Value) (ρ' : Env), e = .returned q ∧ Step ρ h w ρ' h' w' ∧ VRel ρ' v q :=
  callV_ok ov0_ok (evC_ok entered ov0_ok (regD_ok mixedOrd) fuel).1 102 args h v h' he ρ w args' r hl
theorem v64_rel {ρ : Env} {z : Int} {c : Value} (h : VRel ρ (v64 z) c) : c = n64 z := by cases h; rfl
set_option maxRecDepth 100000 in
/-- What slices.Sort does to a row that was made for it. -/
theorem sort_row (n fuel : Nat) (L ss : List Int) (base : Nat) (v : Value) (W : World) (hrow : W.ownsRow base 22 1 v ss.length (ss.map n64)) (hnil : v = .slice none 0 0 ↔ ss = []) (hok : sortOk fuel L ss = true) :
    CallsIn Fence.wide n Tryz.prog 102 #[v] W fun e w' => (∃ q, e = .returned q) ∧ W.grownBy w' v.ownBlock ∧ ∀ g cap, v = .slice (some ⟨g, 0, none⟩) ss.length cap → L.length = ss.length ∧ ss.length ≤ cap ∧ ∃ cs fz, w'.heap[g]? = some (.cells cs 22 fz) ∧ cs.size = cap ∧
      (∀ i, i < cs.size → ¬ (fz.1 ≤ i ∧ i < fz.2)) ∧ ∀ (i : Nat) (z : Int), L[i]? = some z → cs[i]? = some (n64 z) := by
  refine callsIn_wide.2 ?_
  rcases hrow.2 with ⟨rfl, hz⟩ | ⟨g, cap, cur, rfl, hbase, hgb, h1, h2, h3, h4⟩
  · have hss : ss = [] := List.eq_nil_of_length_eq_zero hz
    subst hss
    unfold sortOk at hok
    simp only at hok
    split at hok
    · rename_i vh hr
      obtain ⟨v', h'⟩ := vh
      refine (sortRun_ok fuel hr (fun _ => none) W #[.slice none 0 0] ⟨(fun _ _ h => by cases h), (fun _ _ _ _ h => by cases h), (fun _ _ h => by cases h)⟩ ⟨.snil, trivial⟩).mono ?_
      rintro e w' ⟨q, ρ', rfl, s, _⟩
      exact ⟨⟨q, rfl⟩, ⟨s.os, s.tape, s.output, s.size, (fun k hk _ => s.frame k hk (fun _ _ h => by cases h))⟩, (fun g cap h => by cases h)⟩
    · cases hok
  · have hne : ss ≠ [] := fun c => by have := hnil.2 c; cases this
    obtain ⟨y, ys, rfl⟩ := List.exists_cons_of_ne_nil hne
    unfold sortOk at hok
    simp only at hok
    split at hok
    · rename_i v' h' hr
      split at hok
      · rename_i ty g0 es0 ro n0 d t hget
        split at hok
        · rename_i k1 k2 k3 k4 k5
          have k1 := Nat.eq_of_beq_eq_true k1
          have k2 := Nat.eq_of_beq_eq_true k2
          have k3 := Nat.eq_of_beq_eq_true k3
          have k4 := Nat.eq_of_beq_eq_true k4
          generalize hss : y :: ys = ss at *
          have e0 : Ent := ⟨g, 0, 0, cap, 1, false⟩
          have r0 : Rel (fun k => if k = 0 then some ⟨g, 0, 0, cap, 1, false⟩ else none) (sortH ss) W := by
            refine ⟨fun k e he => ?_, fun k k' e e' h h' _ => ?_, fun k e he => ?_⟩
            · have he : (if k = 0 then some (⟨g, 0, 0, cap, 1, false⟩ : Ent) else none) = some e := he
              split at he
              · rename_i hk; subst hk; injection he with he; subst he
                refine ⟨_, _, (show (sortH ss).t.get 0 = some (.cells 22 0 1 false ss.length [] (setMany .e 0 (ss.map v64))) from T.get_set_same T.e 0 (O.cells 22 0 1 false ss.length [] (setMany .e 0 (ss.map v64)))), hgb, rfl, rfl, rfl, cur, (0, 0), rfl, by show cur.size = 0 + cap; omega, h1, fun i _ => by omega, fun i hi => ?_⟩
                have hi' : i < ss.length := hi
                refine ⟨v64 ss[i], n64 ss[i], ?_, ?_, .int _ _⟩
                · rw [rget_app]; simp [hi']
                · have : (cur.toList.take (ss.length * 1))[i]? = some (n64 ss[i]) := by rw [h4]; simp [hi']
                  rw [List.getElem?_take_of_lt (by omega), Array.getElem?_toList] at this
                  rw [Nat.zero_add]; exact this
              · cases he
            · have h : (if k = 0 then some (⟨g, 0, 0, cap, 1, false⟩ : Ent) else none) = some e := h
              have h' : (if k' = 0 then some (⟨g, 0, 0, cap, 1, false⟩ : Ent) else none) = some e' := h'
              have c : k = 0 := by
                by_cases c : k = 0
                · exact c
                · rw [if_neg c] at h; cases h
              have c' : k' = 0 := by
                by_cases c' : k' = 0
                · exact c'
                · rw [if_neg c'] at h'; cases h'
              rw [c, c']
            · have he : (if k = 0 then some (⟨g, 0, 0, cap, 1, false⟩ : Ent) else none) = some e := he
              split at he
              · show k < 1; omega
              · cases he
          refine (sortRun_ok fuel hr _ W #[.slice (some ⟨g, 0, none⟩) ss.length cap] r0 ⟨?_, trivial⟩).mono ?_
          · have := VRel.slice (ρ := fun k => if k = 0 then some (⟨g, 0, 0, cap, 1, false⟩ : Ent) else none) (k := 0) (gen := 0) (off := 0) (len := ss.length) (cap := none) (e := ⟨g, 0, 0, cap, 1, false⟩) (c := cap) rfl rfl (fun _ h => by cases h) h1 (fun _ => by show 0 + cap * 1 ≤ cap; omega)
            exact this
          · rintro e w' ⟨q, ρ', rfl, s, _⟩
            refine ⟨⟨q, rfl⟩, ⟨s.os, s.tape, s.output, s.size, fun k hk hkn => s.frame k hk fun j e he hb => ?_⟩, ?_⟩
            · have he : (if j = 0 then some (⟨g, 0, 0, cap, 1, false⟩ : Ent) else none) = some e := he
              split at he
              · injection he with he; subst he
                exact absurd (by rw [← hb]; rfl) hkn
              · cases he
            · intro g' cap' hv
              injection hv with hv1 _ hv2
              injection hv1 with hv1
              injection hv1 with hv1
              subst hv1 hv2
              refine ⟨by omega, h1, ?_⟩
              obtain ⟨e', he', hor, _⟩ := s.ext.old 0 ⟨g, 0, 0, cap, 1, false⟩ rfl
              obtain ⟨o, ob, hg1, hb1, hrel⟩ := s.rel.obj 0 e' he'
              rw [hget] at hg1
              injection hg1 with hg1
              subst hg1
              obtain ⟨c1, c2, c3, cs, fz, c4, c5, c6, c7, c8⟩ := hrel
              have : e' = ⟨g, 0, 0, cap, 1, false⟩ := by
                rcases hor with h | ⟨h, _⟩
                · exact h
                · have h : 0 < e'.gen := h
                  omega
              subst this
              subst k1 c4
              refine ⟨cs, fz, hb1, by simpa using c5, c7, fun i z hz => ?_⟩
              have hi : i < L.length := (List.getElem?_eq_some_iff.mp hz).1
              obtain ⟨u, c, d1, d2, d3⟩ := c8 i (by omega)
              have := sameZ_eq k5 i z hz
              rw [Nat.zero_add] at this
              rw [this] at d1
              injection d1 with d1
              subst d1
              rw [v64_rel d3] at d2
              simpa using d2
        · cases hok
      · cases hok
    · cases hok
set_option maxRecDepth 100000 in
set_option maxHeartbeats 1000000 in
theorem sorted_walk (fuel : Nat) (L : List Int) (Bm off b clock : Nat) (es : Array MapEntry) (hu : ∀ x ∈ es.toList, ∃ z, x.key = n64 z) (hc : ∀ x ∈ es.toList, x.born < clock) (hnd : (es.toList.map (·.born)).Nodup) (hsz : es.size ≤ 4) (w : World) (hBm : Bm < w.heap.size)
    (hm : w.cell? ⟨Bm, off, none⟩ = some (.map (some b))) (hb : w.heap[b]? = some (.map es clock)) (hok : ∀ ss : List Int, (ss.map n64).Perm (es.toList.map (·.key)) → sortOk fuel L ss = true) :
    Calls Tryz.prog 76 #[.func (.func 103) #[] #[.pointer (some ⟨Bm, off, none⟩)]] w fun e w' => ∃ (v : Value) (ss : List Int), e = .returned v ∧ (ss.map n64).Perm (es.toList.map (·.key)) ∧ Below w.heap.size w w' ∧
      ((v = .slice none 0 0 ∧ ss = []) ∨ ∃ g cap, v = .slice (some ⟨g, 0, none⟩) ss.length cap ∧ ss ≠ [] ∧ w.heap.size ≤ g ∧ L.length = ss.length ∧ ss.length ≤ cap ∧ ∃ cs fz, w'.heap[g]? = some (.cells cs 22 fz) ∧ cs.size = cap ∧
        (∀ i, i < cs.size → ¬ (fz.1 ≤ i ∧ i < fz.2)) ∧ ∀ (i : Nat) (z : Int), L[i]? = some z → cs[i]? = some (n64 z)) := by
  refine (callsIn_wide (n := 6)).1 ?_
  have hf : Fence.wide.fn 76 := trivial
  have hf1 : Fence.wide.fn 101 := trivial
  have hf2 : Fence.wide.fn 102 := trivial
  have hro : Fence.wide.round = none := rfl
  have cC := collect_in 5 (by omega) 103 #[.pointer (some ⟨Bm, off, none⟩)] (fun args W => run_callFunc entered Tryz.func103 rfl args W) _ _ es.size (by unfold maxLen; omega) (by omega) w
    (fun m W hW => keys_stops m Bm off b clock es hu hc hnd W (Nat.lt_of_lt_of_le hBm hW.size) ((hW.cell (p := ⟨Bm, off, none⟩) hBm).trans hm) ((hW.block b (Array.getElem?_eq_some_iff.mp hb).1).trans hb))
  have cS : ∀ (v : Value) (ss : List Int) (W : World), W.ownsRow w.heap.size 22 1 v ss.length (ss.map n64) → (v = .slice none 0 0 ↔ ss = []) → (ss.map n64).Perm (es.toList.map (·.key)) → CallsIn Fence.wide 5 Tryz.prog 102 #[v] W _ := fun v ss W h1 h2 h3 => sort_row 5 fuel L ss w.heap.size v W h1 h2 (hok ss h3)
  refine callsIn_of_wp Tryz.func76 rfl hf ?_ hro
  simp only [Tryz.ntmps76, List.size_toArray, List.length_cons, List.length_nil, Nat.reduceAdd, Nat.reduceSub, Array.replicate_succ, Array.replicate_zero, List.push_toArray, List.append_toArray, List.nil_append, List.cons_append]
  gi_wp2_with (first
    | (gi_at_call 101; refine cC.mono ?_; rintro e W ⟨v, ss, rfl, hS, hrow, hnil, hb⟩)
    | (gi_at_call 102; refine (cS _ _ _ hrow hnil hS).mono ?_; rintro e w' ⟨⟨q, rfl⟩, hg, hpost⟩))
  go_ret
  refine ⟨v, ss, rfl, hS, hb.grown hg hb.size (fun k e => (hrow.lt k e).1), ?_⟩
  rcases hrow.2 with ⟨rfl, hz⟩ | ⟨g, cap, cur, rfl, hbase, _⟩
  · exact .inl ⟨rfl, List.eq_nil_of_length_eq_zero hz⟩
  · obtain ⟨h1, h2, h3⟩ := hpost g cap rfl
    exact .inr ⟨g, cap, rfl, (fun c => by have := hnil.2 c; cases this), hbase, h1, h2, h3⟩
theorem sorted76_inv {fuel : Nat} {args : List V} {h : H} {v : V} {h' : H} (he : sorted76 fuel args h = some (v, h')) :
    ∃ kb g off ty esz ro len d t km es zs, args = [.func 103 [.ptr kb g off]] ∧ h.t.get kb = some (.cells ty g esz ro len d t) ∧ off < len ∧ rget d t off = some (.map km) ∧ h.t.get km = some (.map es) ∧ u64s (es.map (·.1)) = some zs ∧ zs.length ≤ 4 ∧
      (∀ p ∈ perms zs, sortOk fuel (sortZ zs) p = true) ∧ ((zs = [] ∧ v = .snil ∧ h' = h) ∨ (zs ≠ [] ∧ v = .slice h.next 0 0 zs.length none ∧ h' = h.push (.cells 22 0 1 false zs.length [] (setMany .e 0 ((sortZ zs).map v64))))) := by
  unfold sorted76 at he
  split at he
  · rename_i f kb g off
    split at he
    · rename_i ty g' esz ro len d t hf hk
      split at he
      · rename_i km hg ho hr
        split at he
        · rename_i es hm
          split at he
          · rename_i zs hz
            have hf := Nat.eq_of_beq_eq_true hf
            have hg := Nat.eq_of_beq_eq_true hg
            have ho : off < len := Nat.le_of_ble_eq_true ho
            subst hf hg
            split at he
            · rename_i hl hp
              injection he with he; injection he with he1 he2
              exact ⟨kb, _, off, ty, esz, ro, len, d, t, km, es, [], rfl, hk, ho, hr, hm, hz, Nat.zero_le _, List.all_eq_true.mp hp, .inl ⟨rfl, he1.symm, he2.symm⟩⟩
            · rename_i z zs' hl hp
              injection he with he; injection he with he1 he2
              exact ⟨kb, _, off, ty, esz, ro, len, d, t, km, es, z :: zs', rfl, hk, ho, hr, hm, hz, Nat.le_of_ble_eq_true hl, List.all_eq_true.mp hp, .inr ⟨by simp, he1.symm, he2.symm⟩⟩
            · cases he
          · cases he
        · cases he
      · cases he
    · cases he
  · cases he
def z64 : Value → Int
  | .int _ z => z
  | _ => 0
theorem perm_n64 {a b : List Int} (h : (a.map n64).Perm (b.map n64)) : a.Perm b := by
  have := h.map z64
  simpa [List.map_map, Function.comp_def, z64] using this
theorem Step.fresh {ρ : Env} {h : H} {w w' : World} (r : Rel ρ h w) (hb : Below w.heap.size w w') (o : O) (ob : Obj) (e : Ent) (he : w.heap.size ≤ e.b) (hob : w'.heap[e.b]? = some ob) (ho : ∀ ρ', ORel ρ' e o ob) :
    Step ρ h w (fun j => if j = h.next then some e else ρ j) (h.push o) w' := by
  have hn : ρ h.next = none := by
    cases hk : ρ h.next with
    | none => rfl
    | some e' => exact absurd (r.lt _ _ hk) (Nat.lt_irrefl _)
  have x : Ext w.heap.size h.next ρ (fun j => if j = h.next then some e else ρ j) := Ext.one hn (Nat.le_refl _) he
  refine ⟨x, ⟨?_, ?_, ?_⟩, hb.os, hb.tape, hb.output, hb.size, ?_, Nat.le_succ _, ?_⟩
  · intro k e' he'
    have he' : (if k = h.next then some e else ρ k) = some e' := he'
    by_cases hk : k = h.next
    · rw [if_pos hk] at he'; injection he' with he'; subst he'
      refine ⟨o, ob, ?_, hob, ho _⟩
      show (h.t.set h.next o).get k = _
      rw [hk, T.get_set_same]
    · rw [if_neg hk] at he'
      obtain ⟨o', ob', h1, h2, h3⟩ := r.obj k e' he'
      refine ⟨o', ob', ?_, (hb.block _ (r.b_lt he')).trans h2, h3.ext x⟩
      show (h.t.set h.next o).get k = _
      rw [T.get_set_ne _ _ (Ne.symm hk)]; exact h1
  · intro k k' e1 e2 h1 h2 hbb
    have h1 : (if k = h.next then some e else ρ k) = some e1 := h1
    have h2 : (if k' = h.next then some e else ρ k') = some e2 := h2
    by_cases c1 : k = h.next <;> by_cases c2 : k' = h.next
    · rw [c1, c2]
    · rw [if_pos c1] at h1; rw [if_neg c2] at h2; injection h1 with h1; subst h1
      exact absurd (r.b_lt h2) (by rw [← hbb]; omega)
    · rw [if_neg c1] at h1; rw [if_pos c2] at h2; injection h2 with h2; subst h2
      exact absurd (r.b_lt h1) (by rw [hbb]; omega)
    · rw [if_neg c1] at h1; rw [if_neg c2] at h2; exact r.inj _ _ _ _ h1 h2 hbb
  · intro k e' he'
    have he' : (if k = h.next then some e else ρ k) = some e' := he'
    by_cases c : k = h.next
    · rw [c]; exact Nat.lt_succ_self _
    · rw [if_neg c] at he'; exact Nat.lt_succ_of_lt (r.lt _ _ he')
  · intro b hb' _
    exact hb.block b hb'
  · intro k hk _
    show (h.t.set h.next o).get k = _
    rw [T.get_set_ne _ _ (Nat.ne_of_gt hk)]
theorem Step.below {ρ : Env} {h : H} {w w' : World} (r : Rel ρ h w) (hb : Below w.heap.size w w') : Step ρ h w ρ h w' :=
  ⟨Ext.refl _ _ _, ⟨fun k e he => by obtain ⟨o, ob, h1, h2, h3⟩ := r.obj k e he; exact ⟨o, ob, h1, (hb.block _ (r.b_lt he)).trans h2, h3⟩, r.inj, r.lt⟩, hb.os, hb.tape, hb.output, hb.size, fun b hb' _ => hb.block b hb', Nat.le_refl _, fun _ _ _ => rfl⟩
theorem sorted_ok (fuel : Nat) (args : List V) (h : H) (v : V) (h' : H) (he : sorted76 fuel args h = some (v, h')) (ρ : Env) (w : World) (args' : Array Value) (r : Rel ρ h w) (hl : LRel ρ args args'.toList) :
    Calls Tryz.prog 76 args' w fun e w' => ∃ (q : Value) (ρ' : Env), e = .returned q ∧ Step ρ h w ρ' h' w' ∧ VRel ρ' v q := by
  obtain ⟨kb, g, off, ty, esz, ro, len, d, t, km, es, zs, rfl, hk, ho, hr, hm, hz, hlen, hp, hres⟩ := sorted76_inv he
  have hsz : args'.size = 1 := by have := hl.length; simpa using this
  obtain ⟨x, hx⟩ : ∃ x, args' = #[x] := Array.size_eq_one_iff.mp hsz
  subst hx
  have hv := hl.1
  obtain ⟨cs, hcs, hcap⟩ : ∃ cs : Array Value, x = .func (.func 103) #[] cs ∧ cs.size = 1 ∧ ∀ (c : Value), cs[0]? = some c → VRel ρ (.ptr kb g off) c := by
    cases hv with
    | @func f l cs hs hh => exact ⟨cs, rfl, hs, fun c hc => hh 0 _ c rfl hc⟩
  obtain ⟨hc1, hc2⟩ := hcap
  obtain ⟨c, hc⟩ : ∃ c, cs = #[c] := Array.size_eq_one_iff.mp hc1
  subst hc
  have hcp := hc2 c rfl
  obtain ⟨e, hek, heg, hce⟩ : ∃ e, ρ kb = some e ∧ e.gen = g ∧ c = .pointer (some ⟨e.b, e.at_ + off, none⟩) := by
    cases hcp with
    | ptr he hg => exact ⟨_, he, hg, rfl⟩
    | @ptrOld k gen off' e a he hg =>
      obtain ⟨o, ob, g1, _, g3⟩ := r.obj kb _ he
      rw [hk] at g1; injection g1 with g1; subst g1
      obtain ⟨q, _⟩ := g3
      omega
  subst hcs hce
  obtain ⟨o, ob, g1, hBm, g3⟩ := r.obj kb _ hek
  rw [hk] at g1; injection g1 with g1; subst g1
  obtain ⟨_, _, _, cells, fz, rfl, _, _, _, g4⟩ := g3
  obtain ⟨u, cu, g5, g6, g7⟩ := g4 off ho
  rw [hr] at g5; injection g5 with g5; subst g5
  obtain ⟨em, hem, hme⟩ : ∃ em, ρ km = some em ∧ cu = .map (some em.b) := by
    cases g7 with
    | map he _ => exact ⟨_, he, rfl⟩
    | mapOld he hg =>
      obtain ⟨o, ob, g1, _, g3⟩ := r.obj km _ he
      rw [hm] at g1; injection g1 with g1; subst g1
      obtain ⟨q, _⟩ := g3
      omega
  subst hme
  obtain ⟨o, ob, g1, hmb, g3⟩ := r.obj km _ hem
  rw [hm] at g1; injection g1 with g1; subst g1
  obtain ⟨_, _, es', clock, rfl, ⟨_, l, k1, k2, k3⟩, k4, k5⟩ := g3
  have hcell : w.cell? ⟨e.b, e.at_ + off, none⟩ = some (.map (some em.b)) := by simp [World.cell?, hBm, g6]
  have hkeys : es.map (·.1) = zs.map v64 := u64s_eq hz
  -- the world's keys are numbers, the same ones
  obtain ⟨ys, hy1, hy2⟩ : ∃ ys : List Int, es'.toList.map (·.key) = ys.map n64 ∧ ys.Perm zs := by
    have hl1 : (l.map (·.1)).Perm (zs.map v64) := by rw [← hkeys]; exact k1.map _
    have hall : ∀ p ∈ l, ∃ z, p.1 = v64 z := fun p hp' => by
      have := hl1.subset (List.mem_map.mpr ⟨p, hp', rfl⟩)
      obtain ⟨z, _, hz⟩ := List.mem_map.mp this
      exact ⟨z, hz.symm⟩
    let zv : V → Int := fun v => match v with | .int _ z => z | _ => 0
    refine ⟨l.map fun p => zv p.1, ?_, ?_⟩
    · apply List.ext_getElem?
      intro i
      rw [List.getElem?_map, List.getElem?_map, List.getElem?_map]
      by_cases hi : i < l.length
      · have h1 : l[i]? = some l[i] := List.getElem?_eq_getElem hi
        have h2 : es'.toList[i]? = some (es'.toList[i]'(by omega)) := List.getElem?_eq_getElem (by omega)
        obtain ⟨z, hz⟩ := hall l[i] (List.getElem_mem hi)
        have h3 := (k3 i _ _ h1 h2).1
        rw [hz] at h3
        rw [h1, h2]
        simp only [Option.map_some, v64_rel h3, hz]
        rfl
      · rw [List.getElem?_eq_none (by omega), List.getElem?_eq_none (by omega)]; rfl
    · have h1 := hl1.map zv
      rw [List.map_map, List.map_map] at h1
      have h2 : (zs.map (zv ∘ v64)) = zs := by
        conv => rhs; rw [← List.map_id zs]
        exact List.map_congr_left fun z _ => rfl
      rw [h2] at h1
      exact h1
  have hu : ∀ x ∈ es'.toList, ∃ z, x.key = n64 z := fun x hx => by
    have : x.key ∈ ys.map n64 := by rw [← hy1]; exact List.mem_map.mpr ⟨x, hx, rfl⟩
    obtain ⟨z, _, hz⟩ := List.mem_map.mp this
    exact ⟨z, hz.symm⟩
  have hesz : es'.size = zs.length := by
    have h1 := congrArg List.length hy1
    have h2 := hy2.length_eq
    simp at h1
    omega
  refine (sorted_walk fuel (sortZ zs) e.b (e.at_ + off) em.b clock es' hu k5 k4 (by omega) w (Array.getElem?_eq_some_iff.mp hBm).1 hcell hmb fun ss hss => hp ss (mem_perms _ _ ?_)).mono ?_
  · rw [hy1] at hss
    exact (perm_n64 hss).trans hy2
  · rintro e' w' ⟨v', ss, rfl, hperm, hbel, hcase⟩
    have hsl : ss.length = zs.length := by rw [hy1] at hperm; exact ((perm_n64 hperm).trans hy2).length_eq
    rcases hcase with ⟨rfl, rfl⟩ | ⟨gb, cap, rfl, hne, hgb, q1, q2, cs', fz', q3, q4, q5, q6⟩
    · have hz0 : zs = [] := List.eq_nil_of_length_eq_zero (by simpa using hsl.symm)
      rcases hres with ⟨_, rfl, rfl⟩ | ⟨hn, _⟩
      · exact ⟨_, ρ, rfl, .below r hbel, .snil⟩
      · exact absurd hz0 hn
    · rcases hres with ⟨h0, _⟩ | ⟨_, rfl, rfl⟩
      · rw [h0] at hsl; exact absurd (List.eq_nil_of_length_eq_zero hsl) hne
      · have st := Step.fresh r hbel (.cells 22 0 1 false zs.length [] (setMany .e 0 ((sortZ zs).map v64))) (.cells cs' 22 fz') ⟨gb, 0, 0, cap, 1, false⟩ hgb q3 (fun ρ' => by
          refine ⟨rfl, rfl, rfl, cs', fz', rfl, by show cs'.size = 0 + cap; omega, by show zs.length ≤ cap; omega, q5, fun i hi => ?_⟩
          have hi' : i < (sortZ zs).length := by omega
          refine ⟨v64 (sortZ zs)[i], n64 (sortZ zs)[i], ?_, ?_, .int _ _⟩
          · rw [rget_app]; simp [hi']
          · show cs'[0 + i]? = _
            rw [Nat.zero_add]; exact q6 i _ (List.getElem?_eq_getElem hi'))
        refine ⟨_, _, rfl, st, ?_⟩
        rw [hsl]
        have := VRel.slice (ρ := fun j => if j = h.next then some (⟨gb, 0, 0, cap, 1, false⟩ : Ent) else ρ j) (k := h.next) (gen := 0) (off := 0) (len := zs.length) (cap := none) (e := ⟨gb, 0, 0, cap, 1, false⟩) (c := cap) (if_pos rfl) rfl (fun _ h => by cases h) (by omega) (fun _ => by show 0 + cap * 1 ≤ cap; omega)
        exact this
end Go.Ev
