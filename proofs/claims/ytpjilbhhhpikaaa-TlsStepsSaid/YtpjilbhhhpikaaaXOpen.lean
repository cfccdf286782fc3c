/- What a row reads of an argument of any of these kinds (whole numbers, bools, strings, slices, structs, in one another) is a value of its kind in the sense of the printed words: with its numbers' bounds, its bulk and its weight. No condition. -/
import Derived.Test.YtpjilbhhhpikaaaRows
import Derived.Test.YtpjilbhhhpikaaaXErr
import Derived.Test.YtpjilbhhhpikaaaWWords
import Derived.Deep.Slices
import Derived.SizedLaws
import Derived.ChangeArms
import Derived.DataReads
namespace Go.Proofs.YtpjilbhhhpikaaaX
open Go Go.Proofs.YtpjilbhhhpikaaaW.PrintWords Go.Deep
set_option linter.unusedVariables false

/-- A reading of type T is a value of kind d: g what is known of it, b its bulk at most, z what its weights give. -/
structure Fits (P : Program) (T : TypeId) {α : Type} (d : Kd α) (g : α → Prop) (b : α → Nat) (z : α → Prop) : Prop where
  cells : P.cellsOf T = d.sz
  op : ∀ {H : Type} {enc : TypeId × Value → H} {w : World} {base : Nat} {spare : Nat → Bool} {held : Bool} {fuel : Nat} {cs : List Value} {x : DataW H × List MemPlace},
    DataW.trod enc P w base spare held fuel T cs = some x → ∃ v, d.K w v cs ∧ g v ∧ b v ≤ Go.Proofs.Ytpjilbhhhpikaaa.Rows.uptoBulk x.1 ∧ ((∀ n ∈ x.1.weights P T, n ≤ reachBytes) → z v)

theorem bulk_pos {H : Type} (d : DataW H) : 1 ≤ Go.Proofs.Ytpjilbhhhpikaaa.Rows.uptoBulk d := by
  cases d with
  | lit l => cases l <;> simp [Go.Proofs.Ytpjilbhhhpikaaa.Rows.uptoBulk]
  | nil => simp [Go.Proofs.Ytpjilbhhhpikaaa.Rows.uptoBulk]
  | ptr d => simp [Go.Proofs.Ytpjilbhhhpikaaa.Rows.uptoBulk]
  | slice elems spare => simp [Go.Proofs.Ytpjilbhhhpikaaa.Rows.uptoBulk]
  | agg parts => simp [Go.Proofs.Ytpjilbhhhpikaaa.Rows.uptoBulk]
  | iface t d => simp [Go.Proofs.Ytpjilbhhhpikaaa.Rows.uptoBulk]
  | map entries => simp [Go.Proofs.Ytpjilbhhhpikaaa.Rows.uptoBulk]
  | held h => simp [Go.Proofs.Ytpjilbhhhpikaaa.Rows.uptoBulk]

theorem Fits.int {P : Program} {T : TypeId} (k : IntKind) (hu : P.underlying T = some (.int k)) (hc : P.cellsOf T = 1) : Fits P T (Kd.int k) (gI k) b1 zT where
  cells := hc
  op := by
    intro H enc w base spare held fuel cs x h
    obtain ⟨n, rfl, rfl, hw⟩ := DataW.trod_int hu h
    exact ⟨n, rfl, hw, bulk_pos _, fun _ => trivial⟩

theorem Fits.bool {P : Program} {T : TypeId} (hu : P.underlying T = some .bool) (hc : P.cellsOf T = 1) : Fits P T Kd.bool gT b1 zT where
  cells := hc
  op := by
    intro H enc w base spare held fuel cs x h
    obtain ⟨n, rfl, rfl⟩ := DataW.trod_bool hu h
    exact ⟨n, rfl, trivial, bulk_pos _, fun _ => trivial⟩

theorem Fits.string {P : Program} {T : TypeId} (hu : P.underlying T = some .string) (hc : P.cellsOf T = 1) : Fits P T Kd.string gS bS zS where
  cells := hc
  op := by
    intro H enc w base spare held fuel cs x h
    obtain ⟨s, rfl, rfl, hs⟩ := DataW.trod_string hu h
    refine ⟨s, rfl, hs, ?_, fun hw => ?_⟩
    · simp [Go.Proofs.Ytpjilbhhhpikaaa.Rows.uptoBulk, bS]
    · have := hw s.data.toList.length (by simp [DataW.weights])
      show s.size ≤ 140737488351232
      have h2 : reachBytes = 140737488351232 := rfl
      rw [← h2]
      simpa using this

theorem bulk_all {H : Type} {α : Type} {b : α → Nat} : ∀ (l : List α) (ds : List (DataW H)), l.length = ds.length → (∀ (i : Nat) (x : α) (d : DataW H), l[i]? = some x → ds[i]? = some d → b x ≤ Go.Proofs.Ytpjilbhhhpikaaa.Rows.uptoBulk d) → (l.map b).sum ≤ Go.Proofs.Ytpjilbhhhpikaaa.Rows.uptoBulkAll ds
  | [], [], _, _ => by simp [Go.Proofs.Ytpjilbhhhpikaaa.Rows.uptoBulkAll]
  | x :: l, d :: ds, hl, h => by
    have h0 := h 0 x d rfl rfl
    have h1 := bulk_all l ds (by simpa using hl) (fun i y e hy he => h (i + 1) y e (by simpa using hy) (by simpa using he))
    simp only [List.map_cons, List.sum_cons, Go.Proofs.Ytpjilbhhhpikaaa.Rows.uptoBulkAll]
    omega
  | [], _ :: _, hl, _ => by simp at hl
  | _ :: _, [], hl, _ => by simp at hl

theorem weights_mem_all {H : Type} {P : Program} {e : TypeId} : ∀ {ds : List (DataW H)} {d : DataW H}, d ∈ ds → ∀ n ∈ d.weights P e, n ∈ DataW.weightsAll P e ds
  | d0 :: ds, d, hd, n, hn => by
    simp only [DataW.weightsAll, List.mem_append]
    rcases List.mem_cons.1 hd with rfl | hd
    · exact Or.inl hn
    · exact Or.inr (weights_mem_all hd n hn)

theorem Fits.slice {P : Program} {T e : TypeId} {α : Type} {d : Kd α} {g : α → Prop} {b : α → Nat} {z : α → Prop} {B : Nat} (f : Fits P e d g b z) (hu : P.underlying T = some (.slice e)) (hc : P.cellsOf T = 1) (hB : P.bytesOf e = B) :
    Fits P T (Kd.slice e d) (gL g) (bL b) (zL B z) where
  cells := hc
  op := by
    intro H enc w base spare held fuel cs x h
    rcases open_slice hu h with ⟨rfl, rfl⟩ | ⟨a, len, cap, m, n, D, Pl, rfl, hb, hl, hm, hmm, rfl, hx⟩
    · refine ⟨[], ⟨none, 0, rfl, by simp, ⟨rfl, by simp, fun h => absurd h (by simp)⟩⟩, ⟨by simp, by simp⟩, bulk_pos _, fun _ => ⟨by simp, by simp⟩⟩
    · have hlm : len ≤ m := by rw [hmm]; split <;> omega
      have key : ∀ i, i < len → ∃ v : Option α, ∃ x, v = some x ∧ ∃ cs', w.cells? base (a.add (i * P.cellsOf e)) (P.cellsOf e) = some cs' ∧ d.K w x cs' ∧ g x ∧ b x ≤ Go.Proofs.Ytpjilbhhhpikaaa.Rows.uptoBulk (D i) ∧ ((∀ n ∈ (D i).weights P e, n ≤ reachBytes) → z x) := by
        intro i hi
        obtain ⟨cs', h1, h2⟩ := hx i (by omega)
        obtain ⟨v, k1, k2, k3, k4⟩ := f.op h2
        exact ⟨some v, v, rfl, cs', h1, k1, k2, k3, k4⟩
      obtain ⟨V, hV⟩ := choose_lt key
      have key2 : ∃ l : List α, l.length = len ∧ ∀ i x, l[i]? = some x → i < len ∧ ∃ cs', w.cells? base (a.add (i * P.cellsOf e)) (P.cellsOf e) = some cs' ∧ d.K w x cs' ∧ g x ∧ b x ≤ Go.Proofs.Ytpjilbhhhpikaaa.Rows.uptoBulk (D i) ∧ ((∀ n ∈ (D i).weights P e, n ≤ reachBytes) → z x) := by
        have step : ∀ k, k ≤ len → ∃ l : List α, l.length = k ∧ ∀ i x, l[i]? = some x → i < len ∧ ∃ cs', w.cells? base (a.add (i * P.cellsOf e)) (P.cellsOf e) = some cs' ∧ d.K w x cs' ∧ g x ∧ b x ≤ Go.Proofs.Ytpjilbhhhpikaaa.Rows.uptoBulk (D i) ∧ ((∀ n ∈ (D i).weights P e, n ≤ reachBytes) → z x) := by
          intro k
          induction k with
          | zero => exact fun _ => ⟨[], rfl, fun i x hx => by simp at hx⟩
          | succ k ih =>
            intro hk
            obtain ⟨l, hl1, hl2⟩ := ih (by omega)
            obtain ⟨x, hx1, hx2⟩ := hV k (by omega)
            refine ⟨l ++ [x], by simp [hl1], fun i y hy => ?_⟩
            by_cases hi : i < l.length
            · rw [List.getElem?_append_left hi] at hy
              exact hl2 i y hy
            · have hi2 : i = k := by
                have := (List.getElem?_eq_some_iff.1 hy).1
                simp at this
                omega
              subst hi2
              rw [List.getElem?_append_right (by omega)] at hy
              simp [hl1] at hy
              subst hy
              exact ⟨by omega, hx2⟩
        exact step len (Nat.le_refl _)
      obtain ⟨l, hl1, hl2⟩ := key2
      have hcap : len ≤ 9223372036854775807 := by
        have : maxLen = 9223372036854775807 := rfl
        omega
      refine ⟨l, ⟨some a, cap, by rw [hl1], by omega, ⟨rfl, by omega, fun hn => ⟨a, rfl, fun j p hj => ?_⟩⟩⟩, ⟨by omega, fun x hx => ?_⟩, ?_, fun hw => ⟨?_, fun x hx => ?_⟩⟩
      · obtain ⟨_, cs', h1, h2, _⟩ := hl2 j p hj
        obtain ⟨_, h4, h5⟩ := World.cells?_some h1
        refine ⟨cs', by rw [h4, f.cells], h2, fun i u hu => ?_⟩
        have hi : i < P.cellsOf e := by
          have := (List.getElem?_eq_some_iff.1 hu).1
          omega
        have := h5 i hi
        rw [Go.Deep.add_add, f.cells] at this
        rw [this, hu]
      · obtain ⟨i, hi⟩ := List.getElem?_of_mem hx
        obtain ⟨_, _, _, _, h, _⟩ := hl2 i x hi
        exact h
      · have := bulk_all (b := b) l ((List.range len).map D) (by simp [hl1]) (fun i x dd hx hd => by
          obtain ⟨hi, _, _, _, _, h, _⟩ := hl2 i x hx
          simp [hi] at hd
          subst hd
          exact h)
        simp only [Go.Proofs.Ytpjilbhhhpikaaa.Rows.uptoBulk, bL]
        omega
      · have := hw ((((List.range len).map D).length + ((List.range (m - len)).map fun j => D (len + j)).length) * P.bytesOf e) (by simp [DataW.weights, hu])
        rw [hl1]
        simp only [List.length_map, List.length_range, hB] at this
        have h2 : len * B ≤ (len + (m - len)) * B := Nat.mul_le_mul_right _ (by omega)
        exact Nat.le_trans h2 this
      · obtain ⟨i, hi⟩ := List.getElem?_of_mem hx
        obtain ⟨h0, _, _, _, _, _, h⟩ := hl2 i x hi
        refine h (fun n hn => hw n ?_)
        simp only [DataW.weights, hu]
        refine List.mem_cons_of_mem _ (List.mem_append_left _ (weights_mem_all (d := D i) ?_ n hn))
        exact List.mem_map.2 ⟨i, List.mem_range.2 h0, rfl⟩

/-- Fields from 'off' on are a value of kind d. -/
structure FitsF (P : Program) (off : Nat) (fs : List Field) {α : Type} (d : Kd α) (g : α → Prop) (b : α → Nat) (z : α → Prop) : Prop where
  op : ∀ {H : Type} {enc : TypeId × Value → H} {w : World} {base : Nat} {spare : Nat → Bool} {held : Bool} {fuel : Nat} {cs : List Value} {xs : List (DataW H × List MemPlace)},
    cs.length = off + d.sz → xs.length = fs.length → (∀ (i : Nat) (f : Field), fs[i]? = some f → DataW.trod enc P w base spare held fuel f.type ((cs.drop f.offset).take (P.cellsOf f.type)) = xs[i]?) →
    ∃ v, d.K w v (cs.drop off) ∧ g v ∧ b v ≤ Go.Proofs.Ytpjilbhhhpikaaa.Rows.uptoBulkAll (xs.map (·.1)) ∧ ((∀ n ∈ DataW.weightsEach P (fs.map (·.type)) (xs.map (·.1)), n ≤ reachBytes) → z v)

theorem FitsF.last {P : Program} {f : Field} {off : Nat} {α : Type} {d : Kd α} {g : α → Prop} {b : α → Nat} {z : α → Prop} (h : Fits P f.type d g b z) (h0 : f.offset = off) : FitsF P off [f] d g b z := by
  subst h0
  constructor
  intro H enc w base spare held fuel cs xs hl hx hf
  match xs, hx with
  | [x], _ =>
    have h0 := hf 0 f rfl
    simp only [List.getElem?_cons_zero] at h0
    obtain ⟨v, k1, k2, k3, k4⟩ := h.op h0
    refine ⟨v, ?_, k2, ?_, fun hw => k4 (fun n hn => hw n ?_)⟩
    · have : (cs.drop f.offset).take (P.cellsOf f.type) = cs.drop f.offset := List.take_of_length_le (by rw [h.cells, List.length_drop]; omega)
      rwa [this] at k1
    · simp only [List.map_cons, List.map_nil, Go.Proofs.Ytpjilbhhhpikaaa.Rows.uptoBulkAll]
      omega
    · simp [DataW.weightsEach]
      exact hn

theorem FitsF.cons {P : Program} {f : Field} {fs : List Field} {off off2 : Nat} {α β : Type} {d : Kd α} {g : α → Prop} {b : α → Nat} {z : α → Prop} {d2 : Kd β} {g2 : β → Prop} {b2 : β → Nat} {z2 : β → Prop}
    (h : Fits P f.type d g b z) (h0 : f.offset = off) (hr : FitsF P off2 fs d2 g2 b2 z2) (ho : off2 = off + d.sz) :
    FitsF P off (f :: fs) (Kd.pair d d2) (fun x => g x.1 ∧ g2 x.2) (fun x => b x.1 + b2 x.2) (fun x => z x.1 ∧ z2 x.2) := by
  subst h0
  constructor
  intro H enc w base spare held fuel cs xs hl hx hf
  match xs, hx with
  | x :: xs, hx =>
    have h0 := hf 0 f rfl
    simp only [List.getElem?_cons_zero] at h0
    obtain ⟨v, k1, k2, k3, k4⟩ := h.op h0
    have hsz : (Kd.pair d d2).sz = d.sz + d2.sz := rfl
    obtain ⟨v2, j1, j2, j3, j4⟩ := hr.op (cs := cs) (xs := xs) (by omega) (by simpa using hx) (fun i f' hi => by
      have := hf (i + 1) f' (by simpa using hi)
      simpa using this)
    refine ⟨(v, v2), ⟨_, _, ?_, k1, j1⟩, ⟨k2, j2⟩, ?_, fun hw => ⟨k4 (fun n hn => hw n ?_), j4 (fun n hn => hw n ?_)⟩⟩
    · rw [h.cells, ho, ← List.drop_drop, List.take_append_drop]
    · simp only [List.map_cons, Go.Proofs.Ytpjilbhhhpikaaa.Rows.uptoBulkAll]
      omega
    · simp only [List.map_cons, DataW.weightsEach, List.mem_append]
      exact Or.inl hn
    · simp only [List.map_cons, DataW.weightsEach, List.mem_append]
      exact Or.inr hn

theorem Fits.struct {P : Program} {T : TypeId} {fs : Array Field} {l : List Field} {α β : Type} {d : Kd α} {g : α → Prop} {b : α → Nat} {z : α → Prop} (hu : P.underlying T = some (.struct fs)) (hfs : fs.toList = l) (hc : P.cellsOf T = d.sz) (h : FitsF P 0 l d g b z)
    (f : β → α) (mk : α → β) (hm : ∀ t, f (mk t) = t) : Fits P T (Kd.iso d f) (fun x => g (f x)) (fun x => b (f x) + 1) (fun x => z (f x)) where
  cells := hc
  op := by
    subst hfs
    intro H enc w base spare held fuel cs x hx
    obtain ⟨xs, n, _, rfl, hl, hlen, hf⟩ := DataW.trod_struct hu hx
    obtain ⟨v, k1, k2, k3, k4⟩ := h.op (enc := enc) (w := w) (base := base) (spare := spare) (held := held) (fuel := n) (cs := cs) (xs := xs) (by omega) (by simpa using hlen) (fun i f hi => hf i f (by simpa using hi))
    refine ⟨mk v, ?_, ?_, ?_, ?_⟩
    · show d.K w (f (mk v)) cs
      rw [hm]
      simpa using k1
    · rw [hm]
      exact k2
    · rw [hm]
      simp only [Go.Proofs.Ytpjilbhhhpikaaa.Rows.uptoBulk]
      omega
    · intro hw
      rw [hm]
      refine k4 (fun n hn => hw n ?_)
      simp only [DataW.weights, hu]
      exact hn

/-- A struct's value is its cells. -/
theorem agg_of_okWide {P : Program} {w : World} {r : Reach} {b0 : Nat} {T : TypeId} {v : Value} {fs : Array Field} (hu : P.underlying T = some (.struct fs)) (h : Value.okWide P w r b0 T v) : ∃ cs, v = .agg cs := by
  unfold Value.okWide at h
  rw [hu] at h
  obtain ⟨cs, rfl, _⟩ := h
  exact ⟨cs, rfl⟩
end Go.Proofs.YtpjilbhhhpikaaaX
