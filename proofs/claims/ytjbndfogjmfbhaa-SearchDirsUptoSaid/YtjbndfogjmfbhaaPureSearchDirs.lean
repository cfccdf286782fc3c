import Derived.Test.YtjbndfogjmfbhaaPSearchDirsx8
namespace Go.Proofs.Ytjbndfogjmfbhaa.Pure
open Go.RowKit Go.Proofs.Ytjbndfogjmfbhaa.PSearchDirs Go.Proofs.YtjbndfogjmfbhaaW.PrintWords Go.Proofs.YtjbndfogjmfbhaaW.PrintLast Go.Proofs.YtjbndfogjmfbhaaX
theorem dec_facts (n b0 b1 b2 b3 : Nat) : (b0 < 128 ∧ Go.Lib.decodeN n b0 b1 b2 b3 = (b0, 1)) ∨ (128 ≤ b0 ∧ 128 ≤ (Go.Lib.decodeN n b0 b1 b2 b3).1 ∧ 1 ≤ (Go.Lib.decodeN n b0 b1 b2 b3).2 ∧ (Go.Lib.decodeN n b0 b1 b2 b3).2 ≤ 4 ∧ (1 < (Go.Lib.decodeN n b0 b1 b2 b3).2 → 128 ≤ b1 ∧ 1 < n) ∧ (2 < (Go.Lib.decodeN n b0 b1 b2 b3).2 → 128 ≤ b2 ∧ 2 < n) ∧ (3 < (Go.Lib.decodeN n b0 b1 b2 b3).2 → 128 ≤ b3 ∧ 3 < n)) := by
  unfold Go.Lib.decodeN
  by_cases h : b0 < 128
  · exact .inl ⟨h, if_pos h⟩
  · refine .inr ?_
    rw [if_neg h]
    split
    · split <;> (dsimp only; omega)
    · split
      · split <;> (dsimp only; omega)
      · split
        · split <;> (dsimp only; omega)
        · dsimp only; omega
theorem get_bt (s : ByteArray) (i : Nat) (h : i < s.size) : ((s.get! i).toNat : Int) = bt s i := by
  unfold bt
  rw [dif_pos (by rw [Int.toNat_natCast]; exact h)]
  simp only [Int.toNat_natCast]
  congr 2
  first | exact getElem!_pos s.data i h | (unfold ByteArray.get!; exact getElem!_pos s.data i h) | (unfold ByteArray.get!; simp [h]; rfl) | (simp [ByteArray.get!, h]; done)
def fi (p : Nat → Bool) (s : ByteArray) : Nat → Nat → Int
  | 0, _ => -1
  | f + 1, pos => if pos < s.size then (if p (bt s pos).toNat = true then (pos : Int) else fi p s f (pos + 1)) else -1
theorem fi_end (p : Nat → Bool) (s : ByteArray) (f pos : Nat) (h : ¬ pos < s.size) : fi p s f pos = -1 := by cases f <;> simp [fi, h]
theorem fi_skip (p : Nat → Bool) (hp : ∀ r, 128 ≤ r → p r = false) (s : ByteArray) : ∀ (d f pos : Nat), (∀ j, pos ≤ j → j < pos + d → 128 ≤ (bt s j).toNat) → fi p s (f + d) pos = fi p s f (pos + d) ∨ s.size < pos + d
  | 0, f, pos, _ => .inl rfl
  | d + 1, f, pos, h => by
    by_cases c : pos < s.size
    · rw [show f + (d + 1) = (f + d) + 1 from rfl, fi, if_pos c, hp _ (h pos (Nat.le_refl _) (by omega)), if_neg (by decide)]
      rcases fi_skip p hp s d f (pos + 1) (fun j h1 h2 => h j (by omega) (by omega)) with e | e
      · left; rw [e, show pos + 1 + d = pos + (d + 1) from by omega]
      · right; omega
    · right; omega
theorem idx_fi (p : Nat → Bool) (hp : ∀ r, 128 ≤ r → p r = false) (s : ByteArray) : ∀ (f g pos : Nat), s.size ≤ pos + f → s.size ≤ pos + g → Go.Lib.idxFuncFrom p true s f pos = fi p s g pos
  | 0, g, pos, h1, h2 => by rw [fi_end _ _ _ _ (by omega)]; rfl
  | f + 1, g, pos, h1, h2 => by
    by_cases c : pos < s.size
    · obtain ⟨g, rfl⟩ : ∃ q, g = q + 1 := ⟨g - 1, by omega⟩
      unfold Go.Lib.idxFuncFrom
      rw [if_pos c]
      have hd := Go.Lib.decode_at s pos
      rcases dec_facts (s.size - pos) (s.get! pos).toNat (s.get! (pos + 1)).toNat (s.get! (pos + 2)).toNat (s.get! (pos + 3)).toNat with ⟨ha, he⟩ | ⟨hb, hr, hw1, hw4, k1, k2, k3⟩
      · rw [hd, he]
        have := get_bt s pos c
        rw [fi, if_pos c, ← this, Int.toNat_natCast]
        split
        · rfl
        · exact idx_fi p hp s f g (pos + 1) (by omega) (by omega)
      · rw [← hd] at hr hw1 hw4 k1 k2 k3
        rw [hp _ hr, if_neg (by decide)]
        generalize (Utf8.decode s pos).2 = w at hw1 hw4 k1 k2 k3 ⊢
        have hwn : pos + w ≤ s.size := by
          rcases (show w = 1 ∨ w = 2 ∨ w = 3 ∨ w = 4 by omega) with e | e | e | e
          · omega
          · have := (k1 (by omega)).2; omega
          · have := (k2 (by omega)).2; omega
          · have := (k3 (by omega)).2; omega
        obtain ⟨q, hq⟩ : ∃ q, g + 1 = q + w := ⟨g + 1 - w, by omega⟩
        rw [hq]
        have hall : ∀ j, pos ≤ j → j < pos + w → 128 ≤ (bt s j).toNat := by
          intro j hj1 hj2
          have hj : j < s.size := by omega
          rw [← get_bt s j hj, Int.toNat_natCast]
          rcases (show j = pos ∨ j = pos + 1 ∨ j = pos + 2 ∨ j = pos + 3 by omega) with e | e | e | e <;> subst e
          · exact hb
          · exact (k1 (by omega)).1
          · exact (k2 (by omega)).1
          · exact (k3 (by omega)).1
        rcases fi_skip p hp s w q pos hall with e | e
        · rw [e]
          exact idx_fi p hp s f q (pos + w) (by omega) (by omega)
        · omega
    · rw [Go.Lib.idxFuncFrom_end _ _ _ _ _ c, fi_end _ _ _ _ c]
def cutS (q : Int → Bool) (s : ByteArray) : Nat → Nat → Nat → List ByteArray
  | 0, b, _ => [s.extract b s.size]
  | f + 1, b, i => if i < s.size then (if q (bt s i) = true then s.extract b i :: cutS q s f (i + 1) (i + 1) else cutS q s f b (i + 1)) else [s.extract b s.size]
def isIn (a : ByteArray) : Nat → Nat → Int → Bool
  | 0, _, _ => false
  | m + 1, j, x => (x == bt a j) || isIn a m (j + 1) x
theorem w64 {n : Int} (h0 : 0 ≤ n) (h1 : n < 9223372036854775808) : wrap64 n = n := by unfold wrap64; omega
theorem ref_app (s a : ByteArray) (out : List ByteArray) (b i : Nat) (hb : b ≤ i) (hi : i ≤ s.size) (hl : out.length < 8796093022208) (hs : s.size < 4611686018427387904) (k : Nat) (j : Int) :
    shackleref14_cut.l1 (k + 1) s a out b i true j = shackleref14_cut.l0 k s a (out ++ [s.extract b i]) ((i + 1 : Nat) : Int) ((i + 1 : Nat) : Int) := by
  rw [shackleref14_cut.l1]
  by_cases c : j < (a.size : Int)
  · rw [if_pos c, if_pos rfl, if_pos (by omega), if_pos (by omega), if_pos (by omega), if_pos hl, w64 (by omega) (by omega), Int.toNat_natCast, Int.toNat_natCast]
    rfl
  · rw [if_neg c, if_pos rfl, if_pos (by omega), if_pos (by omega), if_pos (by omega), if_pos hl, w64 (by omega) (by omega), Int.toNat_natCast, Int.toNat_natCast]
    rfl
theorem ref_in (s a : ByteArray) (out : List ByteArray) (b i : Nat) (hb : b ≤ i) (hi : i < s.size) (hl : out.length < 8796093022208) (hs : s.size < 4611686018427387904) (ha : a.size < 4611686018427387904) : ∀ (m j K : Nat), j + m = a.size → m + 2 ≤ K → ∃ K', K ≤ K' + m + 2 ∧ shackleref14_cut.l1 K s a out b i false j = (if isIn a m j (bt s i) = true then shackleref14_cut.l0 K' s a (out ++ [s.extract b i]) ((i + 1 : Nat) : Int) ((i + 1 : Nat) : Int) else shackleref14_cut.l0 K' s a out b ((i + 1 : Nat) : Int))
  | 0, j, K, h1, h2 => by
    obtain ⟨K, rfl⟩ : ∃ q, K = q + 1 := ⟨K - 1, by omega⟩
    refine ⟨K, by omega, ?_⟩
    rw [shackleref14_cut.l1, if_neg (by omega), if_neg (by decide), w64 (by omega) (by omega), isIn, if_neg (by decide)]
    rfl
  | m + 1, j, K, h1, h2 => by
    obtain ⟨K, rfl⟩ : ∃ q, K = q + 1 := ⟨K - 1, by omega⟩
    rw [shackleref14_cut.l1, if_pos (by omega), if_neg (by decide), if_pos (by omega), if_pos (by omega), if_pos (by omega), w64 (by omega) (by omega), show ((j : Int) + 1) = ((j + 1 : Nat) : Int) from by omega, isIn]
    by_cases c : (bt s i == bt a j) = true
    · simp only [c, Bool.true_or, if_true]
      obtain ⟨K, rfl⟩ : ∃ q, K = q + 1 := ⟨K - 1, by omega⟩
      exact ⟨K, by omega, ref_app s a out b i hb (by omega) hl hs K _⟩
    · rw [Bool.eq_false_iff.mpr c, Bool.false_or]
      obtain ⟨K', g1, g2⟩ := ref_in s a out b i hb hi hl hs ha m (j + 1) K (by omega) (by omega)
      exact ⟨K', by omega, g2⟩
theorem ref_out (s a : ByteArray) (hs : s.size < 4611686018427387904) (ha : a.size < 4611686018427387904) : ∀ (m b i K : Nat) (out : List ByteArray), b ≤ i → i + m = s.size → out.length + m + 1 < 8796093022208 → (m + 1) * (a.size + 3) + 1 ≤ K → shackleref14_cut.l0 K s a out b i = some (out ++ cutS (isIn a a.size 0) s m b i)
  | 0, b, i, K, out, hb, hm, hl, hK => by
    obtain ⟨K, rfl⟩ : ∃ q, K = q + 3 := ⟨K - 3, by omega⟩
    rw [shackleref14_cut.l0, if_pos (by omega), show (((i : Nat) : Int) == (s.size : Int)) = true from beq_iff_eq.mpr (by omega)]
    have := ref_app s a out b i hb (by omega) (by omega) hs (K + 1) 0
    rw [show K + 2 = (K + 1) + 1 from rfl, this, shackleref14_cut.l0, if_neg (by omega), cutS]
    rw [show i = s.size from by omega]
  | m + 1, b, i, K, out, hb, hm, hl, hK => by
    obtain ⟨K, rfl⟩ : ∃ q, K = q + 1 := ⟨K - 1, by omega⟩
    have e1 : (m + 1 + 1) * (a.size + 3) = (m + 1) * (a.size + 3) + (a.size + 3) := Nat.succ_mul _ _
    rw [shackleref14_cut.l0, if_pos (by omega), show (((i : Nat) : Int) == (s.size : Int)) = false from beq_eq_false_iff_ne.mpr (by omega)]
    obtain ⟨K', g1, g2⟩ := ref_in s a out b i hb (by omega) (by omega) hs ha a.size 0 K (by omega) (by omega)
    rw [show (0 : Int) = ((0 : Nat) : Int) from rfl, g2, cutS, if_pos (show i < s.size from by omega)]
    by_cases c : isIn a a.size 0 (bt s i) = true
    · rw [if_pos c, if_pos c, ref_out s a hs ha m (i + 1) (i + 1) K' (out ++ [s.extract b i]) (Nat.le_refl _) (by omega) (by rw [List.length_append]; simp only [List.length_cons, List.length_nil]; omega) (by omega), List.append_assoc]
      rfl
    · rw [if_neg c, if_neg c]
      exact ref_out s a hs ha m b (i + 1) K' out (by omega) (by omega) (by omega) (by omega)
def qOf (p : Nat → Bool) : Int → Bool := fun x => p x.toNat
theorem cutS_fi (p : Nat → Bool) (s : ByteArray) : ∀ (m b i : Nat), i + m = s.size →
    (fi p s m i = -1 ∧ cutS (qOf p) s m b i = [s.extract b s.size]) ∨ ∃ j, i ≤ j ∧ j < s.size ∧ fi p s m i = (j : Int) ∧ cutS (qOf p) s m b i = s.extract b j :: cutS (qOf p) s (s.size - (j + 1)) (j + 1) (j + 1)
  | 0, b, i, h => .inl ⟨rfl, rfl⟩
  | m + 1, b, i, h => by
    rw [fi, cutS, if_pos (show i < s.size from by omega), if_pos (show i < s.size from by omega)]
    by_cases c : p (bt s i).toNat = true
    · refine .inr ⟨i, Nat.le_refl _, by omega, if_pos c, ?_⟩
      rw [if_pos (show qOf p (bt s i) = true from c), show s.size - (i + 1) = m from by omega]
    · rw [if_neg c, if_neg (show ¬ qOf p (bt s i) = true from c)]
      rcases cutS_fi p s m b (i + 1) (by omega) with h1 | ⟨j, h1, h2, h3, h4⟩
      · exact .inl h1
      · exact .inr ⟨j, by omega, h2, h3, h4⟩
theorem bt_cut (s : ByteArray) (c j : Nat) (h : c + j < s.size) : bt (s.extract c s.size) j = bt s ((c + j : Nat) : Int) := by
  unfold bt
  rw [dif_pos (by rw [ByteArray.size_extract, Int.toNat_natCast]; omega), dif_pos (by rw [Int.toNat_natCast]; omega)]
  simp only [Int.toNat_natCast]
  rw [ByteArray.getElem_extract]
theorem ext_cut (s : ByteArray) (c i j : Nat) (h : c + j ≤ s.size) : (s.extract c s.size).extract i j = s.extract (c + i) (c + j) := by
  apply ByteArray.ext
  rw [ByteArray.data_extract, ByteArray.data_extract, ByteArray.data_extract, Array.extract_extract]
  congr 1
  have : s.data.size = s.size := rfl
  omega
theorem cutS_shift (q : Int → Bool) (s : ByteArray) (c : Nat) (hc : c ≤ s.size) : ∀ (m b i : Nat), c + i + m = s.size → b ≤ i → cutS q (s.extract c s.size) m b i = cutS q s m (c + b) (c + i)
  | 0, b, i, h, hb => by
    rw [cutS, cutS, ByteArray.size_extract, ext_cut s c b _ (by omega), show c + (min s.size s.size - c) = s.size from by omega]
  | m + 1, b, i, h, hb => by
    rw [cutS, cutS, if_pos (show i < (s.extract c s.size).size from by rw [ByteArray.size_extract]; omega), if_pos (show c + i < s.size from by omega), bt_cut s c i (by omega), ext_cut s c b i (by omega), cutS_shift q s c hc m (i + 1) (i + 1) (by omega) (Nat.le_refl _), cutS_shift q s c hc m b (i + 1) (by omega) (by omega)]
    rfl
theorem ext_all (b : ByteArray) : b.extract 0 b.size = b := by
  apply ByteArray.ext
  rw [ByteArray.data_extract]
  exact Array.extract_size
theorem split_cut (p : Nat → Bool) (hp : ∀ r, 128 ≤ r → p r = false) (s : ByteArray) (_ : s.size < 4611686018427387904) : ∀ (n c K : Nat) (out : List ByteArray), c ≤ s.size → s.size - c ≤ n → n + 1 ≤ K → out.length + n + 1 < 8796093022208 → search_split.l0 p K (s.extract c s.size) out = some (out ++ cutS (qOf p) s (s.size - c) c c) := by
  intro n
  induction n with
  | zero | succ n ih =>
    intro c K out hc hn hK hl
    obtain ⟨K, rfl⟩ : ∃ q, K = q + 1 := ⟨K - 1, by omega⟩
    have hz : (s.extract c s.size).size = s.size - c := by rw [ByteArray.size_extract]; omega
    have hi : Go.Lib.idxFunc p true (s.extract c s.size) = fi p (s.extract c s.size) (s.size - c) 0 := by
      unfold Go.Lib.idxFunc
      exact idx_fi p hp _ _ _ _ (by omega) (by omega)
    have hsh := cutS_shift (qOf p) s c hc (s.size - c) 0 0 (by omega) (Nat.le_refl _)
    rw [Nat.add_zero] at hsh
    rw [← hsh, search_split.l0, hi]
    rcases cutS_fi p (s.extract c s.size) (s.size - c) 0 0 (by omega) with ⟨h1, h2⟩ | ⟨j, h0, h1, h2, h3⟩
    · rw [h1, if_pos (by decide), if_pos (by omega), h2, ext_all]
    · first
      | omega
      | (rw [h2, if_neg (by omega), if_pos (by omega), w64 (by omega) (by omega), if_pos (by omega), if_pos (by omega), if_pos (by omega), h3, Int.toNat_natCast, show (((j : Int) + 1)).toNat = j + 1 from by omega, hz, ← hz, ext_cut s c (j + 1) _ (by omega), show c + (s.extract c s.size).size = s.size from by omega]
         rw [show c + (j + 1) = c + j + 1 from by omega, ih (c + j + 1) K _ (by omega) (by omega) (by omega) (by rw [List.length_append]; simp only [List.length_cons, List.length_nil]; omega), List.append_assoc]
         rw [cutS_shift (qOf p) s c hc _ (j + 1) (j + 1) (by omega) (Nat.le_refl _), show c + (j + 1) = c + j + 1 from by omega, show (s.extract c s.size).size - (j + 1) = s.size - (c + j + 1) from by omega]
         rfl)
theorem begins_is (a b : ByteArray) : shackleref14_begins.f a b = stringslite_HasPrefix.f a b := rfl
theorem goes_is (a : Int) : shackleref14_goes.f a = search_wordy.f a := rfl
def nm : Nat → ByteArray
  | 0 => ⟨#[79, 82, 73, 71, 73, 78]⟩
  | 1 => ⟨#[76, 73, 66]⟩
  | _ => ⟨#[80, 76, 65, 84, 70, 79, 82, 77]⟩
def names : List ByteArray := [(⟨#[79, 82, 73, 71, 73, 78]⟩ : ByteArray), ⟨#[76, 73, 66]⟩, ⟨#[80, 76, 65, 84, 70, 79, 82, 77]⟩]
def hpB (x p : ByteArray) : Bool := if x.size ≥ p.size then (x.extract 0 p.size).toList == p.toList else false
theorem hp_is (x p : ByteArray) : stringslite_HasPrefix.f x p = some (hpB x p) := by
  unfold stringslite_HasPrefix.f hpB
  by_cases c : x.size ≥ p.size
  · rw [if_pos (by omega), if_pos (by omega), if_pos (by omega), if_pos c, Int.toNat_natCast]
  · rw [if_neg (by omega), if_neg c]
theorem hp_is' (x p : ByteArray) : strings_HasPrefix.f x p = some (hpB x p) := by unfold strings_HasPrefix.f; rw [hp_is]; rfl
theorem hp_le {x p : ByteArray} (h : hpB x p = true) : p.size ≤ x.size := by
  unfold hpB at h
  split at h
  · omega
  · cases h
def wordyB (x : Int) : Bool := (search_wordy.f x).getD false
theorem wordy_is (x : Int) : search_wordy.f x = some (wordyB x) := by
  unfold wordyB search_wordy.f
  repeat' split
  all_goals rfl
def brd (j : Nat) : ByteArray := ((⟨#[123]⟩ : ByteArray) ++ nm j) ++ (⟨#[125]⟩ : ByteArray)
def plainB (x : ByteArray) (j : Nat) : Bool := hpB x (nm j) && ((x.size == (nm j).size) || !wordyB (bt x ((nm j).size : Int)))
/-- Which name a text begins with behind its dollar, and its length there. -/
def tokS (x : ByteArray) : Nat → Nat → Option (Nat × Nat)
  | 0, _ => none
  | m + 1, j => if hpB x (brd j) = true then some (j, (nm j).size + 2) else if plainB x j = true then some (j, (nm j).size) else tokS x m (j + 1)
theorem rd_nm (j : Nat) (h : j < 3) : rdOf ByteArray.empty names (j : Int) = nm j := by
  rcases (show j = 0 ∨ j = 1 ∨ j = 2 by omega) with e | e | e <;> subst e <;> rfl
theorem nm_size (j : Nat) : (nm j).size ≤ 8 := by
  rcases j with _ | _ | j
  · decide
  · decide
  · show (nm 2).size ≤ 8
    decide
theorem brd_size (j : Nat) : (brd j).size = (nm j).size + 2 := by
  unfold brd
  rw [ByteArray.size_append, ByteArray.size_append]
  show 1 + (nm j).size + 1 = _
  omega
def tokV : Option (Nat × Nat) → ByteArray × Int
  | none => (⟨#[]⟩, 0)
  | some (w, n) => (nm w, (n : Int))
theorem tok_is (x : ByteArray) : ∀ (m j K : Nat), j + m = 3 → m + 1 ≤ K → search_token.l0 K x names 3 j = some (tokV (tokS x m j))
  | 0, j, K, h1, h2 => by
    obtain ⟨K, rfl⟩ : ∃ q, K = q + 1 := ⟨K - 1, by omega⟩
    rw [search_token.l0, if_neg (by omega)]
    rfl
  | m + 1, j, K, h1, h2 => by
    obtain ⟨K, rfl⟩ : ∃ q, K = q + 1 := ⟨K - 1, by omega⟩
    have hn := nm_size j
    rw [search_token.l0, if_pos (by omega), if_pos (by omega), if_pos (show (j : Int) < (names.length : Int) from by show (j : Int) < 3; omega), rd_nm j (by omega), if_pos (by omega), if_pos (by rw [ByteArray.size_append]; show 1 + (nm j).size + 1 ≤ _; omega), hp_is', hp_is', Option.bind_some, Option.bind_some, tokS]
    rw [show ((⟨#[123]⟩ : ByteArray) ++ nm j) ++ (⟨#[125]⟩ : ByteArray) = brd j from rfl]
    have ih := tok_is x m (j + 1) K (by omega) (by omega)
    rw [show ((j + 1 : Nat) : Int) = (j : Int) + 1 from by omega, ← w64 (n := (j : Int) + 1) (by omega) (by omega)] at ih
    by_cases c1 : hpB x (brd j) = true
    · rw [if_pos c1, if_pos c1, w64 (by omega) (by omega)]
      rfl
    · rw [if_neg c1, if_neg c1]
      unfold plainB
      by_cases c2 : hpB x (nm j) = true
      · have hle := hp_le c2
        rw [if_pos c2, c2, Bool.true_and]
        by_cases c3 : x.size = (nm j).size
        · rw [if_pos (by omega), show (x.size == (nm j).size) = true from beq_iff_eq.mpr c3, Bool.true_or, if_pos rfl]
          rfl
        · rw [if_neg (by omega), show (x.size == (nm j).size) = false from beq_eq_false_iff_ne.mpr c3, Bool.false_or, if_pos (by omega), if_pos (by omega), wordy_is, Option.bind_some]
          cases hw : wordyB (bt x ((nm j).size : Int)) with
          | true => rw [if_pos rfl, Bool.not_true, if_neg (by decide)]; exact ih
          | false => rw [if_neg (by decide), Bool.not_false, if_pos rfl]; rfl
      · rw [if_neg c2, Bool.eq_false_iff.mpr c2, Bool.false_and, if_neg (by decide)]
        exact ih
/-- Behind the names: the byte itself, or the text that was found. -/
theorem ref_fin (s : ByteArray) (out : List Int) (has : Bool) (T : List ByteArray) (i : Nat) (hi : i < s.size) (hs : s.size < 4611686018427387904) (hl : out.length + 1 < 140737488355328) (K : Nat) :
    shackleref14_Expand.j2 (K + 1) s out has names T i 0 0 3 false = shackleref14_Expand.l0 K s (out ++ [bt s i]) has names T ((i + 1 : Nat) : Int) := by
  rw [shackleref14_Expand.j2, if_neg (by decide), if_pos rfl, if_pos (by omega), if_pos (by omega), if_pos (by omega), w64 (by omega) (by omega)]
  rfl
theorem ref_hit (s : ByteArray) (out : List Int) (has : Bool) (T : List ByteArray) (i : Nat) (hi : i < s.size) (hs : s.size < 4611686018427387904) (w n : Nat) (hT : w < T.length) (hn : n < 100) (hl : out.length + (rdOf ByteArray.empty T w).size < 140737488355328) (K : Nat) (j : Int) :
    shackleref14_Expand.j2 (K + 1) s out has names T i ((n + 1 : Nat) : Int) w j false = shackleref14_Expand.l0 K s (out ++ bytesOf (rdOf ByteArray.empty T w)) (has || (w == 0)) names T ((i + (n + 1) : Nat) : Int) := by
  rw [shackleref14_Expand.j2, if_neg (by decide), if_neg (by omega), if_pos (by omega), if_pos (by omega), if_pos hl, Option.bind_some, w64 (by omega) (by omega)]
  cases has with
  | true => rw [if_pos rfl, Bool.true_or]; rfl
  | false =>
    rw [if_neg (by decide), Bool.false_or]
    rw [show ((w : Int) == 0) = (w == 0) from by rcases w with _ | w <;> rfl]
    rfl
/-- From a hit on: the loop over the names ends, and the text goes in. -/
theorem ref_out2 (s : ByteArray) (out : List Int) (has : Bool) (T : List ByteArray) (i : Nat) (hi : i < s.size) (hs : s.size < 4611686018427387904) (hd : bt s i = 36) (w n : Nat) (hT : w < T.length) (hn : n < 100) (hl : out.length + (rdOf ByteArray.empty T w).size < 140737488355328) (K : Nat) (j : Int) :
    shackleref14_Expand.l1 (K + 2) s out has names T i ((n + 1 : Nat) : Int) w j = shackleref14_Expand.l0 K s (out ++ bytesOf (rdOf ByteArray.empty T w)) (has || (w == 0)) names T ((i + (n + 1) : Nat) : Int) := by
  rw [show K + 2 = (K + 1) + 1 from rfl, shackleref14_Expand.l1]
  by_cases c : j < 3
  · rw [if_pos c, if_pos (by omega), if_pos (by omega), if_pos hd, show (((n + 1 : Nat) : Int) == 0) = false from beq_eq_false_iff_ne.mpr (by omega)]
    exact ref_hit s out has T i hi hs w n hT hn hl K j
  · rw [if_neg c]
    exact ref_hit s out has T i hi hs w n hT hn hl K j
def refV (s : ByteArray) (out : List Int) (has : Bool) (T : List ByteArray) (i K : Nat) : Option (Nat × Nat) → Option (ByteArray × Bool)
  | none => shackleref14_Expand.l0 K s (out ++ [bt s i]) has names T ((i + 1 : Nat) : Int)
  | some (w, n) => shackleref14_Expand.l0 K s (out ++ bytesOf (rdOf ByteArray.empty T w)) (has || (w == 0)) names T ((i + (n + 1) : Nat) : Int)
theorem ref_tok (s : ByteArray) (out : List Int) (has : Bool) (T : List ByteArray) (i : Nat) (hi : i < s.size) (hs : s.size < 4611686018427387904) (hd : bt s i = 36) (hT : T.length = 3) (hl : ∀ w, w < 3 → out.length + (rdOf ByteArray.empty T w).size + 1 < 140737488355328) : ∀ (m j K : Nat), j + m = 3 → 2 * m + 6 ≤ K → ∃ K', K ≤ K' + 2 * m + 4 ∧ shackleref14_Expand.l1 K s out has names T i 0 0 j = refV s out has T i K' (tokS (s.extract (i + 1) s.size) m j)
  | 0, j, K, h1, h2 => by
    obtain ⟨K, rfl⟩ : ∃ q, K = q + 2 := ⟨K - 2, by omega⟩
    refine ⟨K, by omega, ?_⟩
    have := hl 0 (by omega)
    rw [show K + 2 = (K + 1) + 1 from rfl, shackleref14_Expand.l1, if_neg (by omega), show (j : Int) = 3 from by omega]
    exact ref_fin s out has T i hi hs (by omega) K
  | m + 1, j, K, h1, h2 => by
    obtain ⟨K, rfl⟩ : ∃ q, K = q + 2 := ⟨K - 2, by omega⟩
    have hn := nm_size j
    have hlj := hl j (by omega)
    have hrs : (s.extract (i + 1) s.size).size = s.size - (i + 1) := by rw [ByteArray.size_extract]; omega
    obtain ⟨K', g1, ih⟩ := ref_tok s out has T i hi hs hd hT hl m (j + 1) K (by omega) (by omega)
    rw [show ((j + 1 : Nat) : Int) = (j : Int) + 1 from by omega, ← w64 (n := (j : Int) + 1) (by omega) (by omega)] at ih
    rw [show K + 2 = (K + 1) + 1 from rfl, shackleref14_Expand.l1, if_pos (by omega), if_pos (by omega), if_pos (by omega), if_pos hd, show ((0 : Int) == 0) = true from rfl]
    rw [shackleref14_Expand.j2, if_pos rfl, w64 (n := (i : Int) + 1) (by omega) (by omega), if_pos (by omega), if_pos (by omega), if_pos (by omega), if_pos (show (j : Int) < (names.length : Int) from by show (j : Int) < 3; omega), rd_nm j (by omega), if_pos (by omega), if_pos (by rw [ByteArray.size_append]; show 1 + (nm j).size + 1 ≤ _; omega), show (((i : Int) + 1)).toNat = i + 1 from by omega]
    rw [begins_is, begins_is, hp_is, hp_is, Option.bind_some, Option.bind_some, tokS, show ((⟨#[123]⟩ : ByteArray) ++ nm j) ++ (⟨#[125]⟩ : ByteArray) = brd j from rfl]
    obtain ⟨K2, rfl⟩ : ∃ q, K = q + 2 := ⟨K - 2, by omega⟩
    by_cases c1 : hpB (s.extract (i + 1) s.size) (brd j) = true
    · refine ⟨K2, by omega, ?_⟩
      rw [if_pos c1, if_pos c1, w64 (by omega) (by omega), show ((nm j).size : Int) + 3 = (((nm j).size + 2 + 1 : Nat) : Int) from by omega]
      exact ref_out2 s out has T i hi hs hd j ((nm j).size + 2) (by omega) (by omega) (by omega) K2 _
    · rw [if_neg c1, if_neg c1]
      unfold plainB
      have hit : shackleref14_Expand.l1 (K2 + 2) s out has names T i (wrap64 (((nm j).size : Int) + 1)) j (wrap64 ((j : Int) + 1)) = refV s out has T i K2 (some (j, (nm j).size)) := by
        rw [w64 (n := ((nm j).size : Int) + 1) (by omega) (by omega), show ((nm j).size : Int) + 1 = (((nm j).size + 1 : Nat) : Int) from by omega]
        exact ref_out2 s out has T i hi hs hd j ((nm j).size) (by omega) (by omega) (by omega) K2 _
      by_cases c2 : hpB (s.extract (i + 1) s.size) (nm j) = true
      · have hle := hp_le c2
        rw [if_pos c2, c2, Bool.true_and]
        by_cases c3 : (s.extract (i + 1) s.size).size = (nm j).size
        · refine ⟨K2, by omega, ?_⟩
          rw [if_pos (by omega), show ((s.extract (i + 1) s.size).size == (nm j).size) = true from beq_iff_eq.mpr c3, Bool.true_or, if_pos rfl]
          exact hit
        · rw [if_neg (by omega), show ((s.extract (i + 1) s.size).size == (nm j).size) = false from beq_eq_false_iff_ne.mpr c3, Bool.false_or, if_pos (by omega), if_pos (by omega), goes_is, wordy_is, Option.bind_some]
          cases hw : wordyB (bt (s.extract (i + 1) s.size) ((nm j).size : Int)) with
          | true => exact ⟨K', by omega, by rw [if_pos rfl, Bool.not_true, if_neg (by decide)]; exact ih⟩
          | false => exact ⟨K2, by omega, by rw [if_neg (by decide), Bool.not_false, if_pos rfl]; exact hit⟩
      · rw [if_neg c2, Bool.eq_false_iff.mpr c2, Bool.false_and, if_neg (by decide)]
        exact ⟨K', by omega, ih⟩
/-- From some rounds on. -/
def Ev {α : Type} (F : Nat → Option α) (r : α) : Prop := ∃ k0, ∀ k, k0 ≤ k → F k = some r
theorem Ev.step {α : Type} {F G : Nat → Option α} {r : α} (h : Ev G r) (e : ∀ k, F (k + 1) = G k) : Ev F r := by
  obtain ⟨k0, h⟩ := h
  refine ⟨k0 + 1, fun k hk => ?_⟩
  obtain ⟨k, rfl⟩ : ∃ q, k = q + 1 := ⟨k - 1, by omega⟩
  rw [e]
  exact h k (by omega)
theorem Ev.same {α : Type} {F G : Nat → Option α} {r : α} (h : Ev G r) (e : ∀ k, F k = G k) : Ev F r := by
  obtain ⟨k0, h⟩ := h
  exact ⟨k0, fun k hk => (e k).trans (h k hk)⟩
theorem Ev.bind {α β : Type} {F : Nat → Option α} {G : Nat → α → Option β} {a : α} {b : β} (h1 : Ev F a) (h2 : Ev (fun k => G k a) b) : Ev (fun k => (F k).bind (G k)) b := by
  obtain ⟨k1, h1⟩ := h1
  obtain ⟨k2, h2⟩ := h2
  refine ⟨k1 + k2, fun k hk => ?_⟩
  show (F k).bind (G k) = some b
  rw [h1 k (by omega), Option.bind_some]
  exact h2 k (by omega)
theorem Ev.pure {α : Type} (r : α) : Ev (fun _ => some r) r := ⟨0, fun _ _ => rfl⟩
theorem Ev.now {α : Type} {F : Nat → Option α} {r : α} (e : ∀ k, F (k + 1) = some r) : Ev F r := Ev.step (Ev.pure r) e
theorem Ev.one {α : Type} {F : Nat → Option α} {r : α} (m : ∀ k, LeO (F k) (F (k + 1))) (k0 : Nat) (e : F k0 = some r) : Ev F r := by
  refine ⟨k0, fun k hk => ?_⟩
  obtain ⟨d, rfl⟩ : ∃ d, k = k0 + d := ⟨k - k0, by omega⟩
  clear hk
  induction d with
  | zero => exact e
  | succ d ih => exact m (k0 + d) r ih
def lastS (s : ByteArray) : Nat → Int
  | 0 => -1
  | n + 1 => if bt s n = 47 then (n : Int) else lastS s n
theorem lastS_lt (s : ByteArray) : ∀ n, -1 ≤ lastS s n ∧ lastS s n < n
  | 0 => by unfold lastS; omega
  | n + 1 => by
    have := lastS_lt s n
    unfold lastS
    split <;> omega
theorem w64m (n : Nat) (h : n < 9223372036854775808) : wrap64 ((n : Int) - 1) = (n : Int) - 1 := by unfold wrap64; omega
theorem last_is (s : ByteArray) (hs : s.size < 4611686018427387904) : ∀ n, n ≤ s.size → Ev (fun k => bytealg_LastIndexByteString.l0 k s 47 ((n : Int) - 1)) (lastS s n)
  | 0, _ => Ev.now fun k => by rw [bytealg_LastIndexByteString.l0, if_neg (by omega)]; rfl
  | n + 1, h => by
    have ih := last_is s hs n (by omega)
    refine Ev.step (G := fun k => if bt s n = 47 then some (n : Int) else bytealg_LastIndexByteString.l0 k s 47 ((n : Int) - 1)) ?_ fun k => ?_
    · rw [lastS]
      by_cases c : bt s n = 47
      · exact (Ev.pure _).same fun k => by rw [if_pos c, if_pos c]
      · rw [if_neg c]
        exact ih.same fun k => if_neg c
    · rw [show (((n + 1 : Nat) : Int) - 1) = (n : Int) from by omega, bytealg_LastIndexByteString.l0, if_pos (by omega), if_pos (by omega), if_pos (by omega), w64m n (by omega)]
def dirV (s : ByteArray) (t : Int) : ByteArray := if t = (-1) then (⟨#[]⟩ : ByteArray) else (if t = 0 then (⟨#[47]⟩ : ByteArray) else s.extract 0 t.toNat)
def dirS (s : ByteArray) : ByteArray := dirV s (lastS s s.size)
theorem dirS_size (s : ByteArray) : (dirS s).size ≤ s.size + 1 := by
  unfold dirS dirV
  have := lastS_lt s s.size
  split
  · show 0 ≤ _
    omega
  · split
    · show 1 ≤ _
      omega
    · rw [ByteArray.size_extract]
      omega
theorem dir_mine (s : ByteArray) (hs : s.size < 4611686018427387904) : Ev (fun k => search_dir.f k s) (dirS s) := by
  unfold search_dir.f strings_LastIndexByte.f bytealg_LastIndexByteString.f
  have h := last_is s hs s.size (Nat.le_refl _)
  rw [← w64m s.size (by omega)] at h
  have := lastS_lt s s.size
  refine Ev.bind (Ev.bind h (Ev.pure _)) ((Ev.pure _).same fun k => ?_)
  unfold dirS dirV
  split
  · rfl
  · split
    · rfl
    · rw [if_pos (by omega), if_pos (by omega)]
theorem dir_ref (s : ByteArray) (hs : s.size < 4611686018427387904) : ∀ m i, i + m = s.size → Ev (fun k => shackleref14_Dir.l0 k s (lastS s i) i) (dirS s)
  | 0, i, h => Ev.now fun k => by
    have := lastS_lt s i
    rw [shackleref14_Dir.l0, if_neg (by omega)]
    unfold dirS dirV
    rw [show s.size = i from by omega]
    split
    · rfl
    · split
      · rfl
      · rw [if_pos (by omega), if_pos (by omega)]
  | m + 1, i, h => by
    have ih := dir_ref s hs m (i + 1) (by omega)
    refine Ev.step ih fun k => ?_
    rw [shackleref14_Dir.l0, if_pos (by omega), if_pos (by omega), w64 (by omega) (by omega), lastS, show ((i : Int) + 1) = ((i + 1 : Nat) : Int) from by omega]
    split <;> rfl
theorem dir_ref' (s : ByteArray) (hs : s.size < 4611686018427387904) : Ev (fun k => shackleref14_Dir.f k s) (dirS s) := dir_ref s hs s.size 0 (by omega)
def texts (o : ByteArray) : List ByteArray := [dirS o, (⟨#[108, 105, 98, 54, 52]⟩ : ByteArray), (⟨#[120, 56, 54, 95, 54, 52]⟩ : ByteArray)]
def tx (o : ByteArray) (w : Nat) : ByteArray := rdOf ByteArray.empty (texts o) (w : Int)
theorem tx_size (o : ByteArray) (w : Nat) : (tx o w).size ≤ o.size + 6 := by
  have := dirS_size o
  rcases w with _ | _ | _ | w
  · show (dirS o).size ≤ _
    omega
  · show 5 ≤ _
    omega
  · show 6 ≤ _
    omega
  · show (rdOf ByteArray.empty (texts o) ((w + 3 : Nat) : Int)).size ≤ _
    unfold rdOf texts
    rw [Int.toNat_natCast]
    show 0 ≤ _
    omega
def expS (s o : ByteArray) : Nat → Nat → ByteArray → Bool → ByteArray × Bool
  | 0, _, out, has => (out, has)
  | m + 1, i, out, has => if i < s.size then (if bt s i = 36 then (match tokS (s.extract (i + 1) s.size) 3 0 with | none => expS s o m (i + 1) (out ++ (⟨#[36]⟩ : ByteArray)) has | some (w, n) => expS s o m (i + (n + 1)) (out ++ tx o w) (has || (w == 0))) else expS s o m (i + 1) (out ++ s.extract i (i + 1)) has) else (out, has)
theorem tokS_lt (x : ByteArray) : ∀ (m j w n : Nat), j + m ≤ 3 → tokS x m j = some (w, n) → w < 3 ∧ n ≤ 10
  | 0, j, w, n, _, h => by cases h
  | m + 1, j, w, n, hj, h => by
    have := nm_size j
    rw [tokS] at h
    split at h
    · cases h; omega
    · split at h
      · cases h; omega
      · exact tokS_lt x m (j + 1) w n (by omega) h
theorem tok_f (x : ByteArray) (k : Nat) (hk : 4 ≤ k) : search_token.f k x = some (tokV (tokS x 3 0)) := tok_is x 3 0 k (by omega) (by omega)
theorem expS_end (s o : ByteArray) (m i : Nat) (out : ByteArray) (has : Bool) (h : ¬ i < s.size) : expS s o m i out has = (out, has) := by cases m <;> simp [expS, h]
theorem ex_step (s o : ByteArray) (k : Nat) (out : ByteArray) (has : Bool) (i : Nat) (hi : i < s.size) (hs : s.size < 4611686018427387904) (hd : bt s i = 36) (t1 : ByteArray) (t2 : Int) (ht : search_token.f k (s.extract (i + 1) s.size) = some (t1, t2)) :
    search_Expand.l0 (k + 1) s o out has i = (if t1.toList = ([79, 82, 73, 71, 73, 78] : List UInt8) then ((search_dir.f k o).bind fun d => (if out.size + d.size < 140737488355328 then search_Expand.l0 k s o (out ++ d) true (wrap64 ((wrap64 ((i : Int) + t2)) + 1)) else (none))) else (if t1.toList = ([76, 73, 66] : List UInt8) then (if out.size + 5 < 140737488355328 then search_Expand.l0 k s o (out ++ (⟨#[108, 105, 98, 54, 52]⟩ : ByteArray)) has (wrap64 ((wrap64 ((i : Int) + t2)) + 1)) else (none)) else (if t1.toList = ([80, 76, 65, 84, 70, 79, 82, 77] : List UInt8) then (if out.size + 6 < 140737488355328 then search_Expand.l0 k s o (out ++ (⟨#[120, 56, 54, 95, 54, 52]⟩ : ByteArray)) has (wrap64 ((wrap64 ((i : Int) + t2)) + 1)) else (none)) else (if out.size < 140737488355328 then search_Expand.l0 k s o (out ++ (⟨#[36]⟩ : ByteArray)) has (wrap64 ((wrap64 ((i : Int) + t2)) + 1)) else (none))))) := by
  rw [search_Expand.l0, if_pos (by omega), if_pos (by omega), if_pos hd, w64 (by omega) (by omega), if_pos (by omega), if_pos (by omega), show (((i : Int) + 1)).toNat = i + 1 from by omega, ht, Option.bind_some]
theorem exp_mine (s o : ByteArray) (hs : s.size < 4611686018427387904) (ho : o.size < 4611686018427387904) : ∀ (m i : Nat) (out : ByteArray) (has : Bool), s.size ≤ i + m → out.size + m * (o.size + 8) < 140737488355328 → Ev (fun k => search_Expand.l0 k s o out has i) (expS s o m i out has)
  | 0, i, out, has, h, hb => Ev.now fun k => by rw [search_Expand.l0, if_neg (by omega)]; rfl
  | m + 1, i, out, has, h, hb => by
    rw [Nat.succ_mul] at hb
    by_cases c : i < s.size
    · by_cases d : bt s i = 36
      · have ht := tok_f (s.extract (i + 1) s.size)
        rw [expS, if_pos c, if_pos d]
        rcases htk : tokS (s.extract (i + 1) s.size) 3 0 with _ | ⟨w, n⟩
        · rw [htk] at ht
          obtain ⟨k1, ih⟩ := exp_mine s o hs ho m (i + 1) (out ++ (⟨#[36]⟩ : ByteArray)) has (by omega) (by rw [ByteArray.size_append]; show out.size + 1 + _ < _; omega)
          refine ⟨k1 + 5, fun k hk => ?_⟩
          obtain ⟨k, rfl⟩ : ∃ q, k = q + 1 := ⟨k - 1, by omega⟩
          show search_Expand.l0 (k + 1) s o out has i = _
          rw [ex_step s o k out has i c hs d _ _ (ht k (by omega)), if_neg (by decide +kernel), if_neg (by decide +kernel), if_neg (by decide +kernel), if_pos (by omega)]
          rw [show wrap64 (wrap64 ((i : Int) + 0) + 1) = ((i + 1 : Nat) : Int) from by rw [w64 (n := (i : Int) + 0) (by omega) (by omega), w64 (by omega) (by omega)]; omega]
          exact ih k (by omega)
        · rw [htk] at ht
          obtain ⟨hw, hn⟩ := tokS_lt _ _ _ _ _ (by omega) htk
          have hx := tx_size o w
          obtain ⟨k1, ih⟩ := exp_mine s o hs ho m (i + (n + 1)) (out ++ tx o w) (has || (w == 0)) (by omega) (by rw [ByteArray.size_append]; omega)
          obtain ⟨k2, hdir⟩ := dir_mine o ho
          refine ⟨k1 + k2 + 5, fun k hk => ?_⟩
          obtain ⟨k, rfl⟩ : ∃ q, k = q + 1 := ⟨k - 1, by omega⟩
          show search_Expand.l0 (k + 1) s o out has i = _
          have hh : search_Expand.l0 k s o (out ++ tx o w) (has || (w == 0)) ((i + (n + 1) : Nat) : Int) = some (expS s o m (i + (n + 1)) (out ++ tx o w) (has || (w == 0))) := ih k (by omega)
          have hdir : search_dir.f k o = some (dirS o) := hdir k (by omega)
          have hwr : wrap64 (wrap64 ((i : Int) + (n : Int)) + 1) = ((i + (n + 1) : Nat) : Int) := by rw [w64 (n := (i : Int) + (n : Int)) (by omega) (by omega), w64 (by omega) (by omega)]; omega
          rw [ex_step s o k out has i c hs d _ _ (ht k (by omega)), hwr]
          rcases (show w = 0 ∨ w = 1 ∨ w = 2 by omega) with e | e | e <;> subst e
          · rw [if_pos (by decide +kernel), hdir, Option.bind_some, if_pos (by have e : (tx o 0).size = (dirS o).size := rfl; omega)]
            show _ = some (expS s o m (i + (n + 1)) (out ++ tx o 0) (has || ((0 : Nat) == 0)))
            rw [show (has || ((0 : Nat) == 0)) = true from Bool.or_true has] at hh ⊢
            exact hh
          · rw [if_neg (by decide +kernel), if_pos (by decide +kernel), if_pos (by omega)]
            show _ = some (expS s o m (i + (n + 1)) (out ++ tx o 1) (has || ((1 : Nat) == 0)))
            rw [show (has || ((1 : Nat) == 0)) = has from Bool.or_false has] at hh ⊢
            exact hh
          · rw [if_neg (by decide +kernel), if_neg (by decide +kernel), if_pos (by decide +kernel), if_pos (by omega)]
            show _ = some (expS s o m (i + (n + 1)) (out ++ tx o 2) (has || ((2 : Nat) == 0)))
            rw [show (has || ((2 : Nat) == 0)) = has from Bool.or_false has] at hh ⊢
            exact hh
      · have ih := exp_mine s o hs ho m (i + 1) (out ++ s.extract i (i + 1)) has (by omega) (by rw [ByteArray.size_append, ByteArray.size_extract]; omega)
        rw [expS, if_pos c, if_neg d]
        refine Ev.step ih fun k => ?_
        rw [search_Expand.l0, if_pos (by omega), if_pos (by omega), if_neg d, if_pos (by omega), w64 (by omega) (by omega), Int.toNat_natCast]
        rfl
    · rw [expS_end _ _ _ _ _ _ c]
      exact Ev.now fun k => by rw [search_Expand.l0, if_neg (by omega)]
theorem bytesOf_app (a b : ByteArray) : bytesOf (a ++ b) = bytesOf a ++ bytesOf b := by
  unfold bytesOf
  rw [ByteArray.data_append, Array.toList_append, List.map_append]
theorem bytesOf_one (s : ByteArray) (i : Nat) (h : i < s.size) : bytesOf (s.extract i (i + 1)) = [bt s i] := by
  have hb : bt s i = ((s[i]'h).toNat : Int) := by
    unfold bt
    rw [dif_pos (by rw [Int.toNat_natCast]; exact h)]
    simp only [Int.toNat_natCast]
  have hd : i < s.data.toList.length := by rw [Array.length_toList]; exact h
  have he : (s.extract i (i + 1)).data.toList = (s.data.toList.drop i).take 1 := by
    rw [ByteArray.data_extract, Array.toList_extract, List.extract_eq_take_drop]
    congr 1
    omega
  rw [hb]
  unfold bytesOf
  rw [he, List.drop_eq_getElem_cons hd]
  rfl
theorem strOf_bytes (a : ByteArray) : strOfNums (bytesOf a) = a := by
  apply ByteArray.ext
  apply Array.toList_inj.1
  unfold strOfNums bytesOf
  simp only [List.map_map]
  refine (List.map_congr_left (fun x _ => ?_)).trans (List.map_id _)
  show UInt8.ofNat ((x.toNat : Int)).toNat = id x
  rw [Int.toNat_natCast]
  exact UInt8.ofNat_toNat
theorem exp_ref (s o : ByteArray) (hs : s.size < 4611686018427387904) : ∀ (m i : Nat) (out : ByteArray) (has : Bool), s.size ≤ i + m → out.size + m * (o.size + 8) + 10 < 140737488355328 → Ev (fun k => shackleref14_Expand.l0 k s (bytesOf out) has names (texts o) i) (expS s o m i out has)
  | 0, i, out, has, h, hb => Ev.now fun k => by rw [shackleref14_Expand.l0, if_neg (by omega), strOf_bytes]; rfl
  | m + 1, i, out, has, h, hb => by
    rw [Nat.succ_mul] at hb
    by_cases c : i < s.size
    · by_cases d : bt s i = 36
      · rw [expS, if_pos c, if_pos d]
        have hl : ∀ w : Int, w < 3 → (bytesOf out).length + (rdOf ByteArray.empty (texts o) w).size + 1 < 140737488355328 := by
          intro w _
          have := tx_size o w.toNat
          unfold tx rdOf at this
          rw [Int.toNat_natCast] at this
          unfold rdOf
          rw [bytesOf_length]
          omega
        have hr := ref_tok s (bytesOf out) has (texts o) i c hs d rfl hl 3 0
        rcases htk : tokS (s.extract (i + 1) s.size) 3 0 with _ | ⟨w, n⟩
        · rw [htk] at hr
          obtain ⟨k1, ih⟩ := exp_ref s o hs m (i + 1) (out ++ (⟨#[36]⟩ : ByteArray)) has (by omega) (by rw [ByteArray.size_append]; show out.size + 1 + _ + _ < _; omega)
          refine ⟨k1 + 20, fun k hk => ?_⟩
          obtain ⟨k, rfl⟩ : ∃ q, k = q + 1 := ⟨k - 1, by omega⟩
          show shackleref14_Expand.l0 (k + 1) s (bytesOf out) has names (texts o) i = _
          obtain ⟨K', g1, g2⟩ := hr k (by omega) (by omega)
          rw [shackleref14_Expand.l0, if_pos (by omega)]
          have hh := ih K' (by omega)
          rw [bytesOf_app] at hh
          rw [show ((0 : Nat) : Int) = 0 from rfl] at g2
          rw [g2]
          show shackleref14_Expand.l0 K' s (bytesOf out ++ [bt s i]) has names (texts o) ((i + 1 : Nat) : Int) = _
          rw [d]
          exact hh
        · rw [htk] at hr
          have hx := tx_size o w
          obtain ⟨k1, ih⟩ := exp_ref s o hs m (i + (n + 1)) (out ++ tx o w) (has || (w == 0)) (by omega) (by rw [ByteArray.size_append]; omega)
          refine ⟨k1 + 20, fun k hk => ?_⟩
          obtain ⟨k, rfl⟩ : ∃ q, k = q + 1 := ⟨k - 1, by omega⟩
          show shackleref14_Expand.l0 (k + 1) s (bytesOf out) has names (texts o) i = _
          obtain ⟨K', g1, g2⟩ := hr k (by omega) (by omega)
          rw [shackleref14_Expand.l0, if_pos (by omega)]
          have hh := ih K' (by omega)
          rw [bytesOf_app] at hh
          rw [show ((0 : Nat) : Int) = 0 from rfl] at g2
          rw [g2]
          exact hh
      · have ih := exp_ref s o hs m (i + 1) (out ++ s.extract i (i + 1)) has (by omega) (by rw [ByteArray.size_append, ByteArray.size_extract]; omega)
        rw [bytesOf_app, bytesOf_one s i c] at ih
        rw [expS, if_pos c, if_neg d]
        refine Ev.step (Ev.step (Ev.step ih (F := fun k => shackleref14_Expand.j2 k s (bytesOf out) has names (texts o) i 0 0 0 false) fun k => ?_) (F := fun k => shackleref14_Expand.l1 k s (bytesOf out) has names (texts o) i 0 0 0) fun k => ?_) fun k => ?_
        · rw [shackleref14_Expand.j2, if_neg (by decide), if_pos rfl, if_pos (by omega), if_pos (by omega), if_pos (by rw [bytesOf_length]; omega), w64 (by omega) (by omega)]
          rfl
        · rw [shackleref14_Expand.l1, if_pos (by decide), if_pos (by omega), if_pos (by omega), if_neg d]
        · rw [shackleref14_Expand.l0, if_pos (by omega)]
    · rw [expS_end _ _ _ _ _ _ c]
      exact Ev.now fun k => by rw [shackleref14_Expand.l0, if_neg (by omega), strOf_bytes]
def exS (s o : ByteArray) : ByteArray × Bool := expS s o s.size 0 (⟨#[]⟩ : ByteArray) false
theorem ex_mine (s o : ByteArray) (hs : s.size ≤ 1048576) (ho : o.size ≤ 1048576) : Ev (fun k => search_Expand.f k s o) (exS s o) := by
  have := Nat.mul_le_mul hs (show o.size + 8 ≤ 1048584 from by omega)
  exact exp_mine s o (by omega) (by omega) s.size 0 _ false (by omega) (by show 0 + _ < _; omega)
theorem ex_ref (s o : ByteArray) (hs : s.size ≤ 1048576) (ho : o.size ≤ 1048576) : Ev (fun k => shackleref14_Expand.f k s o) (exS s o) := by
  have := Nat.mul_le_mul hs (show o.size + 8 ≤ 1048584 from by omega)
  exact Ev.bind (dir_ref' o (by omega)) (exp_ref s o (by omega) s.size 0 (⟨#[]⟩ : ByteArray) false (by omega) (by show 0 + _ + _ < _; omega))
theorem ex_nil (o : ByteArray) : exS (⟨#[]⟩ : ByteArray) o = ((⟨#[]⟩ : ByteArray), false) := rfl
def partsS (q : Int → Bool) (s : ByteArray) : List ByteArray := cutS q s s.size 0 0
theorem cutS_length (q : Int → Bool) (s : ByteArray) : ∀ (m b i : Nat), (cutS q s m b i).length ≤ m + 1
  | 0, b, i => by simp [cutS]
  | m + 1, b, i => by
    have h1 := cutS_length q s m (i + 1) (i + 1)
    have h2 := cutS_length q s m b (i + 1)
    unfold cutS
    split
    · split
      · simp only [List.length_cons]; omega
      · omega
    · simp
theorem cutS_size (q : Int → Bool) (s : ByteArray) : ∀ (m b i : Nat) (p : ByteArray), p ∈ cutS q s m b i → p.size ≤ s.size
  | 0, b, i, p, h => by
    simp only [cutS, List.mem_singleton] at h
    subst h
    rw [ByteArray.size_extract]
    omega
  | m + 1, b, i, p, h => by
    unfold cutS at h
    split at h
    · split at h
      · rcases List.mem_cons.1 h with rfl | h
        · rw [ByteArray.size_extract]; omega
        · exact cutS_size q s m _ _ p h
      · exact cutS_size q s m _ _ p h
    · simp only [List.mem_singleton] at h
      subst h
      rw [ByteArray.size_extract]
      omega
theorem split_is (p : Nat → Bool) (hp : ∀ r, 128 ≤ r → p r = false) (s : ByteArray) (hs : s.size ≤ 1048576) : Ev (fun k => search_split.f k p s) (partsS (qOf p) s) := by
  refine ⟨s.size + 1, fun k hk => ?_⟩
  have := split_cut p hp s (by omega) s.size 0 k [] (by omega) (by omega) hk (by show 0 + _ + 1 < _; omega)
  rw [ext_all] at this
  exact this
theorem cut_is (a s : ByteArray) (hs : s.size ≤ 1048576) (ha : a.size ≤ 100) : Ev (fun k => shackleref14_cut.f k s a) (partsS (isIn a a.size 0) s) := by
  refine ⟨(s.size + 1) * (a.size + 3) + 1, fun k hk => ?_⟩
  exact ref_out s a (by omega) (by omega) s.size 0 0 k [] (Nat.le_refl _) (by omega) (by show 0 + _ + 1 < _; omega) hk
def addS (o : ByteArray) (sec : Bool) (p : ByteArray) (out : List ByteArray) : List ByteArray :=
  if ((exS p o).2 && sec) = true then out else (if Lib.containsS out (search_lay.dir p (exS p o).1) = true then out else out ++ [search_lay.dir p (exS p o).1])
def layS (o : ByteArray) (sec : Bool) : List ByteArray → List ByteArray → List ByteArray
  | [], out => out
  | p :: ps, out => layS o sec ps (addS o sec p out)
theorem addS_length (o : ByteArray) (sec : Bool) (p : ByteArray) (out : List ByteArray) : (addS o sec p out).length ≤ out.length + 1 := by
  unfold addS
  split
  · omega
  · split
    · omega
    · simp
theorem layS_length (o : ByteArray) (sec : Bool) : ∀ (ps out : List ByteArray), (layS o sec ps out).length ≤ out.length + ps.length
  | [], out => by simp [layS]
  | p :: ps, out => by
    have h1 := layS_length o sec ps (addS o sec p out)
    have h2 := addS_length o sec p out
    rw [layS, List.length_cons]
    omega
theorem rd_get (ps : List ByteArray) (i : Nat) (h : i < ps.length) : rdOf ByteArray.empty ps (i : Int) = ps[i] := by
  unfold rdOf
  rw [Int.toNat_natCast, List.getD_eq_getElem?_getD, List.getElem?_eq_getElem h]
  rfl
theorem lay_mine (ps : List ByteArray) (o : ByteArray) (sec : Bool) (ho : o.size ≤ 1048576) (hps : ∀ p ∈ ps, p.size ≤ 1048576) : ∀ (m i : Nat) (out : List ByteArray), i + m = ps.length → out.length + m < 8796093022208 → ps.length < 8796093022208 → Ev (fun k => search_lay.l0 k ps o sec out i) (layS o sec (ps.drop i) out)
  | 0, i, out, h, hl, _ => Ev.now fun k => by
    rw [search_lay.l0, if_neg (by omega), List.drop_of_length_le (by omega)]
    rfl
  | m + 1, i, out, h, hl, hq => by
    have hi : i < ps.length := by omega
    have h2 := addS_length o sec ps[i] out
    have ih := lay_mine ps o sec ho hps m (i + 1) (addS o sec ps[i] out) (by omega) (by omega) hq
    have hx := ex_mine ps[i] o (hps _ (List.getElem_mem hi)) ho
    rw [List.drop_eq_getElem_cons hi, layS]
    refine Ev.step (G := fun k => (search_Expand.f k ps[i] o).bind fun t => (if (t.2 && sec) = true then search_lay.l0 k ps o sec out ((i + 1 : Nat) : Int) else (if Lib.containsS out (search_lay.dir ps[i] t.1) = true then search_lay.l0 k ps o sec out ((i + 1 : Nat) : Int) else search_lay.l0 k ps o sec (out ++ [search_lay.dir ps[i] t.1]) ((i + 1 : Nat) : Int)))) (Ev.bind hx (ih.same fun k => ?_)) fun k => ?_
    · unfold addS
      split
      · rfl
      · split <;> rfl
    · rw [search_lay.l0, if_pos (by omega), if_pos (by omega), rd_get ps i hi, w64 (by omega) (by omega)]
      congr 1
      funext t
      rw [if_pos (show out.length < 8796093022208 from by omega)]
      rfl
def laS (q : Int → Bool) (s o : ByteArray) (sec : Bool) (out : List ByteArray) : List ByteArray := layS o sec (partsS q s) out
theorem laS_length (q : Int → Bool) (s o : ByteArray) (sec : Bool) (out : List ByteArray) : (laS q s o sec out).length ≤ out.length + s.size + 1 := by
  have h1 := layS_length o sec (partsS q s) out
  have h2 : (partsS q s).length ≤ s.size + 1 := cutS_length q s s.size 0 0
  unfold laS
  omega
theorem lay_f (p : Nat → Bool) (hp : ∀ r, 128 ≤ r → p r = false) (s o : ByteArray) (sec : Bool) (out : List ByteArray) (hs : s.size ≤ 1048576) (ho : o.size ≤ 1048576) (hl : out.length + s.size + 1 < 8796093022208) : Ev (fun k => search_lay.f k p s o sec out) (laS (qOf p) s o sec out) := by
  have h2 : (partsS (qOf p) s).length ≤ s.size + 1 := cutS_length _ s s.size 0 0
  exact Ev.bind (split_is p hp s hs) (lay_mine (partsS (qOf p) s) o sec ho (fun x hx => Nat.le_trans (cutS_size _ s s.size 0 0 x hx) hs) (partsS (qOf p) s).length 0 out (by omega) (by omega) (by omega))
/-- The inner loop: whether a directory is there already. -/
theorem ref_there (x0 : List ByteArray) (o : ByteArray) (sec : Bool) (ps : List ByteArray) (i : Int) (d : ByteArray) (hl : x0.length < 8796093022208) (r : List ByteArray) : ∀ (m j : Nat) (tw : Bool), j + m = x0.length →
    Ev (fun k => if (tw || (x0.drop j).any (fun y => y.toList == d.toList)) = true then shackleref14_lay.l0 k x0 o sec ps (wrap64 (i + 1)) else shackleref14_lay.l0 k (x0 ++ [d]) o sec ps (wrap64 (i + 1))) r →
    Ev (fun k => shackleref14_lay.l1 k x0 o sec ps i d tw j) r
  | 0, j, tw, h, H => by
    refine Ev.step H fun k => ?_
    rw [shackleref14_lay.l1, if_neg (by omega), List.drop_of_length_le (by omega), List.any_nil, Bool.or_false, if_pos hl]
  | m + 1, j, tw, h, H => by
    have hj : j < x0.length := by omega
    rw [List.drop_eq_getElem_cons hj] at H
    cases tw with
    | true =>
      have := ref_there x0 o sec ps i d hl r m (j + 1) true (by omega) (H.same fun k => rfl)
      refine Ev.step this fun k => ?_
      rw [shackleref14_lay.l1, if_pos (by omega), if_pos rfl, w64 (by omega) (by omega)]
      rfl
    | false =>
      have := ref_there x0 o sec ps i d hl r m (j + 1) (x0[j].toList == d.toList) (by omega) (H.same fun k => rfl)
      refine Ev.step this fun k => ?_
      rw [shackleref14_lay.l1, if_pos (by omega), if_neg (by decide), if_pos (by omega), w64 (by omega) (by omega), rd_get x0 j hj]
      rfl
theorem toList_inj' {a b : ByteArray} (h : a.toList = b.toList) : a = b := by
  apply ByteArray.ext
  rw [Go.Lib.toList_data, Go.Lib.toList_data] at h
  exact Array.toList_inj.1 h
theorem any_is (x0 : List ByteArray) (d : ByteArray) : (x0.any (fun y => y.toList == d.toList)) = Lib.containsS x0 d := by
  apply Bool.eq_iff_iff.mpr
  rw [Lib.containsS_iff, List.any_eq_true]
  constructor
  · rintro ⟨y, hy, he⟩
    rw [← toList_inj' (beq_iff_eq.1 he)]
    exact hy
  · intro h
    exact ⟨d, h, beq_iff_eq.2 rfl⟩
theorem dir_same (p o : ByteArray) : (if p.toList = ([] : List UInt8) then (⟨#[47]⟩ : ByteArray) else (exS p o).1) = search_lay.dir p (exS p o).1 := by
  unfold search_lay.dir
  by_cases c : p.toList = ([] : List UInt8)
  · have : p = (⟨#[]⟩ : ByteArray) := toList_inj' (c.trans (by decide +kernel))
    subst this
    rw [if_pos c, ex_nil, if_pos ⟨c, c⟩]
  · rw [if_neg c, if_neg (fun h => c h.2)]
theorem lay_ref (ps : List ByteArray) (o : ByteArray) (sec : Bool) (ho : o.size ≤ 1048576) (hps : ∀ p ∈ ps, p.size ≤ 1048576) : ∀ (m i : Nat) (out : List ByteArray), i + m = ps.length → out.length + m < 8796093022208 → ps.length < 8796093022208 → Ev (fun k => shackleref14_lay.l0 k out o sec ps i) (layS o sec (ps.drop i) out)
  | 0, i, out, h, hl, _ => Ev.now fun k => by
    rw [shackleref14_lay.l0, if_neg (by omega), List.drop_of_length_le (by omega)]
    rfl
  | m + 1, i, out, h, hl, hq => by
    have hi : i < ps.length := by omega
    have h2 := addS_length o sec ps[i] out
    have ih := lay_ref ps o sec ho hps m (i + 1) (addS o sec ps[i] out) (by omega) (by omega) hq
    have hx := ex_ref ps[i] o (hps _ (List.getElem_mem hi)) ho
    rw [List.drop_eq_getElem_cons hi, layS]
    have hw : wrap64 ((i : Int) + 1) = ((i + 1 : Nat) : Int) := by rw [w64 (by omega) (by omega)]; omega
    -- the tail, from j2 on
    have tail : ∀ tw : Bool, tw = ((exS ps[i] o).2 && sec) → Ev (fun k => shackleref14_lay.j2 k out o sec ps i (search_lay.dir ps[i] (exS ps[i] o).1) tw) (layS o sec (ps.drop (i + 1)) (addS o sec ps[i] out)) := by
      intro tw htw
      refine Ev.step (ref_there out o sec ps i (search_lay.dir ps[i] (exS ps[i] o).1) (by omega) _ out.length 0 tw (by omega) (ih.same fun k => ?_)) fun k => by rw [shackleref14_lay.j2]; rfl
      rw [List.drop_zero, any_is, hw, htw]
      unfold addS
      by_cases c1 : ((exS ps[i] o).2 && sec) = true
      · rw [c1, Bool.true_or, if_pos rfl, if_pos rfl]
      · rw [if_neg c1, Bool.eq_false_iff.mpr c1, Bool.false_or]
        split <;> rfl
    have tail1 : Ev (fun k => shackleref14_lay.j1 k out o sec ps i (search_lay.dir ps[i] (exS ps[i] o).1) (exS ps[i] o).2) (layS o sec (ps.drop (i + 1)) (addS o sec ps[i] out)) := by
      refine Ev.step (tail _ rfl) fun k => ?_
      rw [shackleref14_lay.j1]
      cases (exS ps[i] o).2 with
      | true => rw [if_pos rfl, Bool.true_and]
      | false => rw [if_neg (by decide), Bool.false_and]
    refine Ev.step (G := fun k => (shackleref14_Expand.f k ps[i] o).bind fun t => shackleref14_lay.j1 k out o sec ps i (if ps[i].toList = ([] : List UInt8) then (⟨#[47]⟩ : ByteArray) else t.1) t.2) (Ev.bind hx (tail1.same fun k => ?_)) fun k => ?_
    · rw [dir_same]
    · rw [shackleref14_lay.l0, if_pos (by omega), if_pos (by omega), rd_get ps i hi]
      congr 1
      funext t
      split <;> rfl
theorem lay_rf (q : Int → Bool) (a : ByteArray) (hq : ∀ x, isIn a a.size 0 x = q x) (s o : ByteArray) (sec : Bool) (out : List ByteArray) (ha : a.size ≤ 100) (hs : s.size ≤ 1048576) (ho : o.size ≤ 1048576) (hl : out.length + s.size + 1 < 8796093022208) : Ev (fun k => shackleref14_lay.f k out s a o sec) (laS q s o sec out) := by
  have hqq : isIn a a.size 0 = q := funext hq
  have hc := cut_is a s hs ha
  rw [hqq] at hc
  have h2 : (partsS q s).length ≤ s.size + 1 := cutS_length _ s s.size 0 0
  exact Ev.bind hc (lay_ref (partsS q s) o sec ho (fun x hx => Nat.le_trans (cutS_size _ s s.size 0 0 x hx) hs) (partsS q s).length 0 out (by omega) (by omega) (by omega))
def qc : Int → Bool := qOf search_Dirs.colon
def qs : Int → Bool := qOf search_Dirs.semi
theorem hp_c (r : Nat) (h : 128 ≤ r) : search_Dirs.colon r = false := by
  unfold search_Dirs.colon
  exact decide_eq_false (by omega)
theorem hp_s (r : Nat) (h : 128 ≤ r) : search_Dirs.semi r = false := by
  unfold search_Dirs.semi
  rw [decide_eq_false (show ¬ r = 58 by omega), decide_eq_false (show ¬ r = 59 by omega)]
  rfl
theorem beq_int (x : Int) (n : Nat) (h : 0 < n) : (x == (n : Int)) = decide (x.toNat = n) := by
  by_cases c : x = (n : Int)
  · rw [beq_iff_eq.2 c, decide_eq_true (by omega)]
  · rw [beq_eq_false_iff_ne.2 c, decide_eq_false (by omega)]
theorem in_c (x : Int) : isIn (⟨#[58]⟩ : ByteArray) (⟨#[58]⟩ : ByteArray).size 0 x = qc x := by
  show ((x == bt (⟨#[58]⟩ : ByteArray) ((0 : Nat) : Int)) || false) = decide (x.toNat = 58)
  rw [show bt (⟨#[58]⟩ : ByteArray) ((0 : Nat) : Int) = ((58 : Nat) : Int) from by decide +kernel, beq_int x 58 (by omega), Bool.or_false]
theorem in_s (x : Int) : isIn (⟨#[58, 59]⟩ : ByteArray) (⟨#[58, 59]⟩ : ByteArray).size 0 x = qs x := by
  show ((x == bt (⟨#[58, 59]⟩ : ByteArray) ((0 : Nat) : Int)) || ((x == bt (⟨#[58, 59]⟩ : ByteArray) ((0 + 1 : Nat) : Int)) || false)) = (decide (x.toNat = 58) || decide (x.toNat = 59))
  rw [show bt (⟨#[58, 59]⟩ : ByteArray) ((0 : Nat) : Int) = ((58 : Nat) : Int) from by decide +kernel, show bt (⟨#[58, 59]⟩ : ByteArray) ((0 + 1 : Nat) : Int) = ((59 : Nat) : Int) from by decide +kernel, beq_int x 58 (by omega), beq_int x 59 (by omega), Bool.or_false]
def chOne (sec : Bool) (x : S58) (out : List ByteArray) : List ByteArray := if x.f3 = true then (if x.f4 = true then out else laS qc x.f1 x.f0 sec out) else out
def chS (sec : Bool) : List S58 → List ByteArray → List ByteArray
  | [], out => out
  | x :: r, out => chS sec r (chOne sec x out)
def Small (x : S58) : Prop := x.f0.size ≤ 1048576 ∧ x.f1.size ≤ 1048576 ∧ x.f2.size ≤ 1048576
theorem chOne_length (sec : Bool) (x : S58) (hx : Small x) (out : List ByteArray) : (chOne sec x out).length ≤ out.length + 1048577 := by
  have := laS_length qc x.f1 x.f0 sec out
  have := hx.2.1
  unfold chOne
  split
  · split <;> omega
  · omega
theorem chS_length (sec : Bool) : ∀ (ch : List S58) (out : List ByteArray), (∀ x ∈ ch, Small x) → (chS sec ch out).length ≤ out.length + ch.length * 1048577
  | [], out, _ => by simp [chS]
  | x :: r, out, h => by
    have h1 := chOne_length sec x (h x (by simp)) out
    have h2 := chS_length sec r (chOne sec x out) (fun y hy => h y (by simp [hy]))
    rw [chS, List.length_cons, Nat.succ_mul]
    omega
theorem rd58 (ch : List S58) (i : Nat) (h : i < ch.length) : rd_T58 ch (i : Int) = ch[i] := by
  unfold rd_T58
  rw [Int.toNat_natCast, List.getD_eq_getElem?_getD, List.getElem?_eq_getElem h]
  rfl
theorem ch_mine (ch : List S58) (sec : Bool) (hch : ∀ x ∈ ch, Small x) (hn : ch.length ≤ 1048576) : ∀ (m i : Nat) (out : List ByteArray), i + m = ch.length → out.length + m * 1048577 < 8000000000000 → Ev (fun k => search_Dirs.l0 k ch sec out i) (chS sec (ch.drop i) out)
  | 0, i, out, h, hl => Ev.now fun k => by
    rw [search_Dirs.l0, if_neg (by omega), List.drop_of_length_le (by omega)]
    rfl
  | m + 1, i, out, h, hl => by
    rw [Nat.succ_mul] at hl
    have hi : i < ch.length := by omega
    obtain ⟨s0, s1, s2⟩ := hch _ (List.getElem_mem hi)
    have h2 := chOne_length sec ch[i] ⟨s0, s1, s2⟩ out
    have ih := ch_mine ch sec hch hn m (i + 1) (chOne sec ch[i] out) (by omega) (by omega)
    rw [List.drop_eq_getElem_cons hi, chS]
    refine Ev.step (G := fun k => if ch[i].f3 = true then (if ch[i].f4 = true then search_Dirs.l0 k ch sec out ((i + 1 : Nat) : Int) else ((search_lay.f k search_Dirs.colon ch[i].f1 ch[i].f0 sec out).bind fun o => search_Dirs.l0 k ch sec o ((i + 1 : Nat) : Int))) else search_Dirs.l0 k ch sec out ((i + 1 : Nat) : Int)) ?_ fun k => ?_
    · unfold chOne at ih ⊢
      by_cases c3 : ch[i].f3 = true
      · by_cases c4 : ch[i].f4 = true
        · rw [if_pos c3, if_pos c4] at ih ⊢
          exact ih.same fun k => by rw [if_pos c3, if_pos c4]
        · rw [if_pos c3, if_neg c4] at ih ⊢
          exact (Ev.bind (lay_f search_Dirs.colon hp_c ch[i].f1 ch[i].f0 sec out s1 s0 (by omega)) ih).same fun k => by rw [if_pos c3, if_neg c4]
      · rw [if_neg c3] at ih ⊢
        exact ih.same fun k => by rw [if_neg c3]
    · rw [search_Dirs.l0, if_pos (by omega), if_pos (by omega), rd58 ch i hi, w64 (by omega) (by omega)]
      rfl
theorem ch_ref (a0 env : ByteArray) (ch : List S58) (sec : Bool) (hch : ∀ x ∈ ch, Small x) (hn : ch.length ≤ 1048576) (r : List ByteArray) : ∀ (m i : Nat) (out : List ByteArray), i + m = ch.length → out.length + m * 1048577 < 8000000000000 → Ev (fun k => shackleref14_Dirs.j2 k (chS sec (ch.drop i) out) (ch.length : Int) a0 ch env sec) r → Ev (fun k => shackleref14_Dirs.l0 k out (ch.length : Int) i a0 ch env sec) r
  | 0, i, out, h, hl, H => by
    refine Ev.step H fun k => ?_
    rw [shackleref14_Dirs.l0, if_neg (by omega), List.drop_of_length_le (by omega)]
    rfl
  | m + 1, i, out, h, hl, H => by
    rw [Nat.succ_mul] at hl
    have hi : i < ch.length := by omega
    obtain ⟨s0, s1, s2⟩ := hch _ (List.getElem_mem hi)
    have h2 := chOne_length sec ch[i] ⟨s0, s1, s2⟩ out
    rw [List.drop_eq_getElem_cons hi, chS] at H
    have ih := ch_ref a0 env ch sec hch hn r m (i + 1) (chOne sec ch[i] out) (by omega) (by omega) H
    refine Ev.step (G := fun k => if ch[i].f3 = true then (if ch[i].f4 = true then shackleref14_Dirs.l0 k out (ch.length : Int) ((i + 1 : Nat) : Int) a0 ch env sec else ((shackleref14_lay.f k out ch[i].f1 (⟨#[58]⟩ : ByteArray) ch[i].f0 sec).bind fun o => shackleref14_Dirs.l0 k o (ch.length : Int) ((i + 1 : Nat) : Int) a0 ch env sec)) else shackleref14_Dirs.l0 k out (ch.length : Int) ((i + 1 : Nat) : Int) a0 ch env sec) ?_ fun k => ?_
    · unfold chOne at ih
      by_cases c3 : ch[i].f3 = true
      · by_cases c4 : ch[i].f4 = true
        · rw [if_pos c3, if_pos c4] at ih
          exact ih.same fun k => by rw [if_pos c3, if_pos c4]
        · rw [if_pos c3, if_neg c4] at ih
          exact (Ev.bind (lay_rf qc (⟨#[58]⟩ : ByteArray) in_c ch[i].f1 ch[i].f0 sec out (by decide) s1 s0 (by omega)) ih).same fun k => by rw [if_pos c3, if_neg c4]
      · rw [if_neg c3] at ih
        exact ih.same fun k => by rw [if_neg c3]
    · rw [shackleref14_Dirs.l0, if_pos (by omega), if_pos (by omega), if_pos (by omega), rd58 ch i hi, w64 (by omega) (by omega)]
      rfl
def DEF : ByteArray := ⟨#[47, 108, 105, 98, 54, 52, 58, 47, 117, 115, 114, 47, 108, 105, 98, 54, 52]⟩
def nilB : ByteArray := ⟨#[]⟩
theorem def_parts : partsS qc DEF = [(⟨#[47, 108, 105, 98, 54, 52]⟩ : ByteArray), ⟨#[47, 117, 115, 114, 47, 108, 105, 98, 54, 52]⟩] := by decide +kernel
theorem def1 : (exS (⟨#[47, 108, 105, 98, 54, 52]⟩ : ByteArray) nilB).2 = false := by decide +kernel
theorem def2 : (exS (⟨#[47, 117, 115, 114, 47, 108, 105, 98, 54, 52]⟩ : ByteArray) nilB).2 = false := by decide +kernel
theorem def_sec (sec : Bool) (out : List ByteArray) : laS qc DEF nilB sec out = laS qc DEF nilB false out := by
  unfold laS
  rw [def_parts, layS, layS, layS, layS, layS, layS]
  unfold addS
  rw [def1, def2, Bool.false_and, Bool.false_and]
def st3 (ch : List S58) (sec : Bool) (out : List ByteArray) : List ByteArray := if search_Dirs.b3 ch = true then laS qc (rd_T58 ch 0).f2 (rd_T58 ch 0).f0 sec out else out
def st2 (ch : List S58) (env : ByteArray) (sec : Bool) (out : List ByteArray) : List ByteArray := if search_Dirs.b2 env sec = true then laS qs env (search_Dirs.last ch) sec out else out
def st1 (ch : List S58) (sec : Bool) : List ByteArray := if search_Dirs.b1 ch = true then chS sec ch [] else []
theorem rd0_small (ch : List S58) (hch : ∀ x ∈ ch, Small x) (i : Nat) (h : i < ch.length) : Small (rd_T58 ch (i : Int)) := by
  rw [rd58 ch i h]
  exact hch _ (List.getElem_mem h)
theorem last_small (ch : List S58) (hch : ∀ x ∈ ch, Small x) : (search_Dirs.last ch).size ≤ 1048576 := by
  unfold search_Dirs.last
  split
  · rename_i h
    have := (rd0_small ch hch (ch.length - 1) (by omega)).1
    rw [show (((ch.length - 1 : Nat)) : Int) = (ch.length : Int) - 1 from by omega] at this
    exact this
  · show 0 ≤ _
    omega
theorem st2_length (ch : List S58) (env : ByteArray) (sec : Bool) (out : List ByteArray) : (st2 ch env sec out).length ≤ out.length + env.size + 1 := by
  unfold st2
  split
  · exact laS_length _ _ _ _ _
  · omega
theorem b3_pos {ch : List S58} (h : search_Dirs.b3 ch = true) : 0 < ch.length := by
  unfold search_Dirs.b3 at h
  rw [Bool.and_eq_true, decide_eq_true_eq] at h
  omega
theorem st3_length (ch : List S58) (hch : ∀ x ∈ ch, Small x) (sec : Bool) (out : List ByteArray) : (st3 ch sec out).length ≤ out.length + 1048577 := by
  unfold st3
  split
  · rename_i h
    have h1 := laS_length qc (rd_T58 ch 0).f2 (rd_T58 ch 0).f0 sec out
    have h2 := (rd0_small ch hch 0 (b3_pos h)).2.2
    rw [show ((0 : Nat) : Int) = 0 from rfl] at h2
    omega
  · omega
theorem st1_length (ch : List S58) (hch : ∀ x ∈ ch, Small x) (hn : ch.length ≤ 1048576) (sec : Bool) : (st1 ch sec).length ≤ 1048576 * 1048577 := by
  unfold st1
  split
  · have h1 := chS_length sec ch [] hch
    rw [List.length_nil, Nat.zero_add] at h1
    exact Nat.le_trans h1 (Nat.mul_le_mul_right _ hn)
  · exact Nat.zero_le _
def allS (ch : List S58) (env : ByteArray) (sec : Bool) : List ByteArray := laS qc DEF nilB sec (st3 ch sec (st2 ch env sec (st1 ch sec)))
theorem dirs_mine (a0 : ByteArray) (ch : List S58) (env : ByteArray) (sec : Bool) (hch : ∀ x ∈ ch, Small x) (hn : ch.length ≤ 1048576) (he : env.size ≤ 1048576) : Ev (fun k => search_Dirs.f k a0 ch env sec) (allS ch env sec) := by
  have n1 := st1_length ch hch hn sec
  have n2 := st2_length ch env sec (st1 ch sec)
  have n3 := st3_length ch hch sec (st2 ch env sec (st1 ch sec))
  have hl := last_small ch hch
  have e1 : Ev (fun k => search_Dirs.s1 k ch sec) (st1 ch sec) := by
    unfold search_Dirs.s1 st1
    by_cases c : search_Dirs.b1 ch = true
    · rw [if_pos c]
      have := Nat.mul_le_mul_right 1048577 hn
      exact (ch_mine ch sec hch hn ch.length 0 [] (by omega) (by rw [List.length_nil]; omega)).same fun k => if_pos c
    · rw [if_neg c]
      exact (Ev.pure _).same fun k => if_neg c
  have e2 : Ev (fun k => search_Dirs.s2 k ch env sec (st1 ch sec)) (st2 ch env sec (st1 ch sec)) := by
    unfold search_Dirs.s2 st2
    by_cases c : search_Dirs.b2 env sec = true
    · rw [if_pos c]
      exact (lay_f search_Dirs.semi hp_s env (search_Dirs.last ch) sec (st1 ch sec) he hl (by omega)).same fun k => if_pos c
    · rw [if_neg c]
      exact (Ev.pure _).same fun k => if_neg c
  have e3 : Ev (fun k => search_Dirs.s3 k ch sec (st2 ch env sec (st1 ch sec))) (st3 ch sec (st2 ch env sec (st1 ch sec))) := by
    unfold search_Dirs.s3
    by_cases c : search_Dirs.b3 ch = true
    · obtain ⟨s0, -, s2⟩ := rd0_small ch hch 0 (b3_pos c)
      rw [show ((0 : Nat) : Int) = 0 from rfl] at s0 s2
      unfold st3
      rw [if_pos c]
      exact (lay_f search_Dirs.colon hp_c (rd_T58 ch 0).f2 (rd_T58 ch 0).f0 sec _ s2 s0 (by omega)).same fun k => if_pos c
    · unfold st3
      rw [if_neg c]
      exact (Ev.pure _).same fun k => if_neg c
  exact Ev.bind e1 (Ev.bind e2 (Ev.bind e3 (lay_f search_Dirs.colon hp_c DEF nilB sec _ (by decide) (by decide) (by show _ + 17 + 1 < _; omega))))
theorem ref5 (a0 : ByteArray) (ch : List S58) (env : ByteArray) (sec : Bool) (hch : ∀ x ∈ ch, Small x) (out : List ByteArray) (ho : out.length < 8000000000000) (b : Bool) (hb : b = true → 0 < ch.length) : Ev (fun k => shackleref14_Dirs.j5 k out b a0 ch env sec) (laS qc DEF nilB sec (if b = true then laS qc (rd_T58 ch 0).f2 (rd_T58 ch 0).f0 sec out else out)) := by
  rw [def_sec]
  cases b with
  | true =>
    rw [if_pos rfl]
    obtain ⟨s0, -, s2⟩ := rd0_small ch hch 0 (hb rfl)
    rw [show ((0 : Nat) : Int) = 0 from rfl] at s0 s2
    have h1 := laS_length qc (rd_T58 ch 0).f2 (rd_T58 ch 0).f0 sec out
    have hpos := hb rfl
    refine Ev.step (Ev.bind (G := fun k t => (shackleref14_lay.f k t DEF (⟨#[58]⟩ : ByteArray) nilB false).bind fun t190 => some t190) (lay_rf qc (⟨#[58]⟩ : ByteArray) in_c (rd_T58 ch 0).f2 (rd_T58 ch 0).f0 sec out (by decide) s2 s0 (by omega)) (Ev.bind (lay_rf qc (⟨#[58]⟩ : ByteArray) in_c DEF nilB false (laS qc (rd_T58 ch 0).f2 (rd_T58 ch 0).f0 sec out) (by decide) (by decide) (by decide) (by show _ + 17 + 1 < _; omega)) (Ev.pure _))) fun k => ?_
    rw [shackleref14_Dirs.j5, if_pos rfl, if_pos (by omega)]
    rfl
  | false =>
    rw [if_neg (by decide)]
    refine Ev.step (Ev.bind (lay_rf qc (⟨#[58]⟩ : ByteArray) in_c DEF nilB false out (by decide) (by decide) (by decide) (by show _ + 17 + 1 < _; omega)) (Ev.pure _)) fun k => ?_
    rw [shackleref14_Dirs.j5, if_neg (by decide)]
    rfl
theorem ref4 (a0 : ByteArray) (ch : List S58) (env : ByteArray) (sec : Bool) (hch : ∀ x ∈ ch, Small x) (out : List ByteArray) (ho : out.length < 8000000000000) : Ev (fun k => shackleref14_Dirs.j4 k out (ch.length : Int) a0 ch env sec) (laS qc DEF nilB sec (st3 ch sec out)) := by
  by_cases c : 0 < ch.length
  · refine Ev.step (ref5 a0 ch env sec hch out ho (search_Dirs.b3 ch) (fun _ => c)) fun k => ?_
    rw [shackleref14_Dirs.j4, if_pos (by omega), if_pos (by omega)]
    unfold search_Dirs.b3
    rw [decide_eq_true (show 0 < (ch.length : Int) from by omega), Bool.true_and]
  · refine Ev.step (ref5 a0 ch env sec hch out ho (search_Dirs.b3 ch) (fun h => b3_pos h)) fun k => ?_
    rw [shackleref14_Dirs.j4, if_neg (by omega)]
    unfold search_Dirs.b3
    rw [decide_eq_false (show ¬ 0 < (ch.length : Int) from by omega), Bool.false_and]
theorem ref3 (a0 : ByteArray) (ch : List S58) (env : ByteArray) (sec : Bool) (hch : ∀ x ∈ ch, Small x) (hn : ch.length ≤ 1048576) (he : env.size ≤ 1048576) (out : List ByteArray) (ho : out.length < 7000000000000) (b : Bool) (hb : b = true → sec = false) : Ev (fun k => shackleref14_Dirs.j3 k out (ch.length : Int) b a0 ch env sec) (laS qc DEF nilB sec (st3 ch sec (if b = true then laS qs env (search_Dirs.last ch) sec out else out))) := by
  cases b with
  | false =>
    rw [if_neg (by decide)]
    refine Ev.step (ref4 a0 ch env sec hch out (by omega)) fun k => ?_
    rw [shackleref14_Dirs.j3, if_neg (by decide)]
  | true =>
    rw [if_pos rfl]
    have hs := hb rfl
    have hl := last_small ch hch
    have h1 := laS_length qs env (search_Dirs.last ch) sec out
    have e := Ev.bind (G := fun k t => shackleref14_Dirs.j4 k t (ch.length : Int) a0 ch env sec) (lay_rf qs (⟨#[58, 59]⟩ : ByteArray) in_s env (search_Dirs.last ch) sec out (by decide) he hl (by omega)) (ref4 a0 ch env sec hch (laS qs env (search_Dirs.last ch) sec out) (by omega))
    refine Ev.step e fun k => ?_
    rw [shackleref14_Dirs.j3, if_pos rfl]
    by_cases c : 0 < ch.length
    · rw [if_pos (by omega), w64m ch.length (by omega), if_pos (by omega), if_pos (by omega)]
      have : search_Dirs.last ch = (rd_T58 ch ((ch.length : Int) - 1)).f0 := by unfold search_Dirs.last; rw [if_pos (by omega)]
      rw [this, hs]
    · rw [if_neg (by omega)]
      have : search_Dirs.last ch = (⟨#[]⟩ : ByteArray) := by unfold search_Dirs.last; rw [if_neg (by omega)]
      rw [this, hs]
theorem ne_nil (l : List UInt8) : (l != ([] : List UInt8)) = !l.isEmpty := by cases l <;> rfl
theorem ref2 (a0 : ByteArray) (ch : List S58) (env : ByteArray) (sec : Bool) (hch : ∀ x ∈ ch, Small x) (hn : ch.length ≤ 1048576) (he : env.size ≤ 1048576) (out : List ByteArray) (ho : out.length < 7000000000000) : Ev (fun k => shackleref14_Dirs.j2 k out (ch.length : Int) a0 ch env sec) (laS qc DEF nilB sec (st3 ch sec (st2 ch env sec out))) := by
  refine Ev.step (ref3 a0 ch env sec hch hn he out ho (search_Dirs.b2 env sec) (fun h => ?_)) fun k => ?_
  · unfold search_Dirs.b2 at h
    cases sec with
    | true => rw [Bool.not_true, Bool.false_and] at h; cases h
    | false => rfl
  · rw [shackleref14_Dirs.j2, ne_nil]
    unfold search_Dirs.b2
    cases sec with
    | true => rw [if_pos rfl]; rfl
    | false => rw [if_neg (by decide)]; rfl
theorem dirs_ref (a0 : ByteArray) (ch : List S58) (env : ByteArray) (sec : Bool) (hch : ∀ x ∈ ch, Small x) (hn : ch.length ≤ 1048576) (he : env.size ≤ 1048576) : Ev (fun k => shackleref14_Dirs.f k a0 ch env sec) (allS ch env sec) := by
  have n1 := st1_length ch hch hn sec
  have hm := Nat.mul_le_mul_right 1048577 hn
  have e0 : Ev (fun k => shackleref14_Dirs.j0 k ([] : List ByteArray) (ch.length : Int) (search_Dirs.b1 ch) a0 ch env sec) (allS ch env sec) := by
    have e2 := ref2 a0 ch env sec hch hn he (st1 ch sec) (by omega)
    unfold st1 at e2
    by_cases c : search_Dirs.b1 ch = true
    · rw [if_pos c] at e2
      have e2' := ch_ref a0 env ch sec hch hn _ ch.length 0 [] (by omega) (by rw [List.length_nil]; omega) e2
      have : allS ch env sec = laS qc DEF nilB sec (st3 ch sec (st2 ch env sec (chS sec ch []))) := by unfold allS st1; rw [if_pos c]
      rw [this]
      refine Ev.step e2' fun k => ?_
      rw [shackleref14_Dirs.j0, if_pos c]
      rfl
    · rw [if_neg c] at e2
      have : allS ch env sec = laS qc DEF nilB sec (st3 ch sec (st2 ch env sec [])) := by unfold allS st1; rw [if_neg c]
      rw [this]
      refine Ev.step e2 fun k => ?_
      rw [shackleref14_Dirs.j0, if_neg c]
  refine e0.same fun k => ?_
  unfold shackleref14_Dirs.f search_Dirs.b1
  by_cases c : 0 < ch.length
  · rw [if_pos (by omega), if_pos (by omega), decide_eq_true (show 0 < (ch.length : Int) from by omega), Bool.true_and]
  · rw [if_neg (by omega), decide_eq_false (show ¬ 0 < (ch.length : Int) from by omega), Bool.false_and]
theorem same_is (r : List ByteArray) (hr : r.length < 4611686018427387904) : ∀ m i, i + m = r.length → Ev (fun k => shackleref14_Same.l0 k r r (i : Nat)) true
  | 0, i, h => Ev.now fun k => by rw [shackleref14_Same.l0, if_neg (by omega)]
  | m + 1, i, h => by
    refine Ev.step (same_is r hr m (i + 1) (by omega)) fun k => ?_
    rw [shackleref14_Same.l0, if_pos (by omega), if_pos (by omega), if_pos (by omega), if_pos rfl, w64 (by omega) (by omega)]
    rfl
theorem up : shacklelaw14_up.f 64 = some true := by decide +kernel
theorem mem_sum {α : Type} (f : α → Nat) : ∀ (l : List α) (x : α), x ∈ l → f x ≤ (l.map f).sum
  | [], x, h => by cases h
  | y :: l, x, h => by
    rw [List.map_cons, List.sum_cons]
    rcases List.mem_cons.1 h with rfl | h
    · omega
    · have := mem_sum f l x h
      omega
theorem len_sum {α : Type} (f : α → Nat) (hf : ∀ x, 1 ≤ f x) : ∀ l : List α, l.length ≤ (l.map f).sum
  | [] => by simp
  | y :: l => by
    have := len_sum f hf l
    have := hf y
    rw [List.map_cons, List.sum_cons, List.length_cons]
    omega
theorem SearchDirs : shacklelaw14_SearchDirs.Pure := by
  intro a0 ch env sec _ _ _ _ hb
  unfold bL at hb
  have hb' : (ch.map b58).sum + bS env ≤ 1048576 := by omega
  have hlen := len_sum b58 (fun x => by unfold b58; omega) ch
  have he : env.size ≤ 1048576 := by unfold bS at hb'; omega
  have hch : ∀ x ∈ ch, Small x := fun x hx => by
    have := mem_sum b58 ch x hx
    have : b58 x ≤ 1048576 := by omega
    unfold b58 bS at this
    exact ⟨by omega, by omega, by omega⟩
  have hn : ch.length ≤ 1048576 := by omega
  clear hb hb'
  have hall : (allS ch env sec).length < 8000000000000 := by
    have n1 := st1_length ch hch hn sec
    have n2 := st2_length ch env sec (st1 ch sec)
    have n3 := st3_length ch hch sec (st2 ch env sec (st1 ch sec))
    have n4 := laS_length qc DEF nilB sec (st3 ch sec (st2 ch env sec (st1 ch sec)))
    have n5 : DEF.size = 17 := rfl
    unfold allS
    omega
  have hs : Ev (fun k => shackleref14_Same.f k (allS ch env sec) (allS ch env sec)) true := by
    unfold shackleref14_Same.f
    exact (same_is (allS ch env sec) (by omega) _ 0 (Nat.zero_add _)).same fun k => if_pos rfl
  obtain ⟨k, hk⟩ : Ev (fun k => shacklelaw14_SearchDirs.f k a0 ch env sec) true := by
    unfold shacklelaw14_SearchDirs.f
    exact Ev.bind (Ev.one shacklelaw14_up.mono 64 up) (Ev.bind (dirs_mine a0 ch env sec hch hn he) (Ev.bind (dirs_ref a0 ch env sec hch hn he) (Ev.bind hs ((Ev.pure _).same fun k => if_pos rfl))))
  exact ⟨k, hk k (Nat.le_refl _)⟩
end Go.Proofs.Ytjbndfogjmfbhaa.Pure
