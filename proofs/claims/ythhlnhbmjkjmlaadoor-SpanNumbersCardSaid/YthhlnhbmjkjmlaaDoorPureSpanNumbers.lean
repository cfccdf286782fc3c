/- shacklelaw01.SpanNumbers: the pure statement: numbers of one to eight bytes are read and written where they lie; what is handed in stays. No condition beyond the arguments' own bounds. -/
import Derived.Test.YthhlnhbmjkjmlaaDoorPSpanNumbersx4
import Derived.Test.YthhlnhbmjkjmlaaDoorXPure
import Derived.Lib.BitFns
set_option linter.unusedSimpArgs false
set_option linter.unusedVariables false
namespace Go.Proofs.YthhlnhbmjkjmlaaDoor.Pure
open Go.RowKit Go.Proofs.YthhlnhbmjkjmlaaDoor.PSpanNumbers Go.Proofs.YthhlnhbmjkjmlaaDoorW.PrintWords Go.Proofs.YthhlnhbmjkjmlaaDoorW.PrintLast Go.Proofs.YthhlnhbmjkjmlaaDoorX

theorem shown_holds : shacklelaw01_shown.f 100 = some true := by decide +kernel

/-- They lie there. -/
def lies (n : Nat) (a b : Int) : Prop := a ≤ (n : Int) ∧ b ≤ (n : Int) - a
instance (n : Nat) (a b : Int) : Decidable (lies n a b) := inferInstanceAs (Decidable (_ ∧ _))

theorem in_of (n : Nat) (a b : Int) (hn : n < 140737488355328) (ha : 0 ≤ a) : span_In.f (IntKind.u64.wrap (n : Int)) a b = some (decide (lies n a b)) := by
  have hw : IntKind.u64.wrap (n : Int) = (n : Int) := uwrap_id (Int.natCast_nonneg _) (by omega)
  unfold span_In.f
  rw [hw]
  by_cases h : a ≤ (n : Int)
  · have hw2 : IntKind.u64.wrap ((n : Int) - a) = (n : Int) - a := uwrap_id (by omega) (by omega)
    rw [if_pos h, hw2]
    simp [lies, h]
  · rw [if_neg h]
    simp [lies, h]

theorem ref_in_of (n : Nat) (a b : Int) (hn : n < 140737488355328) (ha : 0 ≤ a) : shackleref01_In.f (IntKind.u64.wrap (n : Int)) a b = some (decide (lies n a b)) := in_of n a b hn ha

theorem take_snoc (l : List Int) (a i : Nat) (h : a + i < l.length) : (l.take (a + i)).drop a ++ [rd l ((a + i : Nat) : Int)] = (l.take (a + (i + 1))).drop a := by
  rw [show a + (i + 1) = (a + i) + 1 by omega, List.take_add_one, rd_at l (a + i) h, List.getElem?_eq_getElem h]
  rw [List.drop_append_of_le_length (by rw [List.length_take]; omega)]
  rfl

theorem ref_loop (l : List Int) (a b : Nat) (hn : l.length < 140737488355328) (hle : a + b ≤ l.length) (d : Nat) : ∀ (k i : Nat), i + d = b →
    shackleref01_Cut.l0 (k + d + 1) l (a : Int) (b : Int) ((l.take (a + i)).drop a) (i : Int) = some ((l.take (a + b)).drop a, true) := by
  induction d with
  | zero =>
    intro k i hi
    obtain rfl : i = b := by omega
    rw [shackleref01_Cut.l0, if_neg (by omega)]
  | succ d ih =>
    intro k i hi
    have hil : a + i < l.length := by omega
    have hw : IntKind.u64.wrap ((a : Int) + (i : Int)) = ((a + i : Nat) : Int) := by rw [uwrap_id (by omega) (by omega)]; omega
    have hw2 : IntKind.u64.wrap ((i : Int) + 1) = ((i + 1 : Nat) : Int) := by rw [uwrap_id (by omega) (by omega)]; omega
    have hlen : ((l.take (a + i)).drop a).length < 140737488355328 := by rw [List.length_drop, List.length_take]; omega
    rw [show k + (d + 1) + 1 = (k + d + 1) + 1 by omega, shackleref01_Cut.l0, if_pos (by omega), hw, if_pos (Int.natCast_nonneg _), if_pos (by omega), if_pos hlen, take_snoc l a i hil, hw2]
    exact ih k (i + 1) (by omega)

theorem ref_cut_in (l : List Int) (a b : Nat) (hn : l.length < 140737488355328) (h : lies l.length (a : Int) (b : Int)) (k : Nat) :
    shackleref01_Cut.f (k + b + 1) l (a : Int) (b : Int) = some ((l.take (a + b)).drop a, true) := by
  unfold shackleref01_Cut.f
  rw [ref_in_of _ _ _ hn (Int.natCast_nonneg _), Option.bind_some, if_pos (decide_eq_true h)]
  have h1 := h.1
  have h2 := h.2
  have := ref_loop l a b hn (by omega) b k 0 (by omega)
  rw [show (l.take (a + 0)).drop a = ([] : List Int) by apply List.drop_eq_nil_of_le; rw [List.length_take]; omega] at this
  exact this

theorem ref_cut_out (l : List Int) (a b : Int) (hn : l.length < 140737488355328) (ha : 0 ≤ a) (h : ¬ lies l.length a b) (k : Nat) :
    shackleref01_Cut.f k l a b = some (([] : List Int), false) := by
  unfold shackleref01_Cut.f
  rw [ref_in_of _ _ _ hn ha, Option.bind_some, decide_eq_false h, if_neg (by simp)]

theorem same_self (r : List Int) (hl : r.length < 140737488355328) (d : Nat) : ∀ (k i : Nat), i + d = r.length → shackleref01_Same.l0 (k + d + 1) r r (i : Int) = some true := by
  induction d with
  | zero =>
    intro k i hi
    rw [shackleref01_Same.l0]
    rw [if_neg (by omega)]
  | succ d ih =>
    intro k i hi
    rw [show k + (d + 1) + 1 = (k + d + 1) + 1 by omega, shackleref01_Same.l0]
    have hwr : wrap64 ((i : Int) + 1) = ((i + 1 : Nat) : Int) := by rw [w64_id (by omega) (by omega)]; omega
    rw [if_pos (by omega), if_pos (by omega), if_pos (by omega), if_pos rfl, hwr]
    exact ih k (i + 1) (by omega)
theorem same_refl (r : List Int) (hl : r.length < 140737488355328) (k : Nat) : shackleref01_Same.f (k + r.length + 1) r r = some true := by
  unfold shackleref01_Same.f
  rw [if_pos rfl]
  exact same_self r hl r.length k 0 (Nat.zero_add _)

/-! numbers that have a width -/
theorem wide_of {n : Int} (h : n = 1 ∨ n = 2 ∨ n = 4 ∨ n = 8) : span_wide.f n = some true := by rcases h with rfl | rfl | rfl | rfl <;> rfl
theorem not_wide {n : Int} (h : ¬ (n = 1 ∨ n = 2 ∨ n = 4 ∨ n = 8)) : span_wide.f n = some false := by
  unfold span_wide.f
  rw [if_neg (by omega), if_neg (by omega), if_neg (by omega), if_neg (by omega)]
theorem widths_of {n : Int} (h : n = 1 ∨ n = 2 ∨ n = 4 ∨ n = 8) : shackleref01_widths.f n = some true := by rcases h with rfl | rfl | rfl | rfl <;> rfl
theorem not_widths {n : Int} (h : ¬ (n = 1 ∨ n = 2 ∨ n = 4 ∨ n = 8)) : shackleref01_widths.f n = some false := by
  unfold shackleref01_widths.f
  rw [if_neg (by omega), if_neg (by omega), if_neg (by omega), show (n == 8) = false by simp; omega]

/-! reading -/
theorem or_byte (u b : Nat) (hu : u < 18446744073709551616) (hd : u % 256 = 0) (hb : b < 256) : Go.bits .or .u64 (u : Int) (b : Int) = ((u + b : Nat) : Int) := by
  obtain ⟨q, rfl⟩ : ∃ q, u = 256 * q := ⟨u / 256, by omega⟩
  have h1 : (256 * q) ||| b = 256 * q + b := (Nat.two_pow_add_eq_or_of_lt (i := 8) hb q).symm
  have e1 : (BitVec.ofInt 64 ((256 * q : Nat) : Int)).toNat = 256 * q := by
    rw [BitVec.ofInt_natCast, BitVec.toNat_ofNat]
    exact Nat.mod_eq_of_lt (by omega)
  have e2 : (BitVec.ofInt 64 ((b : Nat) : Int)).toNat = b := by
    rw [BitVec.ofInt_natCast, BitVec.toNat_ofNat]
    exact Nat.mod_eq_of_lt (by omega)
  show IntKind.u64.wrap (((BitVec.ofInt 64 ((256 * q : Nat) : Int)) ||| (BitVec.ofInt 64 ((b : Nat) : Int))).toNat : Int) = _
  rw [BitVec.toNat_or, e1, e2, h1]
  exact uwrap_id (Int.natCast_nonneg _) (by omega)

theorem rd_cut (l : List Int) (a n i : Nat) (h : a + n ≤ l.length) (hi : i < n) : rd ((l.take (a + n)).drop a) (i : Int) = rd l ((a + i : Nat) : Int) := by
  have h1 : i < ((l.take (a + n)).drop a).length := by rw [List.length_drop, List.length_take]; omega
  rw [rd_at _ i h1, rd_at l (a + i) (by omega), List.getElem_drop, List.getElem_take]

theorem get_loops (l : List Int) (a n : Nat) (hn : l.length < 140737488355328) (hle : a + n ≤ l.length) (hb : ∀ x ∈ l, 0 ≤ x ∧ x < 256) (d : Nat) : ∀ (v : Int), d ≤ n → ∃ x, ∀ k,
    span_Get.l0 (k + d + 1) l (a : Int) v ((d : Int) - 1) = some (x, none) ∧ shackleref01_Get.l0 (k + d + 1) ((l.take (a + n)).drop a) v ((d : Int) - 1) = some (x, 0) := by
  induction d with
  | zero =>
    intro v hd
    refine ⟨v, fun k => ⟨?_, ?_⟩⟩
    · rw [span_Get.l0, if_neg (by omega)]
    · rw [shackleref01_Get.l0, if_neg (by omega)]
  | succ d ih =>
    intro v hd
    obtain ⟨x, hx⟩ := ih (IntKind.u64.wrap ((IntKind.u64.wrap (256 * v)) + rd l ((a + d : Nat) : Int))) (by omega)
    refine ⟨x, fun k => ?_⟩
    have hc : ((l.take (a + n)).drop a).length = n := by rw [List.length_drop, List.length_take]; omega
    have hi : (((d + 1 : Nat) : Int) - 1) = (d : Int) := by omega
    have hbyte := hb _ (rd_mem l (a + d) (by omega))
    have hw1 : IntKind.u64.wrap (d : Int) = (d : Int) := uwrap_id (by omega) (by omega)
    have hw2 : IntKind.u64.wrap ((a : Int) + (d : Int)) = ((a + d : Nat) : Int) := by rw [uwrap_id (by omega) (by omega)]; omega
    have hw3 : IntKind.u64.wrap (rd l ((a + d : Nat) : Int)) = rd l ((a + d : Nat) : Int) := uwrap_id hbyte.1 (by omega)
    have hw4 : wrap64 ((d : Int) - 1) = (d : Int) - 1 := w64_id (by omega) (by omega)
    have hor : Go.bits .or .u64 (IntKind.u64.wrap (v * 256)) (rd l ((a + d : Nat) : Int)) = IntKind.u64.wrap ((IntKind.u64.wrap (256 * v)) + rd l ((a + d : Nat) : Int)) := by
      rw [Int.mul_comm v 256]
      obtain ⟨u, hu⟩ : ∃ u : Nat, IntKind.u64.wrap (256 * v) = (u : Int) := ⟨(IntKind.u64.wrap (256 * v)).toNat, by rw [uwrap]; omega⟩
      obtain ⟨b, hb2⟩ := Int.eq_ofNat_of_zero_le hbyte.1
      have hu2 : u < 18446744073709551616 ∧ u % 256 = 0 := by rw [uwrap] at hu; omega
      rw [hb2] at hbyte ⊢
      rw [hu, or_byte u b hu2.1 hu2.2 (by omega), uwrap_id (by omega) (by omega)]
      omega
    rw [hi, show k + (d + 1) + 1 = (k + d + 1) + 1 by omega]
    constructor
    · rw [span_Get.l0, if_pos (by omega), hw1, hw2, if_pos (Int.natCast_nonneg _), if_pos (by omega), hw3, hor, hw4]
      exact (hx k).1
    · rw [shackleref01_Get.l0, if_pos (by omega), if_pos (by omega), if_pos (by omega), rd_cut l a n d hle (by omega), hw3, hw4]
      exact (hx k).2

theorem gets (l : List Int) (a n : Nat) (hwd : (n : Int) = 1 ∨ (n : Int) = 2 ∨ (n : Int) = 4 ∨ (n : Int) = 8) (hn : l.length < 140737488355328) (h : lies l.length (a : Int) (n : Int)) (hb : ∀ x ∈ l, 0 ≤ x ∧ x < 256) : ∃ x, ∀ k,
    span_Get.f (k + n + 1) l (a : Int) (n : Int) = some (x, none) ∧ shackleref01_Get.f (k + n + 1) l (a : Int) (n : Int) = some (x, 0) := by
  obtain ⟨x, hx⟩ := get_loops l a n hn (by have := h.1; have := h.2; omega) hb n 0 (Nat.le_refl _)
  refine ⟨x, fun k => ?_⟩
  have hw1 : IntKind.u64.wrap (n : Int) = (n : Int) := uwrap_id (by omega) (by omega)
  have hw2 : wrap64 ((n : Int) - 1) = (n : Int) - 1 := w64_id (by omega) (by omega)
  constructor
  · unfold span_Get.f
    rw [wide_of hwd, Option.bind_some, if_pos rfl, hw1, in_of _ _ _ hn (Int.natCast_nonneg _), Option.bind_some, if_pos (decide_eq_true h), hw2]
    exact (hx k).1
  · unfold shackleref01_Get.f
    rw [widths_of hwd, Option.bind_some, if_pos rfl, hw1, ref_cut_in l a n hn h, Option.bind_some, if_pos rfl, hw2]
    exact (hx k).2

theorem get_narrow (l : List Int) (a n : Int) (h : ¬ (n = 1 ∨ n = 2 ∨ n = 4 ∨ n = 8)) (k : Nat) : span_Get.f k l a n = some (0, some 1) ∧ shackleref01_Get.f k l a n = some (0, 1) := by
  constructor
  · unfold span_Get.f
    rw [not_wide h, Option.bind_some, if_neg (by simp)]
  · unfold shackleref01_Get.f
    rw [not_widths h, Option.bind_some, if_neg (by simp)]

theorem get_out (l : List Int) (a n : Int) (hwd : n = 1 ∨ n = 2 ∨ n = 4 ∨ n = 8) (hn : l.length < 140737488355328) (ha : 0 ≤ a) (ha2 : a < 18446744073709551616) (h : ¬ lies l.length a n) (k : Nat) :
    span_Get.f k l a n = some (0, some (spZ a 4)) ∧ shackleref01_Get.f k l a n = some (0, 4) := by
  have hw1 : IntKind.u64.wrap n = n := uwrap_id (by omega) (by omega)
  constructor
  · unfold span_Get.f
    rw [wide_of hwd, Option.bind_some, if_pos rfl, hw1, in_of _ _ _ hn ha, Option.bind_some, decide_eq_false h, if_neg (by simp), if_pos ha, if_pos ha2]
  · unfold shackleref01_Get.f
    rw [widths_of hwd, Option.bind_some, if_pos rfl, hw1, ref_cut_out l a n hn ha h, Option.bind_some, if_neg (by simp)]

/-! writing -/
/-- a number's n lowest bytes, the lowest first -/
def bytesLE : Nat → Int → List Int
  | 0, _ => []
  | n + 1, v => v % 256 :: bytesLE n (v / 256)
theorem bytesLE_length (n : Nat) : ∀ v, (bytesLE n v).length = n := by
  induction n with
  | zero => intro v; rfl
  | succ n ih => intro v; simp [bytesLE, ih]
def leftOver : Nat → Int → Int
  | 0, v => v
  | n + 1, v => leftOver n (v / 256)

theorem bitLen_gt (x k : Nat) (hk : k ≤ 64) (h : x < 18446744073709551616) : k < Go.Lib.bitLen x ↔ 2 ^ k ≤ x := by
  constructor
  · intro h1
    rcases Nat.lt_or_ge x (2 ^ k) with h2 | h2
    · have := Go.Lib.bitLen_le x k hk h2
      omega
    · exact h2
  · intro h1
    have h64 : x < 2 ^ 64 := by have : (2 : Nat) ^ 64 = 18446744073709551616 := by decide
                                omega
    rw [Go.Lib.bitLen_shift k x h1 h64]
    have hq : x / 2 ^ k ≠ 0 := by
      have := Nat.div_pos h1 (Nat.two_pow_pos k)
      omega
    rw [Go.Lib.bitLen_half _ hq (Nat.lt_of_le_of_lt (Nat.div_le_self _ _) h64)]
    omega

theorem leftOver_zero (n : Nat) : ∀ (x : Nat), (leftOver n (x : Int) = 0 ↔ x < 2 ^ (8 * n)) := by
  induction n with
  | zero => intro x; simp [leftOver]
  | succ n ih =>
    intro x
    have h1 : ((x : Nat) : Int) / 256 = ((x / 256 : Nat) : Int) := by omega
    rw [leftOver, h1, ih, Nat.div_lt_iff_lt_mul (by decide), show 8 * (n + 1) = 8 * n + 8 by omega, Nat.pow_add]

theorem join_bytes (n : Int) (l : List Int) (len i : Int) (hn : n ≤ 8) (d : Nat) : ∀ (k : Nat) (c v : Int) (acc : List Int), c + d = n → 0 ≤ c → acc.length + d < 140737488355328 →
    span_Join.l1 (k + d + 1) n acc v l len i n c = span_Join.l0 k n (acc ++ bytesLE d v) l len (wrap64 (i + 1)) := by
  induction d with
  | zero =>
    intro k c v acc hc h0 hl
    rw [span_Join.l1, if_neg (by omega)]
    simp [bytesLE]
  | succ d ih =>
    intro k c v acc hc h0 hl
    rw [show k + (d + 1) + 1 = (k + d + 1) + 1 by omega, span_Join.l1]
    have hwr : wrap64 (c + 1) = c + 1 := w64_id (by omega) (by omega)
    rw [if_pos (by omega), if_pos (by omega), hwr]
    have := ih k (c + 1) (v / 256) (acc ++ [v % 256]) (by omega) (by omega) (by simp; omega)
    rw [this]
    simp [bytesLE]

theorem ref_bytes (n : Int) (hn : n ≤ 8) (d : Nat) : ∀ (k : Nat) (c v : Int) (acc : List Int), c + d = n → 0 ≤ c → d < k → 0 ≤ v → v < 18446744073709551616 → acc.length + d < 140737488355328 →
    shackleref01_Bytes.l0 k n v acc c = some (acc ++ bytesLE d v, leftOver d v == 0) := by
  induction d with
  | zero =>
    intro k c v acc hc h0 hk hv hv1 hl
    obtain ⟨k, rfl⟩ : ∃ m, k = m + 1 := ⟨k - 1, by omega⟩
    rw [shackleref01_Bytes.l0]
    rw [if_neg (by omega)]
    simp [bytesLE, leftOver]
  | succ d ih =>
    intro k c v acc hc h0 hk hv hv1 hl
    obtain ⟨k, rfl⟩ : ∃ m, k = m + 1 := ⟨k - 1, by omega⟩
    rw [shackleref01_Bytes.l0]
    have hwr : wrap64 (c + 1) = c + 1 := w64_id (by omega) (by omega)
    have h1 : Int.tdiv v 256 = v / 256 := Int.tdiv_eq_ediv_of_nonneg hv
    have h2 : Int.tmod v 256 = v % 256 := Int.tmod_eq_emod_of_nonneg hv
    rw [if_pos (by omega), if_pos (by omega), hwr, h1, h2, uwrap_id (by omega) (by omega), show v % 256 % 256 = v % 256 by omega]
    have := ih k (c + 1) (v / 256) (acc ++ [v % 256]) (by omega) (by omega) (by omega) (by omega) (by omega) (by simp; omega)
    rw [this]
    simp [bytesLE, leftOver]

theorem join_one (n : Nat) (hwd : (n : Int) = 1 ∨ (n : Int) = 2 ∨ (n : Int) = 4 ∨ (n : Int) = 8) (x : Nat) (hx : x < 18446744073709551616) (k : Nat) :
    span_Join.f (k + 1 + n + 1 + 1) (n : Int) [(x : Int)] = some (if x < 2 ^ (8 * n) then (bytesLE n x, none) else ([], some 28)) := by
  have hw : wrap64 (8 * (n : Int)) = ((8 * n : Nat) : Int) := by rw [w64_id (by omega) (by omega)]; omega
  have hlen : bits_Len64.f (x : Int) = some ((Go.Lib.bitLen x : Nat) : Int) := by
    unfold bits_Len64.f
    rw [if_pos (Int.natCast_nonneg _), if_pos (by omega)]
    simp
  have hbit := bitLen_gt x (8 * n) (by omega) hx
  have hrd : rd [(x : Int)] 0 = (x : Int) := rfl
  unfold span_Join.f
  rw [wide_of hwd, Option.bind_some, if_pos rfl, span_Join.l0, if_pos (by simp), if_pos (by decide), if_pos (by simp), hrd, hlen, Option.bind_some, hw]
  by_cases hlt : x < 2 ^ (8 * n)
  · rw [if_neg (by rw [Int.not_lt]; have : ¬ 8 * n < Go.Lib.bitLen x := fun h => absurd (hbit.1 h) (by omega)
                   omega), if_pos hlt]
    rw [join_bytes (n : Int) [(x : Int)] _ 0 (by omega) n (k + 1) 0 (x : Int) [] (by omega) (by decide) (by simp; omega)]
    rw [show wrap64 (0 + 1) = 1 from w64_id (by decide) (by decide), span_Join.l0, if_neg (by simp), List.nil_append]
  · rw [if_pos (by have : 8 * n < Go.Lib.bitLen x := hbit.2 (by omega)
                   show ((8 * n : Nat) : Int) < _
                   omega), if_neg hlt]

theorem bytes_one (n : Nat) (hn : n ≤ 8) (x : Nat) (hx : x < 18446744073709551616) (k : Nat) :
    shackleref01_Bytes.f (k + n + 1) (n : Int) (x : Int) = some (bytesLE n x, decide (x < 2 ^ (8 * n))) := by
  unfold shackleref01_Bytes.f
  rw [ref_bytes (n : Int) (by omega) n _ 0 (x : Int) [] (by omega) (by decide) (by omega) (Int.natCast_nonneg _) (by omega) (by simp; omega), List.nil_append]
  have := leftOver_zero n x
  congr 2
  by_cases h : x < 2 ^ (8 * n)
  · simp [h, this.2 h]
  · simp [h]
    exact fun h2 => absurd (this.1 h2) (by omega)

theorem cpy_fits (l : List Int) (a : Nat) (bs : List Int) (h : a + bs.length ≤ l.length) : cpy l a bs = l.take a ++ (bs ++ l.drop (a + bs.length)) := by
  unfold cpy
  rw [List.take_of_length_le (l := bs) (by omega), Nat.min_eq_left (by omega)]

theorem set_step (l : List Int) (a i : Nat) (bs : List Int) (h : a + bs.length ≤ l.length) (hi : i < bs.length) :
    (cpy l a (bs.take i)).set (a + i) (rd bs (i : Int)) = cpy l a (bs.take (i + 1)) := by
  have h1 : (bs.take i).length = i := by rw [List.length_take]; omega
  have h2 : (bs.take (i + 1)).length = i + 1 := by rw [List.length_take]; omega
  have h3 : (l.take a).length = a := by rw [List.length_take]; omega
  rw [cpy_fits l a _ (by omega), cpy_fits l a _ (by omega), h1, h2, List.set_append_right _ _ (by omega), h3, Nat.add_sub_cancel_left,
    List.set_append_right _ _ (by omega), h1, Nat.sub_self, List.drop_eq_getElem_cons (by omega : a + i < l.length), List.set_cons_zero,
    List.take_add_one, List.getElem?_eq_getElem hi, rd_at bs i hi, List.append_assoc]
  rfl

theorem put_loop (l : List Int) (a n : Nat) (bs : List Int) (hbs : bs.length = n) (hl : l.length < 140737488355328) (hle : a + n ≤ l.length) (hn : n ≤ 8) (d : Nat) : ∀ (k i : Nat), i + d = n →
    shackleref01_Put.l0 (k + d + 1) (a : Int) (n : Int) bs (cpy l a (bs.take i)) (i : Int) = some (cpy l a bs, 0) := by
  induction d with
  | zero =>
    intro k i hi
    rw [shackleref01_Put.l0, if_neg (by omega), List.take_of_length_le (by omega)]
  | succ d ih =>
    intro k i hi
    have hw : wrap64 (wrap64 (a : Int) + (i : Int)) = ((a + i : Nat) : Int) := by rw [w64_id (n := (a : Int)) (by omega) (by omega), w64_id (by omega) (by omega)]; omega
    have hw2 : wrap64 ((i : Int) + 1) = ((i + 1 : Nat) : Int) := by rw [w64_id (by omega) (by omega)]; omega
    have hlen := cpy_length l a (bs.take i)
    rw [show k + (d + 1) + 1 = (k + d + 1) + 1 by omega, shackleref01_Put.l0, if_pos (by omega), if_pos (Int.natCast_nonneg _), if_pos (by omega), hw, if_pos (Int.natCast_nonneg _), if_pos (by omega), hw2,
      Int.toNat_natCast, set_step l a i bs (by omega) (by omega)]
    exact ih k (i + 1) (by omega)

theorem cpy_nil (l : List Int) (a : Nat) (h : a ≤ l.length) : cpy l a [] = l := by
  rw [cpy_fits l a [] (by simpa using h)]
  simp

theorem puts (l : List Int) (a n x : Nat) (hwd : (n : Int) = 1 ∨ (n : Int) = 2 ∨ (n : Int) = 4 ∨ (n : Int) = 8) (hl : l.length < 140737488355328) (h : lies l.length (a : Int) (n : Int)) (hb : ∀ x ∈ l, 0 ≤ x ∧ x < 256) (hx : x < 18446744073709551616) :
    ∃ r e c, r.length < 140737488355328 ∧ ((e = none ∧ c = 0) ∨ (e = some 28 ∧ c = 28)) ∧ ∀ k, span_Put.f (k + n + 3) l (a : Int) (n : Int) (x : Int) = some (r, e) ∧ shackleref01_Put.f (k + n + 3) l (a : Int) (n : Int) (x : Int) = some (r, c) := by
  obtain ⟨g, hg⟩ := gets l a n hwd hl h hb
  have hle : a + n ≤ l.length := by have := h.1; have := h.2; omega
  have hn8 : n ≤ 8 := by omega
  have hclone : bytes_Clone.f l = some l := by unfold bytes_Clone.f; rw [if_pos hl]
  by_cases hlt : x < 2 ^ (8 * n)
  · refine ⟨cpy l a (bytesLE n x), none, 0, by rw [cpy_length]; exact hl, .inl ⟨rfl, rfl⟩, fun k => ⟨?_, ?_⟩⟩
    · have hj := join_one n hwd x hx k
      rw [if_pos hlt] at hj
      unfold span_Put.f
      rw [show k + n + 3 = (k + 2) + n + 1 by omega, (hg (k + 2)).1, Option.bind_some, if_pos (by simp), show (k + 2) + n + 1 = k + 1 + n + 1 + 1 by omega, hj, Option.bind_some, if_pos (by simp), hclone, Option.bind_some, if_pos (Int.natCast_nonneg _), if_pos h.1, Int.toNat_natCast]
    · unfold shackleref01_Put.f
      rw [show k + n + 3 = (k + 2) + n + 1 by omega, (hg (k + 2)).2, Option.bind_some, if_pos rfl, bytes_one n hn8 x hx, Option.bind_some, if_pos (decide_eq_true hlt), if_pos (by simpa using hl)]
      have := put_loop l a n (bytesLE n x) (bytesLE_length _ _) hl hle hn8 n (k + 2) 0 (by omega)
      rw [List.take_zero, cpy_nil l a (by omega)] at this
      exact this
  · refine ⟨[], some 28, 28, by decide, .inr ⟨rfl, rfl⟩, fun k => ⟨?_, ?_⟩⟩
    · have hj := join_one n hwd x hx k
      rw [if_neg hlt] at hj
      unfold span_Put.f
      rw [show k + n + 3 = (k + 2) + n + 1 by omega, (hg (k + 2)).1, Option.bind_some, if_pos (by simp), show (k + 2) + n + 1 = k + 1 + n + 1 + 1 by omega, hj, Option.bind_some, if_neg (by simp)]
      rfl
    · unfold shackleref01_Put.f
      rw [show k + n + 3 = (k + 2) + n + 1 by omega, (hg (k + 2)).2, Option.bind_some, if_pos rfl, bytes_one n hn8 x hx, Option.bind_some, decide_eq_false hlt, if_neg (by simp)]

/-! errors -/
theorem right_spot (a : Int) (h0 : 0 ≤ a) (h1 : a < 18446744073709551616) : shacklelaw01_right.f (some (spZ a 4)) 4 a = some true := by
  have hc : (0 : Int) ≤ 4 := by decide
  have hn := spZ_neg (a := a) (c := 4) h0 hc
  have hi : shacklelaw00_Is.f (some (spZ a 4)) a 4 = some true := by
    simp [shacklelaw00_Is.f, isF, hn, spAt_spZ h0 h1, spCode_spZ h0 h1]
  unfold shacklelaw01_right.f
  rw [if_pos rfl, hi]
  rfl
theorem right_code (e : Option Int) (c a : Int) (h : (e = none ∧ c = 0) ∨ (e = some 28 ∧ c = 28) ∨ (e = some 1 ∧ c = 1)) : shacklelaw01_right.f e c a = some true := by
  have h0 : shacklelaw00_Code.f none = some 0 := by decide +kernel
  have h1 : shacklelaw00_Code.f (some 28) = some 28 := by decide +kernel
  have h2 : shacklelaw00_Code.f (some 1) = some 1 := by decide +kernel
  unfold shacklelaw01_right.f
  rcases h with ⟨rfl, rfl⟩ | ⟨rfl, rfl⟩ | ⟨rfl, rfl⟩
  · rw [if_neg (by decide), if_neg (by decide), h0]; rfl
  · rw [if_neg (by decide), if_neg (by decide), h1]; rfl
  · rw [if_neg (by decide), if_neg (by decide), h2]; rfl

/-- All parts together. -/
theorem whole (l : List Int) (a n v : Int) (K : Nat) (g : Int) (e f : Option Int) (c d : Int) (r : List Int) (hl : l.length < 140737488355328)
    (hs : shacklelaw01_shown.f K = some true) (hg : span_Get.f K l a n = some (g, e)) (hrg : shackleref01_Get.f K l a n = some (g, c))
    (hp : span_Put.f K l a n v = some (r, f)) (hrp : shackleref01_Put.f K l a n v = some (r, d))
    (hsame : shackleref01_Same.f K r r = some true) (hstay : shackleref01_Same.f K l l = some true)
    (h1 : shacklelaw01_right.f e c a = some true) (h2 : shacklelaw01_right.f f d a = some true) : shacklelaw01_SpanNumbers.f K l a n v = some true := by
  unfold shacklelaw01_SpanNumbers.f
  rw [hs, Option.bind_some, hg, Option.bind_some, hrg, Option.bind_some, if_pos (by simpa using hl), Option.bind_some, List.nil_append, hp, Option.bind_some, hrp, Option.bind_some]
  simp only [hsame, Option.bind_some, h1, h2, hstay]
  by_cases hr : (r.length : Int) > 0
  · rw [if_pos hr, if_pos hr]
    simp
  · rw [if_neg hr]
    simp

theorem rounds {l r : List Int} {K : Nat} (hl : l.length < 140737488355328) (hr : r.length < 140737488355328) (hK : l.length + r.length + 200 ≤ K) :
    shacklelaw01_shown.f K = some true ∧ shackleref01_Same.f K r r = some true ∧ shackleref01_Same.f K l l = some true := by
  refine ⟨at_rounds (g := shacklelaw01_shown.f) shacklelaw01_shown.mono (k := 100) (by omega) shown_holds, ?_, ?_⟩
  · obtain ⟨k, rfl⟩ : ∃ k, K = k + r.length + 1 := ⟨K - r.length - 1, by omega⟩
    exact same_refl r hr k
  · obtain ⟨k, rfl⟩ : ∃ k, K = k + l.length + 1 := ⟨K - l.length - 1, by omega⟩
    exact same_refl l hl k

theorem put_get (l : List Int) (a n v : Int) (K : Nat) (g z c : Int) (hg : span_Get.f K l a n = some (g, some z)) (hrg : shackleref01_Get.f K l a n = some (g, c)) (hc : ¬ c = 0) :
    span_Put.f K l a n v = some ([], some z) ∧ shackleref01_Put.f K l a n v = some ([], c) := by
  constructor
  · unfold span_Put.f
    rw [hg, Option.bind_some, if_neg (by simp)]
    rfl
  · unfold shackleref01_Put.f
    rw [hrg, Option.bind_some, if_neg hc]

theorem SpanNumbers : shacklelaw01_SpanNumbers.Pure := by
  intro l a n v hg hz ha hn hv
  have ha := lit_u64 ha
  have hv := lit_u64 hv
  have hl : l.length < 140737488355328 := by have := hz.1; clear hg hz ha hn hv; omega
  have hb : ∀ x ∈ l, 0 ≤ x ∧ x < 256 := fun x hx => lit_u8 (hg.2 x hx)
  clear hg hz hn
  by_cases hwd : n = 1 ∨ n = 2 ∨ n = 4 ∨ n = 8
  · by_cases h : lies l.length a n
    · obtain ⟨i, rfl⟩ := Int.eq_ofNat_of_zero_le ha.1
      obtain ⟨x, rfl⟩ := Int.eq_ofNat_of_zero_le hv.1
      obtain ⟨m, rfl⟩ : ∃ m : Nat, n = (m : Int) := ⟨n.toNat, by clear ha hv hl h; omega⟩
      obtain ⟨g, h1⟩ := gets l i m hwd hl h hb
      obtain ⟨r, f, d, hr, hfd, h2⟩ := puts l i m x hwd hl h hb (by clear ha hl h hwd; omega)
      obtain ⟨K, hK⟩ : ∃ K, K = l.length + r.length + 200 + m + 3 := ⟨_, rfl⟩
      obtain ⟨s1, s2, s3⟩ := rounds hl hr (K := K) (by clear ha hv hl h hwd hfd; omega)
      have h1 := h1 (l.length + r.length + 202)
      have h2 := h2 (l.length + r.length + 200)
      rw [show l.length + r.length + 202 + m + 1 = K by clear ha hv hl h hwd hfd; omega] at h1
      rw [← hK] at h2
      exact ⟨K, whole l i m x K g none f 0 d r hl s1 h1.1 h1.2 h2.1 h2.2 s2 s3 (right_code _ _ _ (.inl ⟨rfl, rfl⟩)) (right_code _ _ _ (hfd.elim .inl (fun h => .inr (.inl h))))⟩
    · obtain ⟨s1, s2, s3⟩ := rounds (r := ([] : List Int)) hl (by decide) (K := l.length + 200) (by simp)
      obtain ⟨h1, h2⟩ := get_out l a n hwd hl ha.1 ha.2 h (l.length + 200)
      obtain ⟨h3, h4⟩ := put_get l a n v _ _ _ _ h1 h2 (by decide)
      exact ⟨_, whole l a n v _ _ _ _ _ _ _ hl s1 h1 h2 h3 h4 s2 s3 (right_spot a ha.1 ha.2) (right_spot a ha.1 ha.2)⟩
  · obtain ⟨s1, s2, s3⟩ := rounds (r := ([] : List Int)) hl (by decide) (K := l.length + 200) (by simp)
    obtain ⟨h1, h2⟩ := get_narrow l a n hwd (l.length + 200)
    obtain ⟨h3, h4⟩ := put_get l a n v _ _ _ _ h1 h2 (by decide)
    exact ⟨_, whole l a n v _ _ _ _ _ _ _ hl s1 h1 h2 h3 h4 s2 s3 (right_code _ _ _ (.inr (.inr ⟨rfl, rfl⟩))) (right_code _ _ _ (.inr (.inr ⟨rfl, rfl⟩)))⟩
end Go.Proofs.YthhlnhbmjkjmlaaDoor.Pure
