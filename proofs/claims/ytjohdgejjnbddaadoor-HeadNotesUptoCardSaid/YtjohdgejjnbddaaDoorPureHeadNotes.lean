/- shacklelaw04.HeadNotes: the pure statement: a file's notes are read one behind the other as the document says, or refused at the first that isn't whole. Condition: the arguments together hold at most 1048576 values and letters (the second form). -/
import Derived.Test.YtjohdgejjnbddaaDoorPHeadNotesx11
import Derived.Test.YtjohdgejjnbddaaDoorXBits
set_option linter.unusedSimpArgs false
set_option linter.unusedVariables false
namespace Go.Proofs.YtjohdgejjnbddaaDoor.Pure
open Go.RowKit Go.Proofs.YtjohdgejjnbddaaDoor.PHeadNotes Go.Proofs.YtjohdgejjnbddaaDoorW.PrintWords Go.Proofs.YtjohdgejjnbddaaDoorW.PrintLast Go.Proofs.YtjohdgejjnbddaaDoorX
def lies (n : Nat) (a b : Int) : Prop := a ≤ (n : Int) ∧ b ≤ (n : Int) - a
instance (n : Nat) (a b : Int) : Decidable (lies n a b) := inferInstanceAs (Decidable (_ ∧ _))
theorem in_of (n : Nat) (a b : Int) (hn : n < 140737488355328) (ha : 0 ≤ a) : span_In.f (IntKind.u64.wrap (n : Int)) a b = some (decide (lies n a b)) := by
  have hw : IntKind.u64.wrap (n : Int) = (n : Int) := uwrap_id (Int.natCast_nonneg _) (by omega)
  unfold span_In.f
  rw [hw]
  by_cases h : a ≤ (n : Int)
  · have hw2 : IntKind.u64.wrap ((n : Int) - a) = (n : Int) - a := uwrap_id (by omega) (by omega)
    rw [if_pos h, hw2]
    simp [lies, h]
  · rw [if_neg h]
    simp [lies, h]

theorem ref_in_of (n : Nat) (a b : Int) (hn : n < 140737488355328) (ha : 0 ≤ a) : shackleref01_In.f (IntKind.u64.wrap (n : Int)) a b = some (decide (lies n a b)) := in_of n a b hn ha

theorem take_snoc (l : List Int) (a i : Nat) (h : a + i < l.length) : (l.take (a + i)).drop a ++ [rd l ((a + i : Nat) : Int)] = (l.take (a + (i + 1))).drop a := by
  rw [show a + (i + 1) = (a + i) + 1 by omega, List.take_add_one, rd_at l (a + i) h, List.getElem?_eq_getElem h]
  rw [List.drop_append_of_le_length (by rw [List.length_take]; omega)]
  rfl

theorem ref_loop (l : List Int) (a b : Nat) (hn : l.length < 140737488355328) (hle : a + b ≤ l.length) (d : Nat) : ∀ (k i : Nat), i + d = b →
    shackleref01_Cut.l0 (k + d + 1) l (a : Int) (b : Int) ((l.take (a + i)).drop a) (i : Int) = some ((l.take (a + b)).drop a, true) := by
  induction d with
  | zero =>
    intro k i hi
    obtain rfl : i = b := by omega
    rw [shackleref01_Cut.l0, if_neg (by omega)]
  | succ d ih =>
    intro k i hi
    have hil : a + i < l.length := by omega
    have hw : IntKind.u64.wrap ((a : Int) + (i : Int)) = ((a + i : Nat) : Int) := by rw [uwrap_id (by omega) (by omega)]; omega
    have hw2 : IntKind.u64.wrap ((i : Int) + 1) = ((i + 1 : Nat) : Int) := by rw [uwrap_id (by omega) (by omega)]; omega
    have hlen : ((l.take (a + i)).drop a).length < 140737488355328 := by rw [List.length_drop, List.length_take]; omega
    rw [show k + (d + 1) + 1 = (k + d + 1) + 1 by omega, shackleref01_Cut.l0, if_pos (by omega), hw, if_pos (Int.natCast_nonneg _), if_pos (by omega), if_pos hlen, take_snoc l a i hil, hw2]
    exact ih k (i + 1) (by omega)

theorem ref_cut_in (l : List Int) (a b : Nat) (hn : l.length < 140737488355328) (h : lies l.length (a : Int) (b : Int)) (k : Nat) :
    shackleref01_Cut.f (k + b + 1) l (a : Int) (b : Int) = some ((l.take (a + b)).drop a, true) := by
  unfold shackleref01_Cut.f
  rw [ref_in_of _ _ _ hn (Int.natCast_nonneg _), Option.bind_some, if_pos (decide_eq_true h)]
  have h1 := h.1
  have h2 := h.2
  have := ref_loop l a b hn (by omega) b k 0 (by omega)
  rw [show (l.take (a + 0)).drop a = ([] : List Int) by apply List.drop_eq_nil_of_le; rw [List.length_take]; omega] at this
  exact this

theorem ref_cut_out (l : List Int) (a b : Int) (hn : l.length < 140737488355328) (ha : 0 ≤ a) (h : ¬ lies l.length a b) (k : Nat) :
    shackleref01_Cut.f k l a b = some (([] : List Int), false) := by
  unfold shackleref01_Cut.f
  rw [ref_in_of _ _ _ hn ha, Option.bind_some, decide_eq_false h, if_neg (by simp)]

theorem same_self (r : List Int) (hl : r.length < 140737488355328) (d : Nat) : ∀ (k i : Nat), i + d = r.length → shackleref01_Same.l0 (k + d + 1) r r (i : Int) = some true := by
  induction d with
  | zero =>
    intro k i hi
    rw [shackleref01_Same.l0]
    rw [if_neg (by omega)]
  | succ d ih =>
    intro k i hi
    rw [show k + (d + 1) + 1 = (k + d + 1) + 1 by omega, shackleref01_Same.l0]
    have hwr : wrap64 ((i : Int) + 1) = ((i + 1 : Nat) : Int) := by rw [w64_id (by omega) (by omega)]; omega
    rw [if_pos (by omega), if_pos (by omega), if_pos (by omega), if_pos rfl, hwr]
    exact ih k (i + 1) (by omega)
theorem same_refl (r : List Int) (hl : r.length < 140737488355328) (k : Nat) : shackleref01_Same.f (k + r.length + 1) r r = some true := by
  unfold shackleref01_Same.f
  rw [if_pos rfl]
  exact same_self r hl r.length k 0 (Nat.zero_add _)

theorem wide_of {n : Int} (h : n = 1 ∨ n = 2 ∨ n = 4 ∨ n = 8) : span_wide.f n = some true := by rcases h with rfl | rfl | rfl | rfl <;> rfl
theorem widths_of {n : Int} (h : n = 1 ∨ n = 2 ∨ n = 4 ∨ n = 8) : shackleref01_widths.f n = some true := by rcases h with rfl | rfl | rfl | rfl <;> rfl
theorem or_byte (u b : Nat) (hu : u < 18446744073709551616) (hd : u % 256 = 0) (hb : b < 256) : Go.bits .or .u64 (u : Int) (b : Int) = ((u + b : Nat) : Int) := by
  obtain ⟨q, rfl⟩ : ∃ q, u = 256 * q := ⟨u / 256, by omega⟩
  have h1 : (256 * q) ||| b = 256 * q + b := (Nat.two_pow_add_eq_or_of_lt (i := 8) hb q).symm
  have e1 : (BitVec.ofInt 64 ((256 * q : Nat) : Int)).toNat = 256 * q := by
    rw [BitVec.ofInt_natCast, BitVec.toNat_ofNat]
    exact Nat.mod_eq_of_lt (by omega)
  have e2 : (BitVec.ofInt 64 ((b : Nat) : Int)).toNat = b := by
    rw [BitVec.ofInt_natCast, BitVec.toNat_ofNat]
    exact Nat.mod_eq_of_lt (by omega)
  show IntKind.u64.wrap (((BitVec.ofInt 64 ((256 * q : Nat) : Int)) ||| (BitVec.ofInt 64 ((b : Nat) : Int))).toNat : Int) = _
  rw [BitVec.toNat_or, e1, e2, h1]
  exact uwrap_id (Int.natCast_nonneg _) (by omega)

theorem rd_cut (l : List Int) (a n i : Nat) (h : a + n ≤ l.length) (hi : i < n) : rd ((l.take (a + n)).drop a) (i : Int) = rd l ((a + i : Nat) : Int) := by
  have h1 : i < ((l.take (a + n)).drop a).length := by rw [List.length_drop, List.length_take]; omega
  rw [rd_at _ i h1, rd_at l (a + i) (by omega), List.getElem_drop, List.getElem_take]

theorem get_loops (l : List Int) (a n : Nat) (hn : l.length < 140737488355328) (hle : a + n ≤ l.length) (hb : ∀ x ∈ l, 0 ≤ x ∧ x < 256) (d : Nat) : ∀ (v : Int), d ≤ n → ∃ x, ∀ k,
    span_Get.l0 (k + d + 1) l (a : Int) v ((d : Int) - 1) = some (x, none) ∧ shackleref01_Get.l0 (k + d + 1) ((l.take (a + n)).drop a) v ((d : Int) - 1) = some (x, 0) := by
  induction d with
  | zero =>
    intro v hd
    refine ⟨v, fun k => ⟨?_, ?_⟩⟩
    · rw [span_Get.l0, if_neg (by omega)]
    · rw [shackleref01_Get.l0, if_neg (by omega)]
  | succ d ih =>
    intro v hd
    obtain ⟨x, hx⟩ := ih (IntKind.u64.wrap ((IntKind.u64.wrap (256 * v)) + rd l ((a + d : Nat) : Int))) (by omega)
    refine ⟨x, fun k => ?_⟩
    have hc : ((l.take (a + n)).drop a).length = n := by rw [List.length_drop, List.length_take]; omega
    have hi : (((d + 1 : Nat) : Int) - 1) = (d : Int) := by omega
    have hbyte := hb _ (rd_mem l (a + d) (by omega))
    have hw1 : IntKind.u64.wrap (d : Int) = (d : Int) := uwrap_id (by omega) (by omega)
    have hw2 : IntKind.u64.wrap ((a : Int) + (d : Int)) = ((a + d : Nat) : Int) := by rw [uwrap_id (by omega) (by omega)]; omega
    have hw3 : IntKind.u64.wrap (rd l ((a + d : Nat) : Int)) = rd l ((a + d : Nat) : Int) := uwrap_id hbyte.1 (by omega)
    have hw4 : wrap64 ((d : Int) - 1) = (d : Int) - 1 := w64_id (by omega) (by omega)
    have hor : Go.bits .or .u64 (IntKind.u64.wrap (v * 256)) (rd l ((a + d : Nat) : Int)) = IntKind.u64.wrap ((IntKind.u64.wrap (256 * v)) + rd l ((a + d : Nat) : Int)) := by
      rw [Int.mul_comm v 256]
      obtain ⟨u, hu⟩ : ∃ u : Nat, IntKind.u64.wrap (256 * v) = (u : Int) := ⟨(IntKind.u64.wrap (256 * v)).toNat, by rw [uwrap]; omega⟩
      obtain ⟨b, hb2⟩ := Int.eq_ofNat_of_zero_le hbyte.1
      have hu2 : u < 18446744073709551616 ∧ u % 256 = 0 := by rw [uwrap] at hu; omega
      rw [hb2] at hbyte ⊢
      rw [hu, or_byte u b hu2.1 hu2.2 (by omega), uwrap_id (by omega) (by omega)]
      omega
    rw [hi, show k + (d + 1) + 1 = (k + d + 1) + 1 by omega]
    constructor
    · rw [span_Get.l0, if_pos (by omega), hw1, hw2, if_pos (Int.natCast_nonneg _), if_pos (by omega), hw3, hor, hw4]
      exact (hx k).1
    · rw [shackleref01_Get.l0, if_pos (by omega), if_pos (by omega), if_pos (by omega), rd_cut l a n d hle (by omega), hw3, hw4]
      exact (hx k).2

theorem gets (l : List Int) (a n : Nat) (hwd : (n : Int) = 1 ∨ (n : Int) = 2 ∨ (n : Int) = 4 ∨ (n : Int) = 8) (hn : l.length < 140737488355328) (h : lies l.length (a : Int) (n : Int)) (hb : ∀ x ∈ l, 0 ≤ x ∧ x < 256) : ∃ x, ∀ k,
    span_Get.f (k + n + 1) l (a : Int) (n : Int) = some (x, none) ∧ shackleref01_Get.f (k + n + 1) l (a : Int) (n : Int) = some (x, 0) := by
  obtain ⟨x, hx⟩ := get_loops l a n hn (by have := h.1; have := h.2; omega) hb n 0 (Nat.le_refl _)
  refine ⟨x, fun k => ?_⟩
  have hw1 : IntKind.u64.wrap (n : Int) = (n : Int) := uwrap_id (by omega) (by omega)
  have hw2 : wrap64 ((n : Int) - 1) = (n : Int) - 1 := w64_id (by omega) (by omega)
  constructor
  · unfold span_Get.f
    rw [wide_of hwd, Option.bind_some, if_pos rfl, hw1, in_of _ _ _ hn (Int.natCast_nonneg _), Option.bind_some, if_pos (decide_eq_true h), hw2]
    exact (hx k).1
  · unfold shackleref01_Get.f
    rw [widths_of hwd, Option.bind_some, if_pos rfl, hw1, ref_cut_in l a n hn h, Option.bind_some, if_pos rfl, hw2]
    exact (hx k).2

theorem get_out (l : List Int) (a n : Int) (hwd : n = 1 ∨ n = 2 ∨ n = 4 ∨ n = 8) (hn : l.length < 140737488355328) (ha : 0 ≤ a) (ha2 : a < 18446744073709551616) (h : ¬ lies l.length a n) (k : Nat) :
    span_Get.f k l a n = some (0, some (spZ a 4)) ∧ shackleref01_Get.f k l a n = some (0, 4) := by
  have hw1 : IntKind.u64.wrap n = n := uwrap_id (by omega) (by omega)
  constructor
  · unfold span_Get.f
    rw [wide_of hwd, Option.bind_some, if_pos rfl, hw1, in_of _ _ _ hn ha, Option.bind_some, decide_eq_false h, if_neg (by simp), if_pos ha, if_pos ha2]
  · unfold shackleref01_Get.f
    rw [widths_of hwd, Option.bind_some, if_pos rfl, hw1, ref_cut_out l a n hn ha h, Option.bind_some, if_neg (by simp)]

theorem getl_lt : ∀ (k : Nat) (l : List Int) (a v i : Int) (r : Int × Option Int), v < 18446744073709551616 → span_Get.l0 k l a v i = some r → r.1 < 18446744073709551616
  | 0, l, a, v, i, r, _, h => by simp [span_Get.l0] at h
  | k + 1, l, a, v, i, r, hv, h => by
    rw [span_Get.l0] at h
    split at h
    · split at h
      · split at h
        · exact getl_lt k l a _ _ r (hd_wrap_in _).2 h
        · cases h
      · cases h
    · cases h
      exact hv
theorem num_is (l : List Int) (hn : l.length < 140737488355328) (hb : ∀ x ∈ l, 0 ≤ x ∧ x < 256) (a n : Int) (ha : 0 ≤ a) (ha2 : a < 18446744073709551616) (hw : n = 1 ∨ n = 2 ∨ n = 4 ∨ n = 8) :
    0 ≤ getV l a n ∧ getV l a n < 18446744073709551616 ∧ ∀ k, 9 ≤ k → shackleref04_num.f k l a n = some (getV l a n) := by
  refine ⟨getV_nonneg l a n, ?_⟩
  by_cases h : lies l.length a n
  · obtain ⟨a, rfl⟩ := Int.eq_ofNat_of_zero_le ha
    obtain ⟨n, rfl⟩ : ∃ m : Nat, n = (m : Int) := ⟨n.toNat, by omega⟩
    obtain ⟨x, hx⟩ := gets l a n hw hn h hb
    have h12 := (hx (11 - n)).1
    rw [show 11 - n + n + 1 = 12 by omega] at h12
    have hg : getV l (a : Int) (n : Int) = x := by
      unfold getV head_file_get.f
      rw [h12]
      rfl
    rw [hg]
    constructor
    · have hwide := wide_of hw
      unfold span_Get.f at h12
      rw [hwide, Option.bind_some, if_pos rfl, uwrap_id (n := (n : Int)) (by omega) (by omega), in_of _ _ _ hn (Int.natCast_nonneg _), Option.bind_some, if_pos (decide_eq_true h)] at h12
      exact getl_lt _ _ _ _ _ _ (by decide) h12
    · intro k hk
      have := (hx (k - n - 1)).2
      rw [show k - n - 1 + n + 1 = k by omega] at this
      unfold shackleref04_num.f
      rw [this]
      rfl
  · have h0 := get_out l a n hw hn ha ha2 h
    have hg : getV l a n = 0 := by
      unfold getV head_file_get.f
      rw [(h0 12).1]
      rfl
    rw [hg]
    refine ⟨by decide, fun k _ => ?_⟩
    unfold shackleref04_num.f
    rw [(h0 k).2]
    rfl

/-! the header's fixed numbers -/
def toBad : Option Int → Int × Bool × Int
  | none => (0, false, 0)
  | some q => if q < 0 then (spCode q, true, spAt q) else (q, false, 0)
theorem toBad_spot {a c : Int} (h0 : 0 ≤ a) (h1 : a < 18446744073709551616) (hc : 0 ≤ c) : toBad (some (spZ a c)) = (c, true, a) := by
  show (if spZ a c < 0 then (spCode (spZ a c), true, spAt (spZ a c)) else (spZ a c, false, 0)) = _
  rw [if_pos (spZ_neg h0 hc), spCode_spZ h0 h1, spAt_spZ h0 h1]
theorem getl_small (l : List Int) (a : Nat) (hn : l.length < 140737488355328) (hb : ∀ x ∈ l, 0 ≤ x ∧ x < 256) : ∀ (m k : Nat) (v : Nat) (B : Nat) (r : Int × Option Int), a + m ≤ l.length → v < B → B * 256 ^ m ≤ 18446744073709551616 → span_Get.l0 (k + m + 1) l (a : Int) (v : Int) ((m : Int) - 1) = some r → r.1 < ((B * 256 ^ m : Nat) : Int)
  | 0, k, v, B, r, _, hv, _, h => by
    rw [span_Get.l0, if_neg (by omega)] at h
    cases h
    show (v : Int) < _
    rw [Nat.pow_zero, Nat.mul_one]
    omega
  | m + 1, k, v, B, r, hm, hv, hB, h => by
    have hbyte := hb _ (rd_mem l (a + m) (by omega))
    have hi : (((m + 1 : Nat) : Int) - 1) = (m : Int) := by omega
    have hw1 : IntKind.u64.wrap (m : Int) = (m : Int) := uwrap_id (by omega) (by omega)
    have hw2 : IntKind.u64.wrap ((a : Int) + (m : Int)) = ((a + m : Nat) : Int) := by rw [uwrap_id (by omega) (by omega)]; omega
    have hw3 : IntKind.u64.wrap (rd l ((a + m : Nat) : Int)) = rd l ((a + m : Nat) : Int) := uwrap_id hbyte.1 (by omega)
    have hw4 : wrap64 ((m : Int) - 1) = (m : Int) - 1 := w64_id (by omega) (by omega)
    rw [hi, show k + (m + 1) + 1 = (k + m + 1) + 1 by omega, span_Get.l0, if_pos (by omega), hw1, hw2, if_pos (Int.natCast_nonneg _), if_pos (by omega), hw3, hw4] at h
    obtain ⟨b, hb2⟩ := Int.eq_ofNat_of_zero_le hbyte.1
    have hpow : B * 256 ^ (m + 1) = (B * 256) * 256 ^ m := by rw [Nat.pow_succ, Nat.mul_assoc, Nat.mul_comm 256]
    have h1 : 1 ≤ 256 ^ m := Nat.pos_of_ne_zero (by simp)
    have hB2 : B * 256 ≤ 18446744073709551616 := by
      have : B * 256 * 1 ≤ B * 256 * 256 ^ m := Nat.mul_le_mul_left _ h1
      omega
    have hvw : IntKind.u64.wrap ((v : Int) * 256) = ((v * 256 : Nat) : Int) := by rw [uwrap_id (by omega) (by omega)]; omega
    rw [hb2] at hbyte h
    rw [hvw, or_byte (v * 256) b (by omega) (by omega) (by omega)] at h
    have := getl_small l a hn hb m k (v * 256 + b) (B * 256) r (by omega) (by omega) (by omega) h
    rw [hpow]
    exact this
theorem getV_four (l : List Int) (hn : l.length < 140737488355328) (hb : ∀ x ∈ l, 0 ≤ x ∧ x < 256) (a : Int) (ha : 0 ≤ a) (ha2 : a < 18446744073709551616) : getV l a 4 < 4294967296 := by
  by_cases h : lies l.length a 4
  · obtain ⟨a, rfl⟩ := Int.eq_ofNat_of_zero_le ha
    obtain ⟨x, hx⟩ := gets l a 4 (by omega) hn h hb
    have h12 := (hx 7).1
    have hg : getV l (a : Int) 4 = x := by
      unfold getV head_file_get.f
      rw [show span_Get.f 12 l (a : Int) 4 = some (x, none) from h12]
      rfl
    rw [hg]
    have hw1 : IntKind.u64.wrap ((4 : Nat) : Int) = ((4 : Nat) : Int) := uwrap_id (by omega) (by omega)
    have hw2 : wrap64 (((4 : Nat) : Int) - 1) = ((4 : Nat) : Int) - 1 := w64_id (by omega) (by omega)
    unfold span_Get.f at h12
    rw [wide_of (by omega), Option.bind_some, if_pos rfl, hw1, in_of _ _ _ hn (Int.natCast_nonneg _), Option.bind_some, if_pos (decide_eq_true (show lies l.length (a : Int) ((4 : Nat) : Int) from h)), hw2] at h12
    have h2 := h.2
    have := getl_small l a hn hb 4 7 0 1 (x, none) (by omega) (by decide) (by decide) h12
    exact this
  · have h0 := get_out l a 4 (by omega) hn ha ha2 h
    have hg : getV l a 4 = 0 := by
      unfold getV head_file_get.f
      rw [(h0 12).1]
      rfl
    rw [hg]
    decide
/-- A length, brought up to a multiple of four. -/
def fourV (n : Int) : Int := n + 3 - (n + 3) % 4
theorem four_is (n : Int) (h0 : 0 ≤ n) (h1 : n < 4294967296) : head_four.f n = some (fourV n) ∧ shackleref04_four.f n = some (fourV n) := by
  obtain ⟨n, rfl⟩ := Int.eq_ofNat_of_zero_le h0
  have hw : IntKind.u64.wrap ((n : Int) + 3) = ((n + 3 : Nat) : Int) := by rw [uwrap_id (by omega) (by omega)]; omega
  constructor
  · unfold head_four.f fourV
    have := u64_andNot_nat (n + 3) 3 (by omega) (by omega)
    rw [show ((3 : Nat) : Int) = 3 from rfl] at this
    rw [hw, this, show (3 : Nat) = 2 ^ 2 - 1 from rfl, andNot_pow (n + 3) 2 (by omega) (by omega)]
    congr 1
    omega
  · unfold shackleref04_four.f fourV
    rw [hw, Int.tdiv_eq_ediv_of_nonneg (Int.natCast_nonneg _), uwrap_id (n := ((n + 3 : Nat) : Int) / 4) (by omega) (by omega), uwrap_id (by omega) (by omega)]
    congr 1
    omega
theorem four_bounds (n : Int) (h0 : 0 ≤ n) : n ≤ fourV n ∧ fourV n ≤ n + 3 := by unfold fourV; omega
/-- A note at a place, ahead of so many bytes: what is amiss with it, or it, and its size. -/
def noteR (l : List Int) (p left : Int) : Int × Option (S58 × Int) :=
  if left < 12 then (4, none)
  else if fourV (getV l p 4) > left - 12 then (4, none)
  else if getV l (p + 4) 4 > left - 12 - fourV (getV l p 4) then (4, none)
  else if 0 < getV l p 4 ∧ ¬ rd l (p + 12 + getV l p 4 - 1) = 0 then (29, none)
  else (0, some (⟨if 0 < getV l p 4 then strOfNums ((l.take (p + 12 + getV l p 4 - 1).toNat).drop (p + 12).toNat) else ⟨#[]⟩, getV l (p + 8) 4 % 4294967296, (l.drop (p + 12 + fourV (getV l p 4)).toNat).take (getV l (p + 4) 4).toNat⟩, 12 + fourV (getV l p 4) + fourV (getV l (p + 4) 4)))
theorem noteR_some (l : List Int) (p left : Int) (hn0 : 0 ≤ getV l p 4) (hd0 : 0 ≤ getV l (p + 4) 4) {x : S58} {sz c : Int} (h : noteR l p left = (c, some (x, sz))) : 12 ≤ sz ∧ sz ≤ left + 3 ∧ x.f2.length ≤ l.length ∧ c = 0 := by
  have b1 := four_bounds _ hn0
  have b2 := four_bounds _ hd0
  unfold noteR at h
  split at h
  · cases h
  · split at h
    · cases h
    · split at h
      · cases h
      · split at h
        · cases h
        · injection h with h1 h2
          injection h2 with h2
          injection h2 with h3 h4
          subst h1
          subst h3
          subst h4
          refine ⟨by omega, by omega, ?_, rfl⟩
          show ((l.drop _).take _).length ≤ _
          rw [List.length_take, List.length_drop]
          omega
theorem noteR_none (l : List Int) (p left : Int) {c : Int} (h : noteR l p left = (c, none)) : c = 4 ∨ c = 29 := by
  unfold noteR at h
  split at h
  · cases h; exact .inl rfl
  · split at h
    · cases h; exact .inl rfl
    · split at h
      · cases h; exact .inl rfl
      · split at h
        · cases h; exact .inr rfl
        · cases h
theorem get_is (l : List Int) (hn : l.length < 140737488355328) (a : Int) (ha : 0 ≤ a) (ha2 : a < 18446744073709551616) (k : Nat) (hk : 12 ≤ k) : head_file_get.f k l a 4 = some (getV l a 4) := by
  have h := getV_is l a 4 hn ha ha2 (by omega)
  obtain ⟨m, rfl⟩ : ∃ m, k = 12 + m := ⟨k - 12, by omega⟩
  clear hk
  induction m with
  | zero => exact h
  | succ m ih => exact head_file_get.mono _ _ _ _ _ ih
theorem note_is (l : List Int) (hn : l.length < 140737488355328) (hb : ∀ x ∈ l, 0 ≤ x ∧ x < 256) (p left : Int) (hp : 0 ≤ p) (hl : 0 ≤ left) (hpl : p + left ≤ l.length) (k : Nat) (hk : 20 ≤ k) :
    head_file_note.f k l p left = some (match noteR l p left with | (c, none) => (⟨#[]⟩, 0, [], 0, some (spZ p c)) | (_, some (x, sz)) => (x.f0, x.f1, x.f2, sz, none)) := by
  have hspot : ∀ c : Int, 0 ≤ c → head_spot.f c p = some (some (spZ p c)) := fun c hc => by
    unfold head_spot.f
    rw [if_pos hp, if_pos (by omega), if_pos hc]
  unfold head_file_note.f noteR
  by_cases h1 : left < 12
  · rw [if_pos h1, if_pos h1, hspot _ (by decide)]
    rfl
  rw [if_neg h1, if_neg h1]
  have w4 : IntKind.u64.wrap (p + 4) = p + 4 := uwrap_id (by omega) (by omega)
  have w8 : IntKind.u64.wrap (p + 8) = p + 8 := uwrap_id (by omega) (by omega)
  have w12 : IntKind.u64.wrap (p + 12) = p + 12 := uwrap_id (by omega) (by omega)
  have wl : IntKind.u64.wrap (left - 12) = left - 12 := uwrap_id (by omega) (by omega)
  have n0 := getV_nonneg l p 4
  have d0 := getV_nonneg l (p + 4) 4
  have n1 := getV_four l hn hb p hp (by omega)
  have d1 := getV_four l hn hb (p + 4) (by omega) (by omega)
  rw [w4, wl, get_is l hn p hp (by omega) k (by omega), Option.bind_some, get_is l hn (p + 4) (by omega) (by omega) k (by omega), Option.bind_some]
  have g8 := fun k hk => get_is l hn (p + 8) (by omega) (by omega) k hk
  generalize getV l p 4 = n at *
  generalize getV l (p + 4) 4 = d at *
  have f1 := (four_is n n0 n1).1
  have f2 := (four_is d d0 d1).1
  have b1 := four_bounds n n0
  have b2 := four_bounds d d0
  rw [f1, Option.bind_some]
  obtain ⟨m, rfl⟩ : ∃ m, k = m + 2 := ⟨k - 2, by omega⟩
  have hj : ∀ b : Bool, head_file_note.j0 (m + 2) p n d b l = if b = true then some (⟨#[]⟩, 0, [], 0, some (spZ p 4)) else head_file_note.j0 (m + 2) p n d false l := by
    intro b
    cases b
    · rfl
    · rw [if_pos rfl, head_file_note.j0, if_pos rfl, hspot _ (by decide)]
      rfl
  by_cases h2 : fourV n > left - 12
  · rw [if_pos h2, if_pos h2, hj, if_pos rfl]
  rw [if_neg h2, if_neg h2, Option.bind_some, uwrap_id (n := left - 12 - fourV n) (by omega) (by omega), hj]
  by_cases h3 : d > left - 12 - fourV n
  · rw [if_pos (decide_eq_true h3), if_pos h3]
  rw [if_neg (show ¬ decide (d > left - 12 - fourV n) = true by simpa using h3), if_neg h3, head_file_note.j0, if_neg (show ¬ (false = true) by decide), w8, w12, g8 _ (by omega), Option.bind_some]
  have wn : IntKind.u64.wrap (p + 12 + n) = p + 12 + n := uwrap_id (by omega) (by omega)
  have wf : IntKind.u64.wrap (p + 12 + fourV n) = p + 12 + fourV n := uwrap_id (by omega) (by omega)
  have hj1 : ∀ (s : ByteArray) (t : Int), head_file_note.j1 (m + 1) p n d l s t = some (s, t, (l.drop (p + 12 + fourV n).toNat).take d.toNat, 12 + fourV n + fourV d, none) := by
    intro s t
    have hlen : ((l.drop (p + 12 + fourV n).toNat).take d.toNat).length < 140737488355328 := by rw [List.length_take, List.length_drop]; omega
    rw [head_file_note.j1, f1, Option.bind_some, w12, wf, if_pos (by omega), if_pos (by omega), if_pos d0, if_pos (by rw [List.length_drop]; omega), show slices_Clone_byte_byte.f ((l.drop (p + 12 + fourV n).toNat).take d.toNat) = some _ from if_pos hlen, Option.bind_some, Option.bind_some, f2, Option.bind_some, uwrap_id (n := 12 + fourV n) (by omega) (by omega), uwrap_id (by omega) (by omega)]
  by_cases h4 : n > 0
  · have wn1 : IntKind.u64.wrap (p + 12 + n - 1) = p + 12 + n - 1 := uwrap_id (by omega) (by omega)
    rw [if_pos h4, wn, wn1, if_pos (by omega), if_pos (by omega)]
    by_cases h5 : rd l (p + 12 + n - 1) = 0
    · rw [if_pos h5, if_pos (by omega), if_pos (by omega), if_pos (by omega), hj1, if_neg (fun h => h.2 h5)]
      dsimp only
      rw [if_pos h4]
    · rw [if_neg h5, hspot _ (by decide), if_pos ⟨h4, h5⟩]
      rfl
  · rw [if_neg h4, hj1, if_neg (fun h => h4 h.1)]
    dsimp only
    rw [if_neg h4]
theorem ref_step (l : List Int) (hn : l.length < 140737488355328) (hb : ∀ x ∈ l, 0 ≤ x ∧ x < 256) (acc : List S58) (hacc : acc.length < 2932031007402) (i E p ty en : Int) (ps : List S50) (hp : 0 ≤ p) (hpE : p < E) (hE : E ≤ l.length) (k : Nat) (hk : l.length + 20 ≤ k) :
    shackleref04_Notes.l1 (k + 4) l acc i E p ty en ps = match noteR l p (E - p) with
      | (c, none) => some ([], c, true, p)
      | (_, some (x, sz)) => shackleref04_Notes.l1 k l (acc ++ [x]) i E (p + sz) ty en ps := by
  unfold noteR
  have wl : IntKind.u64.wrap (E - p) = E - p := uwrap_id (by omega) (by omega)
  have w4 : IntKind.u64.wrap (p + 4) = p + 4 := uwrap_id (by omega) (by omega)
  rw [shackleref04_Notes.l1, if_pos hpE, wl, w4]
  by_cases h1 : E - p < 12
  · rw [if_pos h1, if_pos h1]
    rfl
  rw [if_neg h1, if_neg h1]
  have wl2 : IntKind.u64.wrap (E - p - 12) = E - p - 12 := uwrap_id (by omega) (by omega)
  have w8 : IntKind.u64.wrap (p + 8) = p + 8 := uwrap_id (by omega) (by omega)
  have w12 : IntKind.u64.wrap (p + 12) = p + 12 := uwrap_id (by omega) (by omega)
  have n0 := getV_nonneg l p 4
  have d0 := getV_nonneg l (p + 4) 4
  have n1 := getV_four l hn hb p hp (by omega)
  have d1 := getV_four l hn hb (p + 4) (by omega) (by omega)
  rw [wl2, (num_is l hn hb p 4 hp (by omega) (by omega)).2.2 (k + 3) (by omega), Option.bind_some, (num_is l hn hb (p + 4) 4 (by omega) (by omega) (by omega)).2.2 (k + 3) (by omega), Option.bind_some]
  have g8 := (num_is l hn hb (p + 8) 4 (by omega) (by omega) (by omega)).2.2
  generalize getV l p 4 = n at *
  generalize getV l (p + 4) 4 = d at *
  have f1 := (four_is n n0 n1).2
  have f2 := (four_is d d0 d1).2
  have b1 := four_bounds n n0
  have b2 := four_bounds d d0
  rw [f1, Option.bind_some, Option.bind_some]
  have hj : ∀ b : Bool, shackleref04_Notes.j2 (k + 3) l acc i E p n d b ty en ps = if b = true then some ([], 4, true, p) else shackleref04_Notes.j2 (k + 3) l acc i E p n d false ty en ps := by
    intro b
    cases b
    · rfl
    · rw [if_pos rfl, shackleref04_Notes.j2, if_pos rfl]
      rfl
  by_cases h2 : fourV n > E - p - 12
  · rw [if_pos h2, if_pos h2, hj, if_pos rfl]
  rw [if_neg h2, if_neg h2, uwrap_id (n := E - p - 12 - fourV n) (by omega) (by omega), hj]
  by_cases h3 : d > E - p - 12 - fourV n
  · rw [if_pos (decide_eq_true h3), if_pos h3]
  have wn : IntKind.u64.wrap (p + 12 + n) = p + 12 + n := uwrap_id (by omega) (by omega)
  have wf : IntKind.u64.wrap (p + 12 + fourV n) = p + 12 + fourV n := uwrap_id (by omega) (by omega)
  rw [if_neg (show ¬ decide (d > E - p - 12 - fourV n) = true by simpa using h3), if_neg h3, shackleref04_Notes.j2, if_neg (show ¬ (false = true) by decide), w12, wn, if_pos (by omega), if_pos (by omega), if_pos (by omega)]
  have hcut : shackleref01_Cut.f k l (p + 12 + fourV n) d = some ((l.drop (p + 12 + fourV n).toNat).take d.toNat, true) := by
    obtain ⟨a, ha⟩ := Int.eq_ofNat_of_zero_le (show 0 ≤ p + 12 + fourV n by omega)
    obtain ⟨e, rfl⟩ := Int.eq_ofNat_of_zero_le d0
    rw [ha]
    have := ref_cut_in l a e hn ⟨by omega, by omega⟩ (k - e - 1)
    rw [show k - e - 1 + e + 1 = k by omega] at this
    rw [this, List.drop_take]
    simp
  have hj4 : ∀ (s : ByteArray) (t : Int), shackleref04_Notes.j4 (k + 1) l acc i E p n d ty en ps s t = shackleref04_Notes.l1 k l (acc ++ [⟨s, t, (l.drop (p + 12 + fourV n).toNat).take d.toNat⟩]) i E (p + (12 + fourV n + fourV d)) ty en ps := by
    intro s t
    rw [shackleref04_Notes.j4, f1, Option.bind_some, w12, wf, hcut, Option.bind_some, if_pos hacc, Option.bind_some, f2, Option.bind_some, wf, uwrap_id (n := p + 12 + fourV n + fourV d) (by omega) (by omega), show p + 12 + fourV n + fourV d = p + (12 + fourV n + fourV d) by omega]
  by_cases h4 : n > 0
  · have wn1 : IntKind.u64.wrap (n - 1) = n - 1 := uwrap_id (by omega) (by omega)
    obtain ⟨a, ha⟩ := Int.eq_ofNat_of_zero_le (show 0 ≤ p + 12 by omega)
    obtain ⟨e, he⟩ := Int.eq_ofNat_of_zero_le (show 0 ≤ n - 1 by omega)
    have hne : n = ((e + 1 : Nat) : Int) := by omega
    have hpn : p + 12 + n = ((a + (e + 1) : Nat) : Int) := by omega
    have hpn1 : p + 12 + n - 1 = ((a + e : Nat) : Int) := by omega
    have hlen : ((l.take (a + (e + 1))).drop a).length = e + 1 := by rw [List.length_drop, List.length_take]; omega
    have hrd : rd ((l.take (a + (e + 1))).drop a) (e : Int) = rd l ((a + e : Nat) : Int) := rd_cut l a (e + 1) e (by omega) (by omega)
    rw [if_pos h4, wn1, if_pos (by omega), hpn1, hpn, ha, Int.toNat_natCast, Int.toNat_natCast, he, hlen, if_pos (by omega), hrd, shackleref04_Notes.j3]
    by_cases h5 : rd l ((a + e : Nat) : Int) = 0
    · have hb5 : ¬ ((rd l ((a + e : Nat) : Int) != 0) = true) := by rw [bne_eq_false_iff_eq.2 h5]; decide
      have hname : ((l.take (a + (e + 1))).drop a).take ((e : Nat) : Int).toNat = (l.take (((a + e : Nat) : Int)).toNat).drop a := by
        rw [Int.toNat_natCast, Int.toNat_natCast, List.take_drop, List.take_take, show min (a + e) (a + (e + 1)) = a + e by omega]
      rw [if_neg hb5, w8, g8 _ (by omega), Option.bind_some, if_pos h4, wn1, he, if_pos (by omega), hlen, if_pos (by omega), hname, hj4, if_neg (fun h => h.2 h5)]
      dsimp only
      rw [if_pos h4, ha]
    · have hb5 : (rd l ((a + e : Nat) : Int) != 0) = true := bne_iff_ne.2 h5
      rw [if_pos hb5, if_pos ⟨h4, h5⟩]
      rfl
  · rw [if_neg h4, shackleref04_Notes.j3, if_neg (show ¬ (false = true) by decide), w8, g8 _ (by omega), Option.bind_some, if_neg h4, hj4, if_neg (fun h => h4 h.1)]
    dsimp only
    rw [if_neg h4]
def ErrN (e : Option Int) : Prop := e = none ∨ ∃ a c, e = some (spZ a c) ∧ 0 ≤ a ∧ a < 18446744073709551616 ∧ 0 ≤ c
def Good (l : List Int) (ps : List S50) (r : List S58 × Option Int) : Prop := ErrN r.2 ∧ (∀ x ∈ r.1, x.f2.length ≤ l.length) ∧ r.1.length ≤ ps.length * l.length
theorem rd50 (ps : List S50) (i : Nat) (hi : i < ps.length) : rd_T50 ps (i : Int) ∈ ps := by
  have e : rd_T50 ps (i : Int) = ps[i] := by simp [rd_T50, List.getD_eq_getElem?_getD, List.getElem?_eq_getElem hi]
  rw [e]
  exact List.getElem_mem hi
/-- The notes of one header from a place on, and then the others'. -/
theorem inner (l : List Int) (hn : l.length < 1048577) (hb : ∀ x ∈ l, 0 ≤ x ∧ x < 256) (ps : List S50) (hps : ps.length < 1048577) (ty en : Int) (i : Nat) (hi : i < ps.length) (E : Int) (hE : E ≤ l.length)
    (next : ∀ acc : List S58, acc.length ≤ (i + 1) * l.length → (∀ x ∈ acc, x.f2.length ≤ l.length) → ∃ r, Good l ps r ∧ ∃ K, ∀ k, K ≤ k → head_Notes.l0 k acc ps (ps.length : Int) ((i + 1 : Nat) : Int) l = some r ∧ shackleref04_Notes.l0 k l acc ((i + 1 : Nat) : Int) ty en ps = some (r.1, toBad r.2)) (m : Nat) :
    ∀ (p : Int) (acc : List S58), 0 ≤ p → (E - p).toNat ≤ m → p < 140737488355328 → acc.length + (E - p).toNat ≤ (i + 1) * l.length → (∀ x ∈ acc, x.f2.length ≤ l.length) →
      ∃ r, Good l ps r ∧ ∃ K, ∀ k, K ≤ k → head_Notes.l1 k acc p E ps (ps.length : Int) (i : Int) l = some r ∧ shackleref04_Notes.l1 k l acc (i : Int) E p ty en ps = some (r.1, toBad r.2) := by
  have hmul : (i + 1) * l.length ≤ 1048576 * 1048576 := Nat.mul_le_mul (by omega) (by omega)
  have hw : wrap64 ((i : Int) + 1) = ((i + 1 : Nat) : Int) := by rw [w64_id (by omega) (by omega)]; omega
  induction m with
  | zero =>
    intro p acc hp hm hp2 hacc hx
    obtain ⟨r, hg, K, hK⟩ := next acc (by omega) hx
    refine ⟨r, hg, K + 1, fun k hk => ?_⟩
    obtain ⟨k, rfl⟩ : ∃ j, k = j + 1 := ⟨k - 1, by omega⟩
    rw [head_Notes.l1, if_neg (by omega), shackleref04_Notes.l1, if_neg (by omega), hw]
    exact hK k (by omega)
  | succ m ih =>
    intro p acc hp hm hp2 hacc hx
    by_cases hpE : p < E
    · have hstep := fun k hk => ref_step l (by omega) hb acc (by omega) (i : Int) E p ty en ps hp hpE hE k hk
      have hnote := fun k hk => note_is l (by omega) hb p (E - p) hp (by omega) (by omega) k hk
      have wl : IntKind.u64.wrap (E - p) = E - p := uwrap_id (by omega) (by omega)
      have n0 := getV_nonneg l p 4
      have d0 := getV_nonneg l (p + 4) 4
      cases hr : noteR l p (E - p) with
      | mk c o =>
        cases o with
        | none =>
          refine ⟨([], some (spZ p c)), ⟨.inr ⟨p, c, rfl, hp, by omega, by rcases noteR_none l p _ hr with h | h <;> omega⟩, by simp, Nat.zero_le _⟩, l.length + 30, fun k hk => ?_⟩
          obtain ⟨k, rfl⟩ : ∃ j, k = j + 4 := ⟨k - 4, by omega⟩
          rw [hstep k (by omega), hr, head_Notes.l1, if_pos hpE, wl, hnote (k + 3) (by omega), hr]
          refine ⟨rfl, ?_⟩
          show some (([] : List S58), c, true, p) = some ([], toBad (some (spZ p c)))
          rw [toBad_spot hp (by omega) (by rcases noteR_none l p _ hr with h | h <;> omega)]
        | some y =>
          obtain ⟨x, sz⟩ := y
          obtain ⟨s1, s2, s3, rfl⟩ := noteR_some l p (E - p) n0 d0 hr
          have wp : IntKind.u64.wrap (p + sz) = p + sz := uwrap_id (by omega) (by omega)
          obtain ⟨r, hg, K, hK⟩ := ih (p + sz) (acc ++ [x]) (by omega) (by omega) (by omega) (by rw [List.length_append, List.length_cons, List.length_nil]; omega) (by
            intro y hy
            rcases List.mem_append.1 hy with h | h
            · exact hx y h
            · obtain rfl := List.mem_singleton.1 h
              exact s3)
          refine ⟨r, hg, K + l.length + 30, fun k hk => ?_⟩
          obtain ⟨k, rfl⟩ : ∃ j, k = j + 4 := ⟨k - 4, by omega⟩
          rw [hstep k (by omega), hr, head_Notes.l1, if_pos hpE, wl, hnote (k + 3) (by omega), hr]
          refine ⟨?_, (hK k (by omega)).2⟩
          dsimp only
          rw [Option.bind_some]
          dsimp only
          rw [if_pos (show (none : Option Int).isNone = true from rfl), if_pos (by omega), wp]
          exact (hK (k + 3) (by omega)).1
    · obtain ⟨r, hg, K, hK⟩ := next acc (by omega) hx
      refine ⟨r, hg, K + 1, fun k hk => ?_⟩
      obtain ⟨k, rfl⟩ : ∃ j, k = j + 1 := ⟨k - 1, by omega⟩
      rw [head_Notes.l1, if_neg (by omega), shackleref04_Notes.l1, if_neg (by omega), hw]
      exact hK k (by omega)
theorem outer (l : List Int) (hn : l.length < 1048577) (hb : ∀ x ∈ l, 0 ≤ x ∧ x < 256) (ps : List S50) (hps : ps.length < 1048577) (hx : ∀ x ∈ ps, (0 ≤ x.f2 ∧ x.f2 < 18446744073709551616) ∧ 0 ≤ x.f4) (ty en : Int) (d : Nat) :
    ∀ (i : Nat) (acc : List S58), i + d = ps.length → acc.length ≤ i * l.length → (∀ x ∈ acc, x.f2.length ≤ l.length) →
      ∃ r, Good l ps r ∧ ∃ K, ∀ k, K ≤ k → head_Notes.l0 k acc ps (ps.length : Int) (i : Int) l = some r ∧ shackleref04_Notes.l0 k l acc (i : Int) ty en ps = some (r.1, toBad r.2) := by
  induction d with
  | zero =>
    intro i acc hi hacc ha
    obtain rfl : i = ps.length := by omega
    refine ⟨(acc, none), ⟨.inl rfl, ha, hacc⟩, 1, fun k hk => ?_⟩
    obtain ⟨k, rfl⟩ : ∃ j, k = j + 1 := ⟨k - 1, by omega⟩
    rw [head_Notes.l0, if_neg (by omega), shackleref04_Notes.l0, if_neg (by omega)]
    exact ⟨rfl, rfl⟩
  | succ d ih =>
    intro i acc hi hacc ha
    have hil : i < ps.length := by omega
    have hX := hx _ (rd50 ps i hil)
    have hw : wrap64 ((i : Int) + 1) = ((i + 1 : Nat) : Int) := by rw [w64_id (by omega) (by omega)]; omega
    have hmul : i * l.length ≤ (i + 1) * l.length := Nat.mul_le_mul_right _ (by omega)
    have next : ∀ acc : List S58, acc.length ≤ (i + 1) * l.length → (∀ x ∈ acc, x.f2.length ≤ l.length) → ∃ r, Good l ps r ∧ ∃ K, ∀ k, K ≤ k → head_Notes.l0 k acc ps (ps.length : Int) ((i + 1 : Nat) : Int) l = some r ∧ shackleref04_Notes.l0 k l acc ((i + 1 : Nat) : Int) ty en ps = some (r.1, toBad r.2) := fun acc h1 h2 => ih (i + 1) acc (by omega) h1 h2
    by_cases h4 : (rd_T50 ps (i : Int)).f0 = 4
    · have hin : head_file_in.f l (rd_T50 ps (i : Int)).f2 (rd_T50 ps (i : Int)).f4 = some (decide (lies l.length (rd_T50 ps (i : Int)).f2 (rd_T50 ps (i : Int)).f4)) := by
        unfold head_file_in.f
        rw [in_of _ _ _ (by omega) hX.1.1]
        rfl
      have hin2 := ref_in_of l.length (rd_T50 ps (i : Int)).f2 (rd_T50 ps (i : Int)).f4 (by omega) hX.1.1
      by_cases hl : lies l.length (rd_T50 ps (i : Int)).f2 (rd_T50 ps (i : Int)).f4
      · have hE : IntKind.u64.wrap ((rd_T50 ps (i : Int)).f2 + (rd_T50 ps (i : Int)).f4) = (rd_T50 ps (i : Int)).f2 + (rd_T50 ps (i : Int)).f4 := by
          obtain ⟨h1, h2⟩ := hl
          exact uwrap_id (by omega) (by omega)
        have h12 := hl
        obtain ⟨h1, h2⟩ := h12
        obtain ⟨r, hg, K, hK⟩ := inner l hn hb ps hps ty en i hil ((rd_T50 ps (i : Int)).f2 + (rd_T50 ps (i : Int)).f4) (by omega) next l.length (rd_T50 ps (i : Int)).f2 acc hX.1.1 (by omega) (by omega) (by rw [Nat.add_mul, Nat.one_mul]; omega) ha
        refine ⟨r, hg, K + 1, fun k hk => ?_⟩
        obtain ⟨k, rfl⟩ : ∃ j, k = j + 1 := ⟨k - 1, by omega⟩
        rw [head_Notes.l0, if_pos (by omega), if_pos (by omega), if_pos (by omega), if_pos h4, hin, Option.bind_some, if_pos (decide_eq_true hl), hE, shackleref04_Notes.l0, if_pos (by omega), if_pos (by omega), if_pos h4, hin2, Option.bind_some, if_pos (decide_eq_true hl), hE]
        exact hK k (by omega)
      · refine ⟨([], some (spZ (rd_T50 ps (i : Int)).f2 4)), ⟨.inr ⟨_, 4, rfl, hX.1.1, hX.1.2, by decide⟩, by simp, Nat.zero_le _⟩, 1, fun k hk => ?_⟩
        obtain ⟨k, rfl⟩ : ∃ j, k = j + 1 := ⟨k - 1, by omega⟩
        have hspot : head_spot.f 4 (rd_T50 ps (i : Int)).f2 = some (some (spZ (rd_T50 ps (i : Int)).f2 4)) := by
          unfold head_spot.f
          rw [if_pos hX.1.1, if_pos hX.1.2, if_pos (by decide)]
        have hd : ¬ decide (lies l.length (rd_T50 ps (i : Int)).f2 (rd_T50 ps (i : Int)).f4) = true := by simpa using hl
        rw [head_Notes.l0, if_pos (by omega), if_pos (by omega), if_pos (by omega), if_pos h4, hin, Option.bind_some, if_neg hd, hspot, Option.bind_some, shackleref04_Notes.l0, if_pos (by omega), if_pos (by omega), if_pos h4, hin2, Option.bind_some, if_neg hd]
        refine ⟨rfl, ?_⟩
        show some (([] : List S58), 4, true, (rd_T50 ps (i : Int)).f2) = some ([], toBad (some (spZ (rd_T50 ps (i : Int)).f2 4)))
        rw [toBad_spot hX.1.1 hX.1.2 (by decide)]
    · obtain ⟨r, hg, K, hK⟩ := next acc (by omega) ha
      refine ⟨r, hg, K + 1, fun k hk => ?_⟩
      obtain ⟨k, rfl⟩ : ∃ j, k = j + 1 := ⟨k - 1, by omega⟩
      rw [head_Notes.l0, if_pos (by omega), if_pos (by omega), if_pos (by omega), if_neg h4, hw, shackleref04_Notes.l0, if_pos (by omega), if_pos (by omega), if_neg h4, hw]
      exact hK k (by omega)
theorem same_names (a b : ByteArray) (h : a = b) : a.toList = b.toList := by rw [h]
theorem law_loop (l : List Int) (hn : l.length < 1048577) (r : List S58) (hr : ∀ x ∈ r, x.f2.length ≤ l.length) (hlen : r.length < 140737488355328) (e : Option Int) (c : Int) (s : Bool) (a : Int) (hR : shacklelaw04_right.f e c s a = some true) (d : Nat) :
    ∀ (k i : Nat), i + d = r.length → l.length + 10 ≤ k → shacklelaw04_HeadNotes.l0 (k + d + 1) true r e r (i : Int) c s a = some true := by
  induction d with
  | zero =>
    intro k i hi hk
    rw [shacklelaw04_HeadNotes.l0, if_neg (by omega), if_pos rfl, hR]
    rfl
  | succ d ih =>
    intro k i hi hk
    have hil : i < r.length := by omega
    have hw : wrap64 ((i : Int) + 1) = ((i + 1 : Nat) : Int) := by rw [w64_id (by omega) (by omega)]; omega
    have hm : rd_T58 r (i : Int) ∈ r := by
      have e : rd_T58 r (i : Int) = r[i] := by simp [rd_T58, List.getD_eq_getElem?_getD, List.getElem?_eq_getElem hil]
      rw [e]
      exact List.getElem_mem hil
    have hx := hr _ hm
    have hs := same_refl (rd_T58 r (i : Int)).f2 (by omega) (k + d + 1 - (rd_T58 r (i : Int)).f2.length - 1)
    rw [show k + d + 1 - (rd_T58 r (i : Int)).f2.length - 1 + (rd_T58 r (i : Int)).f2.length + 1 = k + d + 1 by omega] at hs
    rw [show k + (d + 1) + 1 = (k + d + 1) + 1 by omega, shacklelaw04_HeadNotes.l0, if_pos (by omega), if_pos (by omega), if_pos (by omega), hs, Option.bind_some, if_pos rfl, if_pos rfl, if_pos rfl, hw]
    exact ih k (i + 1) (by omega) hk
theorem right_is (e : Option Int) (h : ErrN e) : shacklelaw04_right.f e (toBad e).1 (toBad e).2.1 (toBad e).2.2 = some true := by
  rcases h with rfl | ⟨a, c, rfl, h0, h1, hc⟩
  · decide +kernel
  · have hn := spZ_neg (a := a) (c := c) h0 hc
    have hi : shacklelaw00_Is.f (some (spZ a c)) a c = some true := by
      simp [shacklelaw00_Is.f, isF, hn, spAt_spZ h0 h1, spCode_spZ h0 h1]
    rw [toBad_spot h0 h1 hc]
    unfold shacklelaw04_right.f
    rw [if_pos rfl, hi]
    rfl
theorem sum_const {α : Type} (f : α → Nat) (c : Nat) (h : ∀ x, f x = c) (l : List α) : (l.map f).sum = c * l.length := by
  induction l with
  | nil => rfl
  | cons x l ih =>
    rw [List.map_cons, List.sum_cons, ih, h, List.length_cons, Nat.mul_add, Nat.mul_one, Nat.add_comm]
theorem HeadNotes : shacklelaw04_HeadNotes.Pure := by
  intro l a0 a1 ps hg hz h0 h1 hgp hzp hbulk
  have hb : ∀ x ∈ l, 0 ≤ x ∧ x < 256 := fun x hx => lit_u8 (hg.2 x hx)
  have hx : ∀ x ∈ ps, (0 ≤ x.f2 ∧ x.f2 < 18446744073709551616) ∧ 0 ≤ x.f4 := fun x hx => by
    obtain ⟨-, -, h2, -, h4, -⟩ := hgp.2 x hx
    exact ⟨lit_u64 h2, (lit_u64 h4).1⟩
  unfold bL at hbulk
  rw [sum_const b1 1 (fun _ => rfl) l, sum_const b50 8 (fun _ => rfl) ps] at hbulk
  have hl : l.length < 1048577 := by omega
  have hps : ps.length < 1048577 := by omega
  clear hg hz h0 h1 hgp hzp hbulk
  obtain ⟨r, ⟨r1, r2, r3⟩, K, hK⟩ := outer l hl hb ps hps hx a0 a1 ps.length 0 [] (Nat.zero_add _) (Nat.zero_le _) (by simp)
  have hmul : ps.length * l.length ≤ 1048576 * 1048576 := Nat.mul_le_mul (by omega) (by omega)
  obtain ⟨e1, e2⟩ := hK (K + l.length + 10 + r.1.length + 1) (by omega)
  refine ⟨K + l.length + 10 + r.1.length + 1, ?_⟩
  have e1' : head_Notes.f (K + l.length + 10 + r.1.length + 1) l a0 a1 ps = some r := e1
  have e2' : shackleref04_Notes.f (K + l.length + 10 + r.1.length + 1) l a0 a1 ps = some (r.1, toBad r.2) := e2
  unfold shacklelaw04_HeadNotes.f
  rw [show shacklelaw04_shown.f = some true from rfl, Option.bind_some, e1', Option.bind_some, e2', Option.bind_some]
  dsimp only
  rw [if_pos rfl]
  have := law_loop l hl r.1 r2 (by omega) r.2 (toBad r.2).1 (toBad r.2).2.1 (toBad r.2).2.2 (right_is _ r1) r.1.length (K + l.length + 10) 0 (Nat.zero_add _) (by omega)
  exact this
end Go.Proofs.YtjohdgejjnbddaaDoor.Pure
