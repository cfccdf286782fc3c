/- shacklelaw04.HeadReads: the pure statement: a file's header and program headers are read as the document says, or refused at the first place that is amiss. No condition beyond the argument's own bounds. -/
import Derived.Test.YtjohdgejjnbddaaDoorPHeadReadsx14
import Derived.Test.YtjohdgejjnbddaaDoorXBits
set_option linter.unusedSimpArgs false
set_option linter.unusedVariables false
namespace Go.Proofs.YtjohdgejjnbddaaDoor.Pure
open Go.RowKit Go.Proofs.YtjohdgejjnbddaaDoor.PHeadReads Go.Proofs.YtjohdgejjnbddaaDoorW.PrintWords Go.Proofs.YtjohdgejjnbddaaDoorW.PrintLast Go.Proofs.YtjohdgejjnbddaaDoorX
def lies (n : Nat) (a b : Int) : Prop := a ≤ (n : Int) ∧ b ≤ (n : Int) - a
instance (n : Nat) (a b : Int) : Decidable (lies n a b) := inferInstanceAs (Decidable (_ ∧ _))
theorem in_of (n : Nat) (a b : Int) (hn : n < 140737488355328) (ha : 0 ≤ a) : span_In.f (IntKind.u64.wrap (n : Int)) a b = some (decide (lies n a b)) := by
  have hw : IntKind.u64.wrap (n : Int) = (n : Int) := uwrap_id (Int.natCast_nonneg _) (by omega)
  unfold span_In.f
  rw [hw]
  by_cases h : a ≤ (n : Int)
  · have hw2 : IntKind.u64.wrap ((n : Int) - a) = (n : Int) - a := uwrap_id (by omega) (by omega)
    rw [if_pos h, hw2]
    simp [lies, h]
  · rw [if_neg h]
    simp [lies, h]

theorem ref_in_of (n : Nat) (a b : Int) (hn : n < 140737488355328) (ha : 0 ≤ a) : shackleref01_In.f (IntKind.u64.wrap (n : Int)) a b = some (decide (lies n a b)) := in_of n a b hn ha

theorem take_snoc (l : List Int) (a i : Nat) (h : a + i < l.length) : (l.take (a + i)).drop a ++ [rd l ((a + i : Nat) : Int)] = (l.take (a + (i + 1))).drop a := by
  rw [show a + (i + 1) = (a + i) + 1 by omega, List.take_add_one, rd_at l (a + i) h, List.getElem?_eq_getElem h]
  rw [List.drop_append_of_le_length (by rw [List.length_take]; omega)]
  rfl

theorem ref_loop (l : List Int) (a b : Nat) (hn : l.length < 140737488355328) (hle : a + b ≤ l.length) (d : Nat) : ∀ (k i : Nat), i + d = b →
    shackleref01_Cut.l0 (k + d + 1) l (a : Int) (b : Int) ((l.take (a + i)).drop a) (i : Int) = some ((l.take (a + b)).drop a, true) := by
  induction d with
  | zero =>
    intro k i hi
    obtain rfl : i = b := by omega
    rw [shackleref01_Cut.l0, if_neg (by omega)]
  | succ d ih =>
    intro k i hi
    have hil : a + i < l.length := by omega
    have hw : IntKind.u64.wrap ((a : Int) + (i : Int)) = ((a + i : Nat) : Int) := by rw [uwrap_id (by omega) (by omega)]; omega
    have hw2 : IntKind.u64.wrap ((i : Int) + 1) = ((i + 1 : Nat) : Int) := by rw [uwrap_id (by omega) (by omega)]; omega
    have hlen : ((l.take (a + i)).drop a).length < 140737488355328 := by rw [List.length_drop, List.length_take]; omega
    rw [show k + (d + 1) + 1 = (k + d + 1) + 1 by omega, shackleref01_Cut.l0, if_pos (by omega), hw, if_pos (Int.natCast_nonneg _), if_pos (by omega), if_pos hlen, take_snoc l a i hil, hw2]
    exact ih k (i + 1) (by omega)

theorem ref_cut_in (l : List Int) (a b : Nat) (hn : l.length < 140737488355328) (h : lies l.length (a : Int) (b : Int)) (k : Nat) :
    shackleref01_Cut.f (k + b + 1) l (a : Int) (b : Int) = some ((l.take (a + b)).drop a, true) := by
  unfold shackleref01_Cut.f
  rw [ref_in_of _ _ _ hn (Int.natCast_nonneg _), Option.bind_some, if_pos (decide_eq_true h)]
  have h1 := h.1
  have h2 := h.2
  have := ref_loop l a b hn (by omega) b k 0 (by omega)
  rw [show (l.take (a + 0)).drop a = ([] : List Int) by apply List.drop_eq_nil_of_le; rw [List.length_take]; omega] at this
  exact this

theorem ref_cut_out (l : List Int) (a b : Int) (hn : l.length < 140737488355328) (ha : 0 ≤ a) (h : ¬ lies l.length a b) (k : Nat) :
    shackleref01_Cut.f k l a b = some (([] : List Int), false) := by
  unfold shackleref01_Cut.f
  rw [ref_in_of _ _ _ hn ha, Option.bind_some, decide_eq_false h, if_neg (by simp)]

theorem same_self (r : List Int) (hl : r.length < 140737488355328) (d : Nat) : ∀ (k i : Nat), i + d = r.length → shackleref01_Same.l0 (k + d + 1) r r (i : Int) = some true := by
  induction d with
  | zero =>
    intro k i hi
    rw [shackleref01_Same.l0]
    rw [if_neg (by omega)]
  | succ d ih =>
    intro k i hi
    rw [show k + (d + 1) + 1 = (k + d + 1) + 1 by omega, shackleref01_Same.l0]
    have hwr : wrap64 ((i : Int) + 1) = ((i + 1 : Nat) : Int) := by rw [w64_id (by omega) (by omega)]; omega
    rw [if_pos (by omega), if_pos (by omega), if_pos (by omega), if_pos rfl, hwr]
    exact ih k (i + 1) (by omega)
theorem same_refl (r : List Int) (hl : r.length < 140737488355328) (k : Nat) : shackleref01_Same.f (k + r.length + 1) r r = some true := by
  unfold shackleref01_Same.f
  rw [if_pos rfl]
  exact same_self r hl r.length k 0 (Nat.zero_add _)

theorem wide_of {n : Int} (h : n = 1 ∨ n = 2 ∨ n = 4 ∨ n = 8) : span_wide.f n = some true := by rcases h with rfl | rfl | rfl | rfl <;> rfl
theorem widths_of {n : Int} (h : n = 1 ∨ n = 2 ∨ n = 4 ∨ n = 8) : shackleref01_widths.f n = some true := by rcases h with rfl | rfl | rfl | rfl <;> rfl
theorem or_byte (u b : Nat) (hu : u < 18446744073709551616) (hd : u % 256 = 0) (hb : b < 256) : Go.bits .or .u64 (u : Int) (b : Int) = ((u + b : Nat) : Int) := by
  obtain ⟨q, rfl⟩ : ∃ q, u = 256 * q := ⟨u / 256, by omega⟩
  have h1 : (256 * q) ||| b = 256 * q + b := (Nat.two_pow_add_eq_or_of_lt (i := 8) hb q).symm
  have e1 : (BitVec.ofInt 64 ((256 * q : Nat) : Int)).toNat = 256 * q := by
    rw [BitVec.ofInt_natCast, BitVec.toNat_ofNat]
    exact Nat.mod_eq_of_lt (by omega)
  have e2 : (BitVec.ofInt 64 ((b : Nat) : Int)).toNat = b := by
    rw [BitVec.ofInt_natCast, BitVec.toNat_ofNat]
    exact Nat.mod_eq_of_lt (by omega)
  show IntKind.u64.wrap (((BitVec.ofInt 64 ((256 * q : Nat) : Int)) ||| (BitVec.ofInt 64 ((b : Nat) : Int))).toNat : Int) = _
  rw [BitVec.toNat_or, e1, e2, h1]
  exact uwrap_id (Int.natCast_nonneg _) (by omega)

theorem rd_cut (l : List Int) (a n i : Nat) (h : a + n ≤ l.length) (hi : i < n) : rd ((l.take (a + n)).drop a) (i : Int) = rd l ((a + i : Nat) : Int) := by
  have h1 : i < ((l.take (a + n)).drop a).length := by rw [List.length_drop, List.length_take]; omega
  rw [rd_at _ i h1, rd_at l (a + i) (by omega), List.getElem_drop, List.getElem_take]

theorem get_loops (l : List Int) (a n : Nat) (hn : l.length < 140737488355328) (hle : a + n ≤ l.length) (hb : ∀ x ∈ l, 0 ≤ x ∧ x < 256) (d : Nat) : ∀ (v : Int), d ≤ n → ∃ x, ∀ k,
    span_Get.l0 (k + d + 1) l (a : Int) v ((d : Int) - 1) = some (x, none) ∧ shackleref01_Get.l0 (k + d + 1) ((l.take (a + n)).drop a) v ((d : Int) - 1) = some (x, 0) := by
  induction d with
  | zero =>
    intro v hd
    refine ⟨v, fun k => ⟨?_, ?_⟩⟩
    · rw [span_Get.l0, if_neg (by omega)]
    · rw [shackleref01_Get.l0, if_neg (by omega)]
  | succ d ih =>
    intro v hd
    obtain ⟨x, hx⟩ := ih (IntKind.u64.wrap ((IntKind.u64.wrap (256 * v)) + rd l ((a + d : Nat) : Int))) (by omega)
    refine ⟨x, fun k => ?_⟩
    have hc : ((l.take (a + n)).drop a).length = n := by rw [List.length_drop, List.length_take]; omega
    have hi : (((d + 1 : Nat) : Int) - 1) = (d : Int) := by omega
    have hbyte := hb _ (rd_mem l (a + d) (by omega))
    have hw1 : IntKind.u64.wrap (d : Int) = (d : Int) := uwrap_id (by omega) (by omega)
    have hw2 : IntKind.u64.wrap ((a : Int) + (d : Int)) = ((a + d : Nat) : Int) := by rw [uwrap_id (by omega) (by omega)]; omega
    have hw3 : IntKind.u64.wrap (rd l ((a + d : Nat) : Int)) = rd l ((a + d : Nat) : Int) := uwrap_id hbyte.1 (by omega)
    have hw4 : wrap64 ((d : Int) - 1) = (d : Int) - 1 := w64_id (by omega) (by omega)
    have hor : Go.bits .or .u64 (IntKind.u64.wrap (v * 256)) (rd l ((a + d : Nat) : Int)) = IntKind.u64.wrap ((IntKind.u64.wrap (256 * v)) + rd l ((a + d : Nat) : Int)) := by
      rw [Int.mul_comm v 256]
      obtain ⟨u, hu⟩ : ∃ u : Nat, IntKind.u64.wrap (256 * v) = (u : Int) := ⟨(IntKind.u64.wrap (256 * v)).toNat, by rw [uwrap]; omega⟩
      obtain ⟨b, hb2⟩ := Int.eq_ofNat_of_zero_le hbyte.1
      have hu2 : u < 18446744073709551616 ∧ u % 256 = 0 := by rw [uwrap] at hu; omega
      rw [hb2] at hbyte ⊢
      rw [hu, or_byte u b hu2.1 hu2.2 (by omega), uwrap_id (by omega) (by omega)]
      omega
    rw [hi, show k + (d + 1) + 1 = (k + d + 1) + 1 by omega]
    constructor
    · rw [span_Get.l0, if_pos (by omega), hw1, hw2, if_pos (Int.natCast_nonneg _), if_pos (by omega), hw3, hor, hw4]
      exact (hx k).1
    · rw [shackleref01_Get.l0, if_pos (by omega), if_pos (by omega), if_pos (by omega), rd_cut l a n d hle (by omega), hw3, hw4]
      exact (hx k).2

theorem gets (l : List Int) (a n : Nat) (hwd : (n : Int) = 1 ∨ (n : Int) = 2 ∨ (n : Int) = 4 ∨ (n : Int) = 8) (hn : l.length < 140737488355328) (h : lies l.length (a : Int) (n : Int)) (hb : ∀ x ∈ l, 0 ≤ x ∧ x < 256) : ∃ x, ∀ k,
    span_Get.f (k + n + 1) l (a : Int) (n : Int) = some (x, none) ∧ shackleref01_Get.f (k + n + 1) l (a : Int) (n : Int) = some (x, 0) := by
  obtain ⟨x, hx⟩ := get_loops l a n hn (by have := h.1; have := h.2; omega) hb n 0 (Nat.le_refl _)
  refine ⟨x, fun k => ?_⟩
  have hw1 : IntKind.u64.wrap (n : Int) = (n : Int) := uwrap_id (by omega) (by omega)
  have hw2 : wrap64 ((n : Int) - 1) = (n : Int) - 1 := w64_id (by omega) (by omega)
  constructor
  · unfold span_Get.f
    rw [wide_of hwd, Option.bind_some, if_pos rfl, hw1, in_of _ _ _ hn (Int.natCast_nonneg _), Option.bind_some, if_pos (decide_eq_true h), hw2]
    exact (hx k).1
  · unfold shackleref01_Get.f
    rw [widths_of hwd, Option.bind_some, if_pos rfl, hw1, ref_cut_in l a n hn h, Option.bind_some, if_pos rfl, hw2]
    exact (hx k).2

theorem get_out (l : List Int) (a n : Int) (hwd : n = 1 ∨ n = 2 ∨ n = 4 ∨ n = 8) (hn : l.length < 140737488355328) (ha : 0 ≤ a) (ha2 : a < 18446744073709551616) (h : ¬ lies l.length a n) (k : Nat) :
    span_Get.f k l a n = some (0, some (spZ a 4)) ∧ shackleref01_Get.f k l a n = some (0, 4) := by
  have hw1 : IntKind.u64.wrap n = n := uwrap_id (by omega) (by omega)
  constructor
  · unfold span_Get.f
    rw [wide_of hwd, Option.bind_some, if_pos rfl, hw1, in_of _ _ _ hn ha, Option.bind_some, decide_eq_false h, if_neg (by simp), if_pos ha, if_pos ha2]
  · unfold shackleref01_Get.f
    rw [widths_of hwd, Option.bind_some, if_pos rfl, hw1, ref_cut_out l a n hn ha h, Option.bind_some, if_neg (by simp)]

theorem and64 (a : Nat) (m : Nat) (ha : a < 18446744073709551616) (hm : m < 18446744073709551616) : Go.bits .and .u64 (a : Int) (m : Int) = ((a &&& m : Nat) : Int) := u64_and_nat a m ha hm

theorem two_ands (a b m : Nat) (ha : a < 18446744073709551616) (hb : b < 18446744073709551616) (hm : m < 9223372036854775808) :
    IntKind.u64.wrap (Go.bits .and .u64 (a : Int) (m : Int) + Go.bits .and .u64 (b : Int) (m : Int)) = (((a &&& m) + (b &&& m) : Nat) : Int) := by
  rw [and64 a m ha (by omega), and64 b m hb (by omega)]
  have h1 : a &&& m ≤ m := Nat.and_le_right
  have h2 : b &&& m ≤ m := Nat.and_le_right
  rw [uwrap_id (by omega) (by omega)]
  omega

theorem ones (x : Nat) (h : x < 18446744073709551616) : bits_OnesCount64.f (x : Int) = some ((swar x : Nat) : Int) := by
  unfold bits_OnesCount64.f swar
  have e1 := two_ands (x / 2) x 6148914691236517205 (by omega) h (by omega)
  have c1 : ((x : Nat) : Int) / 2 = ((x / 2 : Nat) : Int) := by omega
  rw [← c1] at e1
  have d1 : ((6148914691236517205 : Nat) : Int) = 6148914691236517205 := rfl
  rw [d1] at e1
  simp only [e1]
  have hb1 : (x / 2 &&& 6148914691236517205) ≤ 6148914691236517205 := Nat.and_le_right
  have hb2 : (x &&& 6148914691236517205) ≤ 6148914691236517205 := Nat.and_le_right
  have hy : (x / 2 &&& 6148914691236517205) + (x &&& 6148914691236517205) ≤ 12297829382473034410 := by omega
  generalize (x / 2 &&& 6148914691236517205) + (x &&& 6148914691236517205) = y at *
  have e2 := two_ands (y / 4) y 3689348814741910323 (by omega) (by omega) (by omega)
  have c2 : ((y : Nat) : Int) / 4 = ((y / 4 : Nat) : Int) := by omega
  have d2 : ((3689348814741910323 : Nat) : Int) = 3689348814741910323 := rfl
  rw [← c2, d2] at e2
  simp only [e2]
  have hc1 : (y / 4 &&& 3689348814741910323) ≤ 3689348814741910323 := Nat.and_le_right
  have hc2 : (y &&& 3689348814741910323) ≤ 3689348814741910323 := Nat.and_le_right
  have hz : (y / 4 &&& 3689348814741910323) + (y &&& 3689348814741910323) ≤ 7378697629483820646 := by omega
  generalize (y / 4 &&& 3689348814741910323) + (y &&& 3689348814741910323) = z at *
  have e3 : Go.bits .and .u64 (IntKind.u64.wrap ((z : Int) / 16 + (z : Int))) 1085102592571150095 = ((z / 16 + z &&& 1085102592571150095 : Nat) : Int) := by
    have h1 : IntKind.u64.wrap ((z : Int) / 16 + (z : Int)) = ((z / 16 + z : Nat) : Int) := by rw [uwrap_id (by omega) (by omega)]; omega
    rw [h1]
    exact and64 (z / 16 + z) 1085102592571150095 (by omega) (by omega)
  simp only [e3]
  have hd : (z / 16 + z &&& 1085102592571150095) ≤ 1085102592571150095 := Nat.and_le_right
  generalize (z / 16 + z &&& 1085102592571150095) = v at *
  have e4 : IntKind.u64.wrap ((v : Int) + (v : Int) / 256) = ((v + v / 256 : Nat) : Int) := by rw [uwrap_id (by omega) (by omega)]; omega
  simp only [e4]
  have e5 : IntKind.u64.wrap (((v + v / 256 : Nat) : Int) + ((v + v / 256 : Nat) : Int) / 65536) = ((v + v / 256 + (v + v / 256) / 65536 : Nat) : Int) := by rw [uwrap_id (by omega) (by omega)]; omega
  simp only [e5]
  have e6 : IntKind.u64.wrap (((v + v / 256 + (v + v / 256) / 65536 : Nat) : Int) + ((v + v / 256 + (v + v / 256) / 65536 : Nat) : Int) / 4294967296) = ((v + v / 256 + (v + v / 256) / 65536 + (v + v / 256 + (v + v / 256) / 65536) / 4294967296 : Nat) : Int) := by rw [uwrap_id (by omega) (by omega)]; omega
  simp only [e6]
  rw [w64_id (by omega) (by omega)]
  generalize hu : v + v / 256 + (v + v / 256) / 65536 + (v + v / 256 + (v + v / 256) / 65536) / 4294967296 = u
  have hub : u < 9223372036854775808 := by omega
  have := bits_mask .i64 63 (by decide) (fun n h0 h1 => by rw [IntKind.wrap_i64]; omega) 7 (by decide) u (by omega) (by omega)
  have d3 : ((2 : Int) ^ 7 - 1) = 127 := rfl
  simp only [d3] at this
  rw [this]
  rfl

theorem getl_lt : ∀ (k : Nat) (l : List Int) (a v i : Int) (r : Int × Option Int), v < 18446744073709551616 → span_Get.l0 k l a v i = some r → r.1 < 18446744073709551616
  | 0, l, a, v, i, r, _, h => by simp [span_Get.l0] at h
  | k + 1, l, a, v, i, r, hv, h => by
    rw [span_Get.l0] at h
    split at h
    · split at h
      · split at h
        · exact getl_lt k l a _ _ r (hd_wrap_in _).2 h
        · cases h
      · cases h
    · cases h
      exact hv
theorem num_is (l : List Int) (hn : l.length < 140737488355328) (hb : ∀ x ∈ l, 0 ≤ x ∧ x < 256) (a n : Int) (ha : 0 ≤ a) (ha2 : a < 18446744073709551616) (hw : n = 1 ∨ n = 2 ∨ n = 4 ∨ n = 8) :
    0 ≤ getV l a n ∧ getV l a n < 18446744073709551616 ∧ ∀ k, 9 ≤ k → shackleref04_num.f k l a n = some (getV l a n) := by
  refine ⟨getV_nonneg l a n, ?_⟩
  by_cases h : lies l.length a n
  · obtain ⟨a, rfl⟩ := Int.eq_ofNat_of_zero_le ha
    obtain ⟨n, rfl⟩ : ∃ m : Nat, n = (m : Int) := ⟨n.toNat, by omega⟩
    obtain ⟨x, hx⟩ := gets l a n hw hn h hb
    have h12 := (hx (11 - n)).1
    rw [show 11 - n + n + 1 = 12 by omega] at h12
    have hg : getV l (a : Int) (n : Int) = x := by
      unfold getV head_file_get.f
      rw [h12]
      rfl
    rw [hg]
    constructor
    · have hwide := wide_of hw
      unfold span_Get.f at h12
      rw [hwide, Option.bind_some, if_pos rfl, uwrap_id (n := (n : Int)) (by omega) (by omega), in_of _ _ _ hn (Int.natCast_nonneg _), Option.bind_some, if_pos (decide_eq_true h)] at h12
      exact getl_lt _ _ _ _ _ _ (by decide) h12
    · intro k hk
      have := (hx (k - n - 1)).2
      rw [show k - n - 1 + n + 1 = k by omega] at this
      unfold shackleref04_num.f
      rw [this]
      rfl
  · have h0 := get_out l a n hw hn ha ha2 h
    have hg : getV l a n = 0 := by
      unfold getV head_file_get.f
      rw [(h0 12).1]
      rfl
    rw [hg]
    refine ⟨by decide, fun k _ => ?_⟩
    unfold shackleref04_num.f
    rw [(h0 k).2]
    rfl

/-! the header's fixed numbers -/
def toBad : Option Int → Int × Bool × Int
  | none => (0, false, 0)
  | some q => if q < 0 then (spCode q, true, spAt q) else (q, false, 0)
theorem toBad_spot {a c : Int} (h0 : 0 ≤ a) (h1 : a < 18446744073709551616) (hc : 0 ≤ c) : toBad (some (spZ a c)) = (c, true, a) := by
  show (if spZ a c < 0 then (spCode (spZ a c), true, spAt (spZ a c)) else (spZ a c, false, 0)) = _
  rw [if_pos (spZ_neg h0 hc), spCode_spZ h0 h1, spAt_spZ h0 h1]
def L11 : List S128 := [⟨0, 1, 127⟩, ⟨1, 1, 69⟩, ⟨2, 1, 76⟩, ⟨3, 1, 70⟩, ⟨4, 1, 2⟩, ⟨5, 1, 1⟩, ⟨6, 1, 1⟩, ⟨18, 2, 62⟩, ⟨20, 4, 1⟩, ⟨52, 2, 64⟩, ⟨54, 2, 56⟩]
theorem beg_j2 (l : List Int) (hn : l.length < 140737488355328) (hb : ∀ x ∈ l, 0 ≤ x ∧ x < 256) (i : Nat) (o n w : Int) (hi : i < 11) (hr : rd_T128 L11 (i : Int) = ⟨o, n, w⟩) (ho : 0 ≤ o ∧ o < 64) (hw : n = 1 ∨ n = 2 ∨ n = 4 ∨ n = 8) (k : Nat) (hk : 9 ≤ k) :
    shackleref04_begins.j2 (k + 1) l L11 (i : Int) = if getV l o n = w then shackleref04_begins.l0 k l L11 ((i + 1 : Nat) : Int) else some (3, true, o) := by
  have hl : (L11.length : Int) = 11 := rfl
  rw [shackleref04_begins.j2, hl, if_pos (by omega), if_pos (by omega), hr]
  dsimp only
  rw [(num_is l hn hb o n ho.1 (by omega) hw).2.2 k hk, Option.bind_some, w64_id (by omega) (by omega)]
  rfl
theorem beg_step (l : List Int) (hn : l.length < 140737488355328) (hb : ∀ x ∈ l, 0 ≤ x ∧ x < 256) (i : Nat) (o n w : Int) (hi : i < 11) (hr : rd_T128 L11 (i : Int) = ⟨o, n, w⟩) (ho : 0 ≤ o ∧ o < 64) (h18 : o ≠ 18) (hw : n = 1 ∨ n = 2 ∨ n = 4 ∨ n = 8) (k : Nat) (hk : 9 ≤ k) :
    shackleref04_begins.l0 (k + 2) l L11 (i : Int) = if getV l o n = w then shackleref04_begins.l0 k l L11 ((i + 1 : Nat) : Int) else some (3, true, o) := by
  have hl : (L11.length : Int) = 11 := rfl
  rw [shackleref04_begins.l0, hl, if_pos (by omega), if_pos (by omega), hr]
  dsimp only
  rw [if_neg h18]
  exact beg_j2 l hn hb i o n w hi hr ho hw k hk
theorem beg_seven (l : List Int) (hn : l.length < 140737488355328) (hb : ∀ x ∈ l, 0 ≤ x ∧ x < 256) (k : Nat) (hk : 9 ≤ k) :
    shackleref04_begins.l0 (k + 3) l L11 7 = if getV l 7 1 = 0 ∨ getV l 7 1 = 3 then (if getV l 16 2 = 2 ∨ getV l 16 2 = 3 then (if getV l 18 2 = 62 then shackleref04_begins.l0 k l L11 8 else some (3, true, 18)) else some (3, true, 16)) else some (3, true, 7) := by
  have hl : (L11.length : Int) = 11 := rfl
  have hr : rd_T128 L11 (7 : Int) = ⟨18, 2, 62⟩ := rfl
  have hj := beg_j2 l hn hb 7 18 2 62 (by omega) hr (by omega) (by omega) k hk
  rw [shackleref04_begins.l0, hl, if_pos (by omega), if_pos (by omega), hr]
  dsimp only
  rw [if_pos rfl, (num_is l hn hb 7 1 (by omega) (by omega) (by omega)).2.2 (k + 2) (by omega), Option.bind_some, (num_is l hn hb 16 2 (by omega) (by omega) (by omega)).2.2 (k + 2) (by omega), Option.bind_some]
  have hj1 : ∀ x : Bool, shackleref04_begins.j1 (k + 2) l L11 7 (getV l 16 2) x = if x = true then some (3, true, 7) else if getV l 16 2 = 2 ∨ getV l 16 2 = 3 then (if getV l 18 2 = 62 then shackleref04_begins.l0 k l L11 8 else some (3, true, 18)) else some (3, true, 16) := by
    intro x
    rw [shackleref04_begins.j1]
    cases x
    · have hf : ¬ (false = true) := by decide
      rw [if_neg hf, if_neg hf]
      by_cases h2 : getV l 16 2 = 2
      · rw [if_pos h2, if_pos (.inl h2)]
        exact hj
      · rw [if_neg h2]
        by_cases h3 : getV l 16 2 = 3
        · rw [if_pos h3, if_pos (.inr h3)]
          exact hj
        · rw [if_neg h3, if_neg (by omega)]
          rfl
    · rw [if_pos rfl, if_pos rfl]
      rfl
  rw [hj1, hj1]
  by_cases h0 : getV l 7 1 = 0
  · rw [if_pos h0, if_neg (show ¬ (false = true) by decide), if_pos (show getV l 7 1 = 0 ∨ getV l 7 1 = 3 from .inl h0)]
  · rw [if_neg h0]
    by_cases h3 : getV l 7 1 = 3
    · rw [if_neg (by simp [h3]), if_pos (show getV l 7 1 = 0 ∨ getV l 7 1 = 3 from .inr h3)]
    · rw [if_pos (by simp [h3]), if_neg (by omega)]
def G3 : Option Int → Int × Bool × Int
  | none => (0, false, 0)
  | some o => (3, true, o)
theorem chain {c : Prop} [Decidable c] {X : Option (Int × Bool × Int)} {Y : Option Int} {o : Int} (h : X = some (G3 Y)) : (if c then X else some (3, true, o)) = some (G3 (if c then Y else some o)) := by
  by_cases hc : c
  · rw [if_pos hc, if_pos hc, h]
  · rw [if_neg hc, if_neg hc]
    rfl
theorem begins_is (l : List Int) (hn : l.length < 140737488355328) (hb : ∀ x ∈ l, 0 ≤ x ∧ x < 256) (k : Nat) (hk : 40 ≤ k) :
    shackleref04_begins.f k l = some (if (l.length : Int) < 64 then ((4 : Int), true, (l.length : Int)) else G3 (badF l tabN)) := by
  unfold shackleref04_begins.f
  rw [uwrap_id (Int.natCast_nonneg _) (by omega)]
  by_cases h64 : (l.length : Int) < 64
  · rw [if_pos h64, if_pos h64]
    rfl
  rw [if_neg h64, if_neg h64, show shackleref04_fixed.f = some L11 from rfl, Option.bind_some]
  obtain ⟨m, rfl⟩ : ∃ m, k = m + 9 + 1 + 23 := ⟨k - 33, by omega⟩
  have s0 := beg_step l hn hb 0 0 1 127 (by omega) rfl (by omega) (by omega) (by omega) (m + 9 + 22) (by omega)
  have s1 := beg_step l hn hb 1 1 1 69 (by omega) rfl (by omega) (by omega) (by omega) (m + 9 + 20) (by omega)
  have s2 := beg_step l hn hb 2 2 1 76 (by omega) rfl (by omega) (by omega) (by omega) (m + 9 + 18) (by omega)
  have s3 := beg_step l hn hb 3 3 1 70 (by omega) rfl (by omega) (by omega) (by omega) (m + 9 + 16) (by omega)
  have s4 := beg_step l hn hb 4 4 1 2 (by omega) rfl (by omega) (by omega) (by omega) (m + 9 + 14) (by omega)
  have s5 := beg_step l hn hb 5 5 1 1 (by omega) rfl (by omega) (by omega) (by omega) (m + 9 + 12) (by omega)
  have s6 := beg_step l hn hb 6 6 1 1 (by omega) rfl (by omega) (by omega) (by omega) (m + 9 + 10) (by omega)
  have s7 := beg_seven l hn hb (m + 9 + 7) (by omega)
  have s8 := beg_step l hn hb 8 20 4 1 (by omega) rfl (by omega) (by omega) (by omega) (m + 9 + 5) (by omega)
  have s9 := beg_step l hn hb 9 52 2 64 (by omega) rfl (by omega) (by omega) (by omega) (m + 9 + 3) (by omega)
  have s10 := beg_step l hn hb 10 54 2 56 (by omega) rfl (by omega) (by omega) (by omega) (m + 9 + 1) (by omega)
  have s11 : shackleref04_begins.l0 (m + 9 + 1) l L11 ((10 + 1 : Nat) : Int) = some (0, false, 0) := by
    rw [shackleref04_begins.l0, if_neg (by decide)]
  rw [s11] at s10
  rw [s10] at s9
  rw [s9] at s8
  rw [show shackleref04_begins.l0 (m + 9 + 7) l L11 8 = _ from s8] at s7
  rw [show shackleref04_begins.l0 (m + 9 + 10) l L11 ((6 + 1 : Nat) : Int) = _ from s7] at s6
  rw [s6] at s5
  rw [s5] at s4
  rw [s4] at s3
  rw [s3] at s2
  rw [s2] at s1
  rw [s1] at s0
  rw [show shackleref04_begins.l0 (m + 9 + 1 + 23) l L11 0 = _ from s0]
  clear s0 s1 s2 s3 s4 s5 s6 s7 s8 s9 s10 s11
  simp only [tabN, badF, or_self]
  repeat' (first | rfl | apply chain)
/-! program headers -/
theorem among_is (L : List Int) (t : Int) (hL : L.length < 100) (d : Nat) : ∀ (k i : Nat), i + d = L.length → d < k → shackleref04_among.l0 k t L (i : Int) = some ((L.drop i).any fun y => decide (t = y)) := by
  induction d with
  | zero =>
    intro k i hi hk
    obtain ⟨k, rfl⟩ : ∃ m, k = m + 1 := ⟨k - 1, by omega⟩
    rw [shackleref04_among.l0, if_neg (by omega), List.drop_eq_nil_of_le (by omega)]
    rfl
  | succ d ih =>
    intro k i hi hk
    obtain ⟨k, rfl⟩ : ∃ m, k = m + 1 := ⟨k - 1, by omega⟩
    have hil : i < L.length := by omega
    have hw : wrap64 ((i : Int) + 1) = ((i + 1 : Nat) : Int) := by rw [w64_id (by omega) (by omega)]; omega
    rw [shackleref04_among.l0, if_pos (by omega), if_pos (by omega), drop_at L i hil, List.any_cons, hw, ih k (i + 1) (by omega) (by omega)]
    by_cases h : rd L (i : Int) = t
    · rw [if_pos h, decide_eq_true h.symm, Bool.true_or]
    · rw [if_neg h, decide_eq_false (fun e => h e.symm), Bool.false_or]
theorem among_of (L : List Int) (t : Int) (hL : L.length < 100) (k : Nat) (hk : L.length < k) : shackleref04_among.f k t L = some (isV t L) := by
  have := among_is L t hL L.length k 0 (Nat.zero_add _) hk
  rw [List.drop_zero] at this
  exact this
theorem in_big (a b : Int) (ha : 0 ≤ a) : shackleref01_In.f 140737488355328 a b = some (liesB 140737488355328 a b) := by
  unfold shackleref01_In.f liesB
  by_cases h : a ≤ 140737488355328
  · rw [if_pos h, uwrap_id (by omega) (by omega)]
    simp [h]
  · rw [if_neg h]
    simp [h]
/-- A power of two up to 2^20. -/
def twoB (a : Int) : Bool := (List.range' 0 21).any fun j => decide (a = ((2 ^ j : Nat) : Int))
theorem twoB_iff (a : Int) : twoB a = true ↔ ∃ j, j < 21 ∧ a = ((2 ^ j : Nat) : Int) := by
  unfold twoB
  rw [List.any_eq_true]
  constructor
  · rintro ⟨j, h1, h2⟩
    rw [List.mem_range'_1] at h1
    exact ⟨j, by omega, of_decide_eq_true h2⟩
  · rintro ⟨j, h1, h2⟩
    exact ⟨j, by rw [List.mem_range'_1]; omega, decide_eq_true h2⟩
theorem power_is (a : Int) (d : Nat) : ∀ (k i : Nat), i + d = 21 → d < k → shackleref04_power.l0 k a (i : Int) = some ((List.range' i d).any fun j => decide (a = ((2 ^ j : Nat) : Int))) := by
  induction d with
  | zero =>
    intro k i hi hk
    obtain ⟨k, rfl⟩ : ∃ m, k = m + 1 := ⟨k - 1, by omega⟩
    rw [shackleref04_power.l0, if_neg (by omega)]
    rfl
  | succ d ih =>
    intro k i hi hk
    obtain ⟨k, rfl⟩ : ∃ m, k = m + 1 := ⟨k - 1, by omega⟩
    have hw : wrap64 ((i : Int) + 1) = ((i + 1 : Nat) : Int) := by rw [w64_id (by omega) (by omega)]; omega
    have hsh : shl .u64 1 (i : Int) = ((2 ^ i : Nat) : Int) := by
      have : ∀ n : Fin 21, shl .u64 1 ((n.val : Nat) : Int) = ((2 ^ n.val : Nat) : Int) := by decide +kernel
      exact this ⟨i, by omega⟩
    rw [shackleref04_power.l0, if_pos (by omega), if_pos (by omega), hsh, hw, ih k (i + 1) (by omega) (by omega), List.range'_succ, List.any_cons]
    by_cases h : a = ((2 ^ i : Nat) : Int)
    · rw [if_pos h, decide_eq_true h, Bool.true_or]
    · rw [if_neg h, decide_eq_false h, Bool.false_or]
theorem power_of (a : Int) (k : Nat) (hk : 21 < k) : shackleref04_power.f k a = some (twoB a) := power_is a 21 k 0 (Nat.zero_add _) hk
theorem pow_lt_iff (j : Nat) (hj : j < 64) : 1048576 < ((2 ^ j : Nat) : Int) ↔ 21 ≤ j := by
  have : ∀ n : Fin 64, (1048576 < ((2 ^ n.val : Nat) : Int) ↔ 21 ≤ n.val) := by decide +kernel
  exact this ⟨j, hj⟩
theorem odd_is (a : Int) (h0 : 0 ≤ a) (h1 : a < 18446744073709551616) : ((upE a).isSome || decide (1048576 < a)) = !(twoB a) := by
  obtain ⟨n, rfl⟩ := Int.eq_ofNat_of_zero_le h0
  have hone := ones n (by omega)
  have hup : (upE (n : Int)).isSome = !decide (swar n = 1) := by
    unfold upE span_Up.f
    rw [hone, Option.bind_some]
    by_cases h : swar n = 1
    · obtain ⟨j, hj, hn⟩ := (swar_one n (by omega)).1 h
      have hpos : 0 < n := by rw [hn]; exact Nat.two_pow_pos j
      rw [if_pos (by omega), sum_two _ (hd_wrap_in _).1 (hd_wrap_in _).2]
      simp [h, oSnd]
    · rw [if_neg (by omega)]
      simp [h, oSnd]
  rw [hup]
  by_cases h : swar n = 1
  · obtain ⟨j, hj, hn⟩ := (swar_one n (by omega)).1 h
    by_cases h21 : j < 21
    · have ht : twoB (n : Int) = true := (twoB_iff _).2 ⟨j, h21, by rw [hn]⟩
      have hlt : ¬ 1048576 < (n : Int) := by rw [hn, pow_lt_iff j hj]; omega
      rw [ht, decide_eq_true h, decide_eq_false hlt]
      rfl
    · have hlt : 1048576 < (n : Int) := by rw [hn, pow_lt_iff j hj]; omega
      have ht : twoB (n : Int) = false := by
        rw [Bool.eq_false_iff]
        intro h2
        obtain ⟨i, hi, he⟩ := (twoB_iff _).1 h2
        rw [he, pow_lt_iff i (by omega)] at hlt
        omega
      rw [ht, decide_eq_true hlt]
      simp
  · have ht : twoB (n : Int) = false := by
      rw [Bool.eq_false_iff]
      intro h2
      obtain ⟨i, hi, he⟩ := (twoB_iff _).1 h2
      exact h ((swar_one n (by omega)).2 ⟨i, by omega, by omega⟩)
    rw [ht, decide_eq_false h]
    rfl
theorem andNot4095 (a : Int) (h0 : 0 ≤ a) (h1 : a < 18446744073709551616) : Go.bits .andNot .u64 a 4095 = a - a % 4096 := by
  obtain ⟨n, rfl⟩ := Int.eq_ofNat_of_zero_le h0
  have := u64_andNot_nat n 4095 (by omega) (by omega)
  rw [show ((4095 : Nat) : Int) = 4095 from rfl] at this
  rw [this, show (4095 : Nat) = 2 ^ 12 - 1 from rfl, andNot_pow n 12 (by omega) (by omega)]
  omega
theorem down_is (a : Int) (h0 : 0 ≤ a) (h1 : a < 18446744073709551616) : IntKind.u64.wrap ((IntKind.u64.wrap (Int.tdiv a 4096)) * 4096) = Go.bits .andNot .u64 a 4095 := by
  rw [andNot4095 a h0 h1, Int.tdiv_eq_ediv_of_nonneg h0, uwrap_id (n := a / 4096) (by omega) (by omega), uwrap_id (by omega) (by omega)]
  omega
theorem end_is (X : S50) : IntKind.u64.wrap ((IntKind.u64.wrap (Int.tdiv (IntKind.u64.wrap ((IntKind.u64.wrap (X.f3 + X.f5)) + 4095)) 4096)) * 4096) = endV X := by
  have hw := hd_wrap_in (IntKind.u64.wrap (X.f3 + X.f5) + 4095)
  rw [down_is _ hw.1 hw.2]
  unfold endV
  congr 1
  have h2 := hd_wrap_in (X.f3 + X.f5)
  generalize IntKind.u64.wrap (X.f3 + X.f5) = s at *
  simp only [uwrap] at *
  omega
/-- The end of the pages behind some headers. -/
def endF (nd : Int) (ps : List S50) : Int := ps.foldl (fun e x => if x.f0 == 1 then endV x else e) nd
theorem rd50 (ps : List S50) (i : Nat) (hi : i < ps.length) : ps.drop i = rd_T50 ps (i : Int) :: ps.drop (i + 1) := by
  have e : rd_T50 ps (i : Int) = ps[i] := by simp [rd_T50, List.getD_eq_getElem?_getD, List.getElem?_eq_getElem hi]
  rw [e]
  exact List.drop_eq_getElem_cons hi
theorem prog_loop (l : List Int) (p : Int) (ps : List S50) (o : Bool) (X : S50) (hps : ps.length < 1000) (d : Nat) : ∀ (k i : Nat) (nd : Int), i + d = ps.length →
    shackleref04_prog.l0 (k + 2 * d + 1) l p ps o nd (i : Int) X.f0 X.f1 X.f2 X.f3 X.f4 X.f5 X.f6 =
      if (o && (ps.drop i).any fun x => x.f0 == X.f0) = true then some (5, true, p) else shackleref04_prog.l0 (k + 1) l p ps o (endF nd (ps.drop i)) (ps.length : Int) X.f0 X.f1 X.f2 X.f3 X.f4 X.f5 X.f6 := by
  induction d with
  | zero =>
    intro k i nd hi
    obtain rfl : i = ps.length := by omega
    rw [List.drop_length]
    simp [endF]
  | succ d ih =>
    intro k i nd hi
    have hil : i < ps.length := by omega
    have hw : wrap64 ((i : Int) + 1) = ((i + 1 : Nat) : Int) := by rw [w64_id (by omega) (by omega)]; omega
    have hstep : shackleref04_prog.l0 (k + 2 * (d + 1) + 1) l p ps o nd (i : Int) X.f0 X.f1 X.f2 X.f3 X.f4 X.f5 X.f6 = shackleref04_prog.j1 (k + 2 * d + 1 + 1) l p ps o nd (i : Int) (o && ((rd_T50 ps (i : Int)).f0 == X.f0)) X.f0 X.f1 X.f2 X.f3 X.f4 X.f5 X.f6 := by
      rw [show k + 2 * (d + 1) + 1 = (k + 2 * d + 1 + 1) + 1 by omega, shackleref04_prog.l0, if_pos (by omega)]
      cases o
      · rw [if_neg (by decide)]
        rfl
      · rw [if_pos rfl, if_pos (by omega)]
        rfl
    rw [hstep, shackleref04_prog.j1, rd50 ps i hil, List.any_cons]
    by_cases h : (o && ((rd_T50 ps (i : Int)).f0 == X.f0)) = true
    · rw [if_pos h, if_pos (by rw [Bool.and_or_distrib_left, h, Bool.true_or])]
      rfl
    · have h' : (o && ((rd_T50 ps (i : Int)).f0 == X.f0)) = false := by simpa using h
      rw [if_neg h, if_pos (by omega), if_pos (by omega), hw, end_is (rd_T50 ps (i : Int)), Bool.and_or_distrib_left, h', Bool.false_or]
      by_cases h1 : (rd_T50 ps (i : Int)).f0 = 1
      · rw [if_pos h1, ih k (i + 1) _ (by omega)]
        rw [show endF nd (rd_T50 ps (i : Int) :: ps.drop (i + 1)) = endF (endV (rd_T50 ps (i : Int))) (ps.drop (i + 1)) by simp [endF, h1]]
      · rw [if_neg h1, ih k (i + 1) _ (by omega)]
        rw [show endF nd (rd_T50 ps (i : Int) :: ps.drop (i + 1)) = endF nd (ps.drop (i + 1)) by simp [endF, h1]]
/-- What the tests tell, as the reference says it. -/
theorem toBad_ite (b : Bool) (p off c : Int) (hc : 0 ≤ c) (e : Option Int) : toBad (if b = true then some (spZ (IntKind.u64.wrap (p + off)) c) else e) = if b = true then (c, true, IntKind.u64.wrap (p + off)) else toBad e := by
  cases b
  · rfl
  · exact toBad_spot (hd_wrap_in _).1 (hd_wrap_in _).2 hc
theorem ite_pick {α : Type} (c b : Bool) (f : Bool → α) : (if c = true then f (!b) else f false) = f (!b && c) := by cases c <;> cases b <;> rfl
/-- The last tests, of a header that is loaded or thread-local. -/
theorem j5_is (p nd : Int) (b : Bool) (X : S50) (k : Nat) (hX2 : 0 ≤ X.f2) (hX3 : 0 ≤ X.f3 ∧ X.f3 < 18446744073709551616) (ht : X.f0 = 1 ∨ X.f0 = 7) :
    shackleref04_prog.j5 (k + 1) p nd b X.f0 X.f1 X.f2 X.f3 X.f4 X.f5 X.f6 = some (toBad (if b = true then some (spZ (IntKind.u64.wrap (p + 48)) 3) else checkV p
      [⟨(X.f0 == 1) && (X.f5 == 0), 3, 40⟩, ⟨(X.f0 == 1) && decide (X.f6 < 4096), 3, 48⟩,
       ⟨(X.f0 == 1) && ((X.f2.tmod (if X.f6 < 1 then (1 : Int) else X.f6) != X.f3.tmod (if X.f6 < 1 then (1 : Int) else X.f6)) || decide (Go.bits .andNot .u64 X.f3 4095 < nd)), 3, 16⟩])) := by
  rw [shackleref04_prog.j5, toBad_ite _ _ _ _ (by decide), down_is _ hX3.1 hX3.2]
  cases b
  · rw [if_neg (show ¬ (false = true) by decide), if_neg (show ¬ (false = true) by decide)]
    rcases ht with h | h
    · have h7 : ¬ X.f0 = 7 := by omega
      have h1 : (X.f0 == 1) = true := beq_iff_eq.2 h
      rw [if_neg h7]
      simp only [checkV, h1, Bool.true_and]
      rw [toBad_ite _ _ _ _ (by decide), toBad_ite _ _ _ _ (by decide), toBad_ite _ _ _ _ (by decide)]
      by_cases c1 : X.f5 = 0
      · rw [if_pos c1, if_pos (beq_iff_eq.2 c1)]
        rfl
      · rw [if_neg c1, if_neg (fun e => c1 (beq_iff_eq.1 e))]
        by_cases c2 : X.f6 < 4096
        · rw [if_pos c2, if_pos (decide_eq_true c2)]
          rfl
        · have hm : (if X.f6 < 1 then (1 : Int) else X.f6) = X.f6 := if_neg (by omega)
          rw [if_neg c2, if_neg (fun e => c2 (of_decide_eq_true e)), if_neg (by omega), hm]
          by_cases c3 : X.f2.tmod X.f6 = X.f3.tmod X.f6
          · have c3b : (X.f2.tmod X.f6 != X.f3.tmod X.f6) = false := bne_eq_false_iff_eq.2 c3
            rw [if_pos c3, c3b, Bool.false_or]
            by_cases c4 : Go.bits .andNot .u64 X.f3 4095 < nd
            · rw [if_pos c4, if_pos (decide_eq_true c4)]
              rfl
            · rw [if_neg c4, if_neg (fun e => c4 (of_decide_eq_true e))]
              rfl
          · have c3b : (X.f2.tmod X.f6 != X.f3.tmod X.f6) = true := bne_iff_ne.2 c3
            rw [if_neg c3, c3b, Bool.true_or, if_pos rfl]
            rfl
    · have h1 : (X.f0 == 1) = false := beq_eq_false_iff_ne.2 (by omega)
      rw [if_pos h]
      simp [checkV, h1, toBad]
  · rw [if_pos rfl, if_pos rfl]
    rfl
theorem j4_is (p nd : Int) (X : S50) (k : Nat) (hk : 30 ≤ k) (hX2 : 0 ≤ X.f2) (hX3 : 0 ≤ X.f3 ∧ X.f3 < 18446744073709551616) (hX6 : 0 ≤ X.f6 ∧ X.f6 < 18446744073709551616) :
    (if X.f0 = 1 then shackleref04_prog.j4 (k + 1) p nd false X.f0 X.f1 X.f2 X.f3 X.f4 X.f5 X.f6 else shackleref04_prog.j4 (k + 1) p nd (X.f0 != 7) X.f0 X.f1 X.f2 X.f3 X.f4 X.f5 X.f6) = some (toBad (checkV p
      [⟨((X.f0 == 1) || (X.f0 == 7)) && decide (X.f5 < X.f4), 3, 32⟩, ⟨((X.f0 == 1) || ((X.f0 == 7) && (X.f6 != 0))) && ((upE X.f6).isSome || decide (1048576 < X.f6)), 3, 48⟩, ⟨(X.f0 == 1) && (X.f5 == 0), 3, 40⟩, ⟨(X.f0 == 1) && decide (X.f6 < 4096), 3, 48⟩,
       ⟨(X.f0 == 1) && ((X.f2.tmod (if X.f6 < 1 then (1 : Int) else X.f6) != X.f3.tmod (if X.f6 < 1 then (1 : Int) else X.f6)) || decide (Go.bits .andNot .u64 X.f3 4095 < nd)), 3, 16⟩])) := by
  have key : ∀ b : Bool, (X.f0 = 1 ∨ X.f0 = 7) → ((X.f0 == 1) || ((X.f0 == 7) && (X.f6 != 0))) = b →
      shackleref04_prog.j4 (k + 1) p nd false X.f0 X.f1 X.f2 X.f3 X.f4 X.f5 X.f6 = some (toBad (checkV p
      [⟨decide (X.f5 < X.f4), 3, 32⟩, ⟨b && ((upE X.f6).isSome || decide (1048576 < X.f6)), 3, 48⟩, ⟨(X.f0 == 1) && (X.f5 == 0), 3, 40⟩, ⟨(X.f0 == 1) && decide (X.f6 < 4096), 3, 48⟩,
       ⟨(X.f0 == 1) && ((X.f2.tmod (if X.f6 < 1 then (1 : Int) else X.f6) != X.f3.tmod (if X.f6 < 1 then (1 : Int) else X.f6)) || decide (Go.bits .andNot .u64 X.f3 4095 < nd)), 3, 16⟩])) := by
    intro b ht hb
    rw [shackleref04_prog.j4, if_neg (show ¬ (false = true) by decide), power_of _ _ (by omega), Option.bind_some, odd_is _ hX6.1 hX6.2, checkV]
    dsimp only
    rw [toBad_ite _ _ _ _ (by decide)]
    obtain ⟨m, rfl⟩ : ∃ m, k = m + 1 := ⟨k - 1, by omega⟩
    by_cases c1 : X.f5 < X.f4
    · rw [if_pos c1, if_pos (decide_eq_true c1)]
      rfl
    · rw [if_neg c1, if_neg (fun e => c1 (of_decide_eq_true e)), checkV]
      dsimp only
      rw [j5_is p nd false X m hX2 hX3 ht, j5_is p nd true X m hX2 hX3 ht, j5_is p nd _ X m hX2 hX3 ht]
      subst hb
      cases twoB X.f6
      · rw [if_neg (show ¬ (false = true) by decide)]
        rcases ht with h | h
        · rw [if_neg (by omega), h]
          rfl
        · rw [if_pos h, h]
          rw [show (((7 : Int) == 1 || (7 : Int) == 7 && (X.f6 != 0)) && !false) = (X.f6 != 0) by simp]
      · rw [if_pos rfl, Bool.not_true, Bool.and_false]
  by_cases h1 : X.f0 = 1
  · have e1 : (X.f0 == 1) = true := beq_iff_eq.2 h1
    rw [if_pos h1, key _ (.inl h1) rfl]
    simp only [e1, Bool.true_or, Bool.true_and]
  · rw [if_neg h1]
    by_cases h7 : X.f0 = 7
    · have e7 : (X.f0 == 7) = true := beq_iff_eq.2 h7
      rw [bne_eq_false_iff_eq.2 h7, key _ (.inr h7) rfl]
      simp only [e7, Bool.or_true, Bool.true_and]
    · rw [bne_iff_ne.2 h7, shackleref04_prog.j4, if_pos rfl]
      simp [checkV, beq_eq_false_iff_ne.2 h1, beq_eq_false_iff_ne.2 h7, toBad]
theorem prog_is (l : List Int) (hn : l.length < 140737488355328) (p : Int) (hp : 0 ≤ p ∧ p < 18446744073709551616) (ps : List S50) (hps : ps.length < 1000) (X : S50) (hX2 : 0 ≤ X.f2) (hX3 : 0 ≤ X.f3 ∧ X.f3 < 18446744073709551616) (hX6 : 0 ≤ X.f6 ∧ X.f6 < 18446744073709551616) (k : Nat) (hk : 2 * ps.length + 60 ≤ k) :
    shackleref04_prog.f k l X.f0 X.f1 X.f2 X.f3 X.f4 X.f5 X.f6 p ps = some (toBad (checkV p (progT l X ps (endF 0 ps)))) := by
  obtain ⟨m, rfl⟩ : ∃ m, k = (m + 40 + 3) + 2 * ps.length + 1 := ⟨k - 44 - 2 * ps.length, by omega⟩
  unfold shackleref04_prog.f
  rw [among_of _ _ (by decide) _ (by simp only [List.length_cons, List.length_nil]; omega), Option.bind_some]
  have hl := prog_loop l p ps (isV X.f0 is2L) X hps ps.length (m + 40 + 3) 0 0 (Nat.zero_add _)
  rw [show ((0 : Nat) : Int) = 0 from rfl, List.drop_zero] at hl
  rw [show ([2, 3, 7, 1685382482, 1685382481] : List Int) = is2L from rfl, hl]
  have hp0 : IntKind.u64.wrap (p + 0) = p := by rw [Int.add_zero]; exact uwrap_id hp.1 hp.2
  have h0 := toBad_ite ((ps.any fun x => x.f0 == X.f0) && isV X.f0 is2L) p 0 5 (by decide)
  rw [hp0] at h0
  unfold progT
  rw [checkV, Bool.and_comm (isV X.f0 is2L)]
  dsimp only
  rw [hp0, h0]
  by_cases c0 : ((ps.any fun x => x.f0 == X.f0) && isV X.f0 is2L) = true
  · rw [if_pos c0, if_pos c0]
  · rw [if_neg c0, if_neg c0]
    rw [shackleref04_prog.l0, if_neg (by omega), among_of _ _ (by decide) _ (by simp only [List.length_cons, List.length_nil]; omega), Option.bind_some, show shackleref01_In.f (IntKind.u64.wrap (l.length : Int)) X.f2 X.f4 = some (liesB l.length X.f2 X.f4) from hd_in _ _ _ hn hX2, Option.bind_some]
    refine (ite_pick _ _ (fun b => shackleref04_prog.j2 (m + 43) p (endF 0 ps) b X.f0 X.f1 X.f2 X.f3 X.f4 X.f5 X.f6)).trans ?_
    rw [checkV, shackleref04_prog.j2]
    dsimp only
    rw [toBad_ite _ _ _ _ (by decide)]
    rw [show ([1, 2, 3, 4, 7] : List Int) = is3L from rfl]
    by_cases c1 : (!(liesB l.length X.f2 X.f4) && isV X.f0 is3L) = true
    · rw [if_pos c1, if_pos c1]
      rfl
    · rw [if_neg c1, if_neg c1]
      rw [among_of _ _ (by decide) _ (by simp only [List.length_cons, List.length_nil]; omega), Option.bind_some, in_big _ _ hX3.1, Option.bind_some]
      refine (ite_pick _ _ (fun b => shackleref04_prog.j3 (m + 42) p (endF 0 ps) b X.f0 X.f1 X.f2 X.f3 X.f4 X.f5 X.f6)).trans ?_
      rw [checkV, shackleref04_prog.j3]
      dsimp only
      rw [toBad_ite _ _ _ _ (by decide)]
      rw [show ([1, 2, 7, 1685382482] : List Int) = is4L from rfl]
      by_cases c2 : (!(liesB 140737488355328 X.f3 X.f5) && isV X.f0 is4L) = true
      · rw [if_pos c2, if_pos c2]
        rfl
      · rw [if_neg c2, if_neg c2]
        exact j4_is p _ X (m + 40) (by omega) hX2 hX3 hX6
theorem check_code (p : Int) (L : List S124) (hL : ∀ t ∈ L, 3 ≤ t.f1) (q : Int) (h : checkV p L = some q) : ∃ a c, q = spZ a c ∧ 0 ≤ a ∧ a < 18446744073709551616 ∧ 3 ≤ c := by
  induction L with
  | nil => cases h
  | cons t L ih =>
    rw [checkV] at h
    split at h
    · cases h
      exact ⟨_, _, rfl, (hd_wrap_in _).1, (hd_wrap_in _).2, hL t List.mem_cons_self⟩
    · exact ih (fun x hx => hL x (List.mem_cons_of_mem _ hx)) h
theorem progT_codes (l : List Int) (X : S50) (ps : List S50) (nd : Int) : ∀ t ∈ progT l X ps nd, 3 ≤ t.f1 := by
  intro t ht
  simp only [progT, List.mem_cons, List.not_mem_nil, or_false] at ht
  rcases ht with rfl | rfl | rfl | rfl | rfl | rfl | rfl | rfl <;> (dsimp only; decide)
/-- What an error of head.Read may be. -/
def ErrOk (e : Option Int) : Prop := e = none ∨ e = some 2 ∨ e = some 6 ∨ ∃ a c, e = some (spZ a c) ∧ 0 ≤ a ∧ a < 18446744073709551616 ∧ 0 ≤ c
theorem prog_bounds (l : List Int) (hn : l.length < 140737488355328) (hb : ∀ x ∈ l, 0 ≤ x ∧ x < 256) (p : Int) (hp : 0 ≤ p ∧ p < 18446744073709551616) :
    (0 ≤ (progX l p).f2 ∧ (progX l p).f2 < 18446744073709551616) ∧ (0 ≤ (progX l p).f3 ∧ (progX l p).f3 < 18446744073709551616) ∧ (0 ≤ (progX l p).f6 ∧ (progX l p).f6 < 18446744073709551616) := by
  have g := fun a : Int => num_is l hn hb (IntKind.u64.wrap a) 8 (hd_wrap_in a).1 (hd_wrap_in a).2 (by omega)
  exact ⟨⟨(g _).1, (g _).2.1⟩, ⟨(g _).1, (g _).2.1⟩, ⟨(g _).1, (g _).2.1⟩⟩
theorem endF_snoc (nd : Int) (ps : List S50) (X : S50) : endF nd (ps ++ [X]) = if X.f0 == 1 then endV X else endF nd ps := by
  simp [endF, List.foldl_append]
theorem read_loop (l : List Int) (hn : l.length < 140737488355328) (hb : ∀ x ∈ l, 0 ≤ x ∧ x < 256) (N : Nat) (hN : N ≤ 16) (fr ty en : Int) (d : Nat) : ∀ (k i : Nat) (ps : List S50), i + d = N → ps.length = i → 200 ≤ k →
    ∃ r : Option Int × List S50, goV l fr d i ps (endF 0 ps) = r ∧ ErrOk r.1 ∧ (r.1 ≠ none → r.2 = []) ∧ r.2.length ≤ 16 ∧
      shackleref04_Read.l0 (k + d + 1) l (N : Int) fr (ps.any fun x => x.f0 == 1) (i : Int) ty en ps =
        match r with
        | (some q, _) => some (0, 0, [], toBad (some q))
        | (none, qs) => if (qs.any fun x => x.f0 == 1) = true then some (ty, en, qs, 0, false, 0) else some (0, 0, [], 6, false, 0) := by
  induction d with
  | zero =>
    intro k i ps hi hps hk
    refine ⟨(none, ps), rfl, .inl rfl, fun h => absurd rfl h, (show ps.length ≤ 16 by omega), ?_⟩
    rw [shackleref04_Read.l0, if_neg (by omega)]
  | succ d ih =>
    intro k i ps hi hps hk
    have hp := hd_wrap_in (fr + IntKind.u64.wrap (56 * (i : Int)))
    have hw : IntKind.u64.wrap ((i : Int) + 1) = ((i + 1 : Nat) : Int) := by rw [uwrap_id (by omega) (by omega)]; omega
    rw [show k + (d + 1) + 1 = (k + d + 1) + 1 by omega, shackleref04_Read.l0, if_pos (by omega), hw, goV]
    generalize IntKind.u64.wrap (fr + IntKind.u64.wrap (56 * (i : Int))) = p at *
    have g := fun a n (hw : n = 1 ∨ n = 2 ∨ n = 4 ∨ n = 8) => (num_is l hn hb (IntKind.u64.wrap a) n (hd_wrap_in a).1 (hd_wrap_in a).2 hw).2.2 (k + d + 1) (by omega)
    rw [(num_is l hn hb p 4 hp.1 hp.2 (by omega)).2.2 (k + d + 1) (by omega), Option.bind_some, g _ 4 (by omega), Option.bind_some, g _ 8 (by omega), Option.bind_some, g _ 8 (by omega), Option.bind_some, g _ 8 (by omega), Option.bind_some, g _ 8 (by omega), Option.bind_some, g _ 8 (by omega), Option.bind_some]
    clear g
    have hB := prog_bounds l hn hb p hp
    have hX : (⟨getV l p 4 % 4294967296, getV l (IntKind.u64.wrap (p + 4)) 4 % 4294967296, getV l (IntKind.u64.wrap (p + 8)) 8, getV l (IntKind.u64.wrap (p + 16)) 8, getV l (IntKind.u64.wrap (p + 32)) 8, getV l (IntKind.u64.wrap (p + 40)) 8, getV l (IntKind.u64.wrap (p + 48)) 8⟩ : S50) = progX l p := by
      unfold progX
      rw [IntKind.wrap_u32, IntKind.wrap_u32]
    have hP := prog_is l hn p hp ps (by omega) (progX l p) hB.1.1 hB.2.1 hB.2.2 (k + d + 1) (by omega)
    have hP2 : shackleref04_prog.f (k + d + 1) l (getV l p 4 % 4294967296) (getV l (IntKind.u64.wrap (p + 4)) 4 % 4294967296) (getV l (IntKind.u64.wrap (p + 8)) 8) (getV l (IntKind.u64.wrap (p + 16)) 8) (getV l (IntKind.u64.wrap (p + 32)) 8) (getV l (IntKind.u64.wrap (p + 40)) 8) (getV l (IntKind.u64.wrap (p + 48)) 8) p ps = some (toBad (checkV p (progT l (progX l p) ps (endF 0 ps)))) := by
      rw [← hX] at hP ⊢
      exact hP
    rw [hP2, Option.bind_some, hX, progV]
    clear hP hP2
    cases hc : checkV p (progT l (progX l p) ps (endF 0 ps)) with
    | some q =>
      obtain ⟨a, c, rfl, ha0, ha1, hcc⟩ := check_code p _ (progT_codes l _ ps _) q hc
      refine ⟨(some (spZ a c), []), rfl, .inr (.inr (.inr ⟨a, c, rfl, ha0, ha1, by omega⟩)), fun _ => rfl, by simp, ?_⟩
      show _ = some (0, 0, [], toBad (some (spZ a c)))
      rw [toBad_spot ha0 ha1 (by omega), if_neg (by show ¬ c = 0; omega)]
    | none =>
      have hlen : ps.length < 2932031007402 := by omega
      have hty : getV l p 4 % 4294967296 = (progX l p).f0 := by rw [← hX]
      obtain ⟨r, h1, h2, h3, h4, h5⟩ := ih k (i + 1) (ps ++ [progX l p]) (by omega) (by rw [List.length_append, hps]; rfl) hk
      refine ⟨r, ?_, h2, h3, h4, ?_⟩
      · rw [← h1, endF_snoc]
      · rw [← h5, hty]
        have hany : ((ps ++ [progX l p]).any fun x => x.f0 == 1) = ((ps.any fun x => x.f0 == 1) || ((progX l p).f0 == 1)) := by simp [List.any_append]
        rw [hany, if_pos (show (toBad none).1 = 0 from rfl), if_pos hlen, if_pos hlen]
        cases (ps.any fun x => x.f0 == 1)
        · rw [if_neg (show ¬ (false = true) by decide), Bool.false_or]
        · rw [if_pos rfl, Bool.true_or]
theorem read_is (l : List Int) (hn : l.length < 140737488355328) (hb : ∀ x ∈ l, 0 ≤ x ∧ x < 256) (k : Nat) (hk : 300 ≤ k) :
    ErrOk (readV l).2.2.2 ∧ (readV l).2.2.1.length ≤ 16 ∧ shackleref04_Read.f k l = some ((readV l).1, (readV l).2.1, (readV l).2.2.1, toBad (readV l).2.2.2) := by
  have hn2 := num_is l hn hb 56 2 (by omega) (by omega) (by omega)
  have hn32 := num_is l hn hb 32 8 (by omega) (by omega) (by omega)
  have hn16 := num_is l hn hb 16 2 (by omega) (by omega) (by omega)
  have hn24 := num_is l hn hb 24 8 (by omega) (by omega) (by omega)
  have spot : ∀ a c : Int, 0 ≤ a → a < 18446744073709551616 → 0 ≤ c → ErrOk (some (spZ a c)) := fun a c h0 h1 h2 => .inr (.inr (.inr ⟨a, c, rfl, h0, h1, h2⟩))
  unfold shackleref04_Read.f readV beginV
  by_cases h1 : 1048576 < l.length
  · rw [if_pos h1, if_pos (show (l.length : Int) > 1048576 by omega)]
    exact ⟨.inr (.inl rfl), Nat.zero_le _, rfl⟩
  rw [if_neg h1, if_neg (show ¬ (l.length : Int) > 1048576 by omega), begins_is l hn hb k (by omega), Option.bind_some]
  by_cases h2 : l.length < 64
  · rw [if_pos h2, if_pos (show (l.length : Int) < 64 by omega)]
    refine ⟨spot _ _ (by omega) (by omega) (by omega), Nat.zero_le _, ?_⟩
    dsimp only
    rw [toBad_spot (by omega) (by omega) (by omega), if_neg (show ¬ ((4 : Int) = 0) by decide)]
  rw [if_neg h2, if_neg (show ¬ (l.length : Int) < 64 by omega)]
  cases hbad : badF l tabN with
  | some o =>
    have ho : 0 ≤ o ∧ o < 100 := by
      have key : ∀ (L : List (Int × Int × Int × Int)), (∀ x ∈ L, 0 ≤ x.1 ∧ x.1 < 100) → badF l L = some o → 0 ≤ o ∧ o < 100 := by
        intro L
        induction L with
        | nil => intro _ h; cases h
        | cons x L ih =>
          intro hL h
          rw [badF] at h
          split at h
          · exact ih (fun y hy => hL y (List.mem_cons_of_mem _ hy)) h
          · cases h
            exact hL x List.mem_cons_self
      exact key tabN (by decide) hbad
    refine ⟨spot _ _ (by omega) (by omega) (by omega), Nat.zero_le _, ?_⟩
    rw [if_neg (show ¬ (G3 (some o)).1 = 0 from (by decide : ¬ (3 : Int) = 0))]
    dsimp only
    rw [toBad_spot (by omega) (by omega) (by omega)]
    rfl
  | none =>
    rw [if_pos (show (G3 none).1 = 0 from rfl), hn2.2.2 k (by omega), Option.bind_some]
    dsimp only
    by_cases h3 : getV l 56 2 = 0
    · rw [if_pos h3, if_pos h3]
      refine ⟨spot _ _ (by omega) (by omega) (by omega), Nat.zero_le _, ?_⟩
      dsimp only
      rw [toBad_spot (by omega) (by omega) (by omega)]
      rfl
    rw [if_neg h3, if_neg h3]
    by_cases h4 : getV l 56 2 > 16
    · rw [if_pos h4, if_pos h4]
      refine ⟨spot _ _ (by omega) (by omega) (by omega), Nat.zero_le _, ?_⟩
      dsimp only
      rw [toBad_spot (by omega) (by omega) (by omega)]
      rfl
    rw [if_neg h4, if_neg h4, hn32.2.2 k (by omega), Option.bind_some, show shackleref01_In.f (IntKind.u64.wrap (l.length : Int)) (getV l 32 8) (IntKind.u64.wrap (56 * getV l 56 2)) = some (liesB l.length (getV l 32 8) (IntKind.u64.wrap (56 * getV l 56 2))) from hd_in _ _ _ hn hn32.1, Option.bind_some]
    by_cases h5 : liesB l.length (getV l 32 8) (IntKind.u64.wrap (56 * getV l 56 2)) = true
    · rw [if_pos h5, if_pos h5, hn16.2.2 k (by omega), Option.bind_some, hn24.2.2 k (by omega), Option.bind_some]
      obtain ⟨N, hN⟩ := Int.eq_ofNat_of_zero_le hn2.1
      rw [hN] at h4 ⊢
      obtain ⟨m, rfl⟩ : ∃ m, k = m + N + 1 := ⟨k - N - 1, by omega⟩
      obtain ⟨⟨e, qs⟩, r1, r2, r3, r4, r5⟩ := read_loop l hn hb N (by omega) (getV l 32 8) (wrap64 (getV l 16 2)) (getV l 24 8) N m 0 [] (Nat.zero_add _) rfl (by omega)
      have r5' : shackleref04_Read.l0 (m + N + 1) l (N : Int) (getV l 32 8) false 0 (wrap64 (getV l 16 2)) (getV l 24 8) [] = _ := r5
      rw [r5']
      dsimp only [Int.toNat_natCast]
      rw [show goV l (getV l 32 8) N 0 [] 0 = (e, qs) from r1]
      cases e with
      | some q => exact ⟨r2, Nat.zero_le _, rfl⟩
      | none =>
        dsimp only
        by_cases h6 : (qs.any fun x => x.f0 == 1) = true
        · rw [if_pos h6, if_pos h6]
          exact ⟨.inl rfl, r4, rfl⟩
        · rw [if_neg h6, if_neg h6]
          exact ⟨.inr (.inr (.inl rfl)), Nat.zero_le _, rfl⟩
    · rw [if_neg h5, if_neg h5]
      refine ⟨spot _ _ (by omega) (by omega) (by omega), Nat.zero_le _, ?_⟩
      dsimp only
      rw [toBad_spot (by omega) (by omega) (by omega)]
      rfl
/-! the law -/
theorem same_heads (ty en : Int) (ps : List S50) (hps : ps.length ≤ 16) (d : Nat) : ∀ (k i : Nat), i + d = ps.length → shackleref04_Same.l0 (k + d + 1) (i : Int) ty en ps ty en ps = some true := by
  induction d with
  | zero =>
    intro k i hi
    rw [shackleref04_Same.l0, if_neg (by omega)]
  | succ d ih =>
    intro k i hi
    have hw : wrap64 ((i : Int) + 1) = ((i + 1 : Nat) : Int) := by rw [w64_id (by omega) (by omega)]; omega
    rw [show k + (d + 1) + 1 = (k + d + 1) + 1 by omega, shackleref04_Same.l0, if_pos (by omega), if_pos (by omega), if_pos (by omega), hw, if_neg (by simp)]
    exact ih k (i + 1) (by omega)
theorem same_head (ty en : Int) (ps : List S50) (hps : ps.length ≤ 16) (k : Nat) (hk : 30 ≤ k) : shackleref04_Same.f k ty en ps ty en ps = some true := by
  obtain ⟨m, rfl⟩ : ∃ m, k = (m + ps.length + 1) + 1 := ⟨k - ps.length - 2, by omega⟩
  unfold shackleref04_Same.f
  rw [if_pos rfl, if_pos rfl, shackleref04_Same.j0, if_neg (by simp)]
  exact same_heads ty en ps hps ps.length m 0 (Nat.zero_add _)
theorem right_is (e : Option Int) (h : ErrOk e) : shacklelaw04_right.f e (toBad e).1 (toBad e).2.1 (toBad e).2.2 = some true := by
  rcases h with rfl | rfl | rfl | ⟨a, c, rfl, h0, h1, hc⟩
  · decide +kernel
  · decide +kernel
  · decide +kernel
  · have hn := spZ_neg (a := a) (c := c) h0 hc
    have hi : shacklelaw00_Is.f (some (spZ a c)) a c = some true := by
      simp [shacklelaw00_Is.f, isF, hn, spAt_spZ h0 h1, spCode_spZ h0 h1]
    rw [toBad_spot h0 h1 hc]
    unfold shacklelaw04_right.f
    rw [if_pos rfl, hi]
    rfl
theorem HeadReads : shacklelaw04_HeadReads.Pure := by
  intro l hg hz
  have hl : l.length < 140737488355328 := by have := hz.1; clear hg hz; omega
  have hb : ∀ x ∈ l, 0 ≤ x ∧ x < 256 := fun x hx => lit_u8 (hg.2 x hx)
  clear hg hz
  obtain ⟨h1, h2, h3⟩ := read_is l hl hb (400 + l.length + 1) (by omega)
  refine ⟨400 + l.length + 1, ?_⟩
  unfold shacklelaw04_HeadReads.f
  rw [show shacklelaw04_shown.f = some true from rfl, Option.bind_some, if_pos (show ([] : List Int).length + l.length < 140737488355328 by simpa using hl), Option.bind_some, List.nil_append, show head_Read.f l = some (readV l) from if_pos hl, Option.bind_some, h3, Option.bind_some]
  dsimp only
  rw [same_head _ _ _ h2 _ (by omega), Option.bind_some, same_refl l hl 400, Option.bind_some, if_pos rfl, if_pos rfl, if_pos rfl, right_is _ h1]
  rfl
end Go.Proofs.YtjohdgejjnbddaaDoor.Pure
