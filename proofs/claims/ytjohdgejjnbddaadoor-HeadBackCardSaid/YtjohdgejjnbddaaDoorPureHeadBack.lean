/- shacklelaw04.HeadBack: the pure statement: what is written is read as it was; what is read has pages that don't overlap, bytes within the file, and comes back when it is written. No condition beyond the arguments' own bounds. -/
import Derived.Test.YtjohdgejjnbddaaDoorPHeadBackx9
import Derived.Test.YtjohdgejjnbddaaDoorXBits
set_option linter.unusedSimpArgs false
set_option linter.unusedVariables false
namespace Go.Proofs.YtjohdgejjnbddaaDoor.Pure
open Go.RowKit Go.Proofs.YtjohdgejjnbddaaDoor.PHeadBack Go.Proofs.YtjohdgejjnbddaaDoorW.PrintWords Go.Proofs.YtjohdgejjnbddaaDoorW.PrintLast Go.Proofs.YtjohdgejjnbddaaDoorX
def lies (n : Nat) (a b : Int) : Prop := a ≤ (n : Int) ∧ b ≤ (n : Int) - a
instance (n : Nat) (a b : Int) : Decidable (lies n a b) := inferInstanceAs (Decidable (_ ∧ _))
theorem in_of (n : Nat) (a b : Int) (hn : n < 140737488355328) (ha : 0 ≤ a) : span_In.f (IntKind.u64.wrap (n : Int)) a b = some (decide (lies n a b)) := by
  have hw : IntKind.u64.wrap (n : Int) = (n : Int) := uwrap_id (Int.natCast_nonneg _) (by omega)
  unfold span_In.f
  rw [hw]
  by_cases h : a ≤ (n : Int)
  · have hw2 : IntKind.u64.wrap ((n : Int) - a) = (n : Int) - a := uwrap_id (by omega) (by omega)
    rw [if_pos h, hw2]
    simp [lies, h]
  · rw [if_neg h]
    simp [lies, h]

theorem wide_of {n : Int} (h : n = 1 ∨ n = 2 ∨ n = 4 ∨ n = 8) : span_wide.f n = some true := by rcases h with rfl | rfl | rfl | rfl <;> rfl
theorem or_byte (u b : Nat) (hu : u < 18446744073709551616) (hd : u % 256 = 0) (hb : b < 256) : Go.bits .or .u64 (u : Int) (b : Int) = ((u + b : Nat) : Int) := by
  obtain ⟨q, rfl⟩ : ∃ q, u = 256 * q := ⟨u / 256, by omega⟩
  have h1 : (256 * q) ||| b = 256 * q + b := (Nat.two_pow_add_eq_or_of_lt (i := 8) hb q).symm
  have e1 : (BitVec.ofInt 64 ((256 * q : Nat) : Int)).toNat = 256 * q := by
    rw [BitVec.ofInt_natCast, BitVec.toNat_ofNat]
    exact Nat.mod_eq_of_lt (by omega)
  have e2 : (BitVec.ofInt 64 ((b : Nat) : Int)).toNat = b := by
    rw [BitVec.ofInt_natCast, BitVec.toNat_ofNat]
    exact Nat.mod_eq_of_lt (by omega)
  show IntKind.u64.wrap (((BitVec.ofInt 64 ((256 * q : Nat) : Int)) ||| (BitVec.ofInt 64 ((b : Nat) : Int))).toNat : Int) = _
  rw [BitVec.toNat_or, e1, e2, h1]
  exact uwrap_id (Int.natCast_nonneg _) (by omega)

def bytesLE : Nat → Int → List Int
  | 0, _ => []
  | n + 1, v => v % 256 :: bytesLE n (v / 256)
theorem bytesLE_length (n : Nat) : ∀ v, (bytesLE n v).length = n := by
  induction n with
  | zero => intro v; rfl
  | succ n ih => intro v; simp [bytesLE, ih]
theorem bitLen_gt (x k : Nat) (hk : k ≤ 64) (h : x < 18446744073709551616) : k < Go.Lib.bitLen x ↔ 2 ^ k ≤ x := by
  constructor
  · intro h1
    rcases Nat.lt_or_ge x (2 ^ k) with h2 | h2
    · have := Go.Lib.bitLen_le x k hk h2
      omega
    · exact h2
  · intro h1
    have h64 : x < 2 ^ 64 := by have : (2 : Nat) ^ 64 = 18446744073709551616 := by decide
                                omega
    rw [Go.Lib.bitLen_shift k x h1 h64]
    have hq : x / 2 ^ k ≠ 0 := by
      have := Nat.div_pos h1 (Nat.two_pow_pos k)
      omega
    rw [Go.Lib.bitLen_half _ hq (Nat.lt_of_le_of_lt (Nat.div_le_self _ _) h64)]
    omega

theorem join_bytes (n : Int) (l : List Int) (len i : Int) (hn : n ≤ 8) (d : Nat) : ∀ (k : Nat) (c v : Int) (acc : List Int), c + d = n → 0 ≤ c → acc.length + d < 140737488355328 →
    span_Join.l1 (k + d + 1) n acc v l len i n c = span_Join.l0 k n (acc ++ bytesLE d v) l len (wrap64 (i + 1)) := by
  induction d with
  | zero =>
    intro k c v acc hc h0 hl
    rw [span_Join.l1, if_neg (by omega)]
    simp [bytesLE]
  | succ d ih =>
    intro k c v acc hc h0 hl
    rw [show k + (d + 1) + 1 = (k + d + 1) + 1 by omega, span_Join.l1]
    have hwr : wrap64 (c + 1) = c + 1 := w64_id (by omega) (by omega)
    rw [if_pos (by omega), if_pos (by omega), hwr]
    have := ih k (c + 1) (v / 256) (acc ++ [v % 256]) (by omega) (by omega) (by simp; omega)
    rw [this]
    simp [bytesLE]

theorem andNot4095 (a : Int) (h0 : 0 ≤ a) (h1 : a < 18446744073709551616) : Go.bits .andNot .u64 a 4095 = a - a % 4096 := by
  obtain ⟨n, rfl⟩ := Int.eq_ofNat_of_zero_le h0
  have := u64_andNot_nat n 4095 (by omega) (by omega)
  rw [show ((4095 : Nat) : Int) = 4095 from rfl] at this
  rw [this, show (4095 : Nat) = 2 ^ 12 - 1 from rfl, andNot_pow n 12 (by omega) (by omega)]
  omega
theorem down_is (a : Int) (h0 : 0 ≤ a) (h1 : a < 18446744073709551616) : IntKind.u64.wrap ((IntKind.u64.wrap (Int.tdiv a 4096)) * 4096) = Go.bits .andNot .u64 a 4095 := by
  rw [andNot4095 a h0 h1, Int.tdiv_eq_ediv_of_nonneg h0, uwrap_id (n := a / 4096) (by omega) (by omega), uwrap_id (by omega) (by omega)]
  omega
theorem end_is (X : S50) : IntKind.u64.wrap ((IntKind.u64.wrap (Int.tdiv (IntKind.u64.wrap ((IntKind.u64.wrap (X.f3 + X.f5)) + 4095)) 4096)) * 4096) = endV X := by
  have hw := hd_wrap_in (IntKind.u64.wrap (X.f3 + X.f5) + 4095)
  rw [down_is _ hw.1 hw.2]
  unfold endV
  congr 1
  have h2 := hd_wrap_in (X.f3 + X.f5)
  generalize IntKind.u64.wrap (X.f3 + X.f5) = s at *
  simp only [uwrap] at *
  omega
def endF (nd : Int) (ps : List S50) : Int := ps.foldl (fun e x => if x.f0 == 1 then endV x else e) nd
theorem endF_snoc (nd : Int) (ps : List S50) (X : S50) : endF nd (ps ++ [X]) = if X.f0 == 1 then endV X else endF nd ps := by
  simp [endF, List.foldl_append]
theorem same_heads (ty en : Int) (ps : List S50) (hps : ps.length ≤ 16) (d : Nat) : ∀ (k i : Nat), i + d = ps.length → shackleref04_Same.l0 (k + d + 1) (i : Int) ty en ps ty en ps = some true := by
  induction d with
  | zero =>
    intro k i hi
    rw [shackleref04_Same.l0, if_neg (by omega)]
  | succ d ih =>
    intro k i hi
    have hw : wrap64 ((i : Int) + 1) = ((i + 1 : Nat) : Int) := by rw [w64_id (by omega) (by omega)]; omega
    rw [show k + (d + 1) + 1 = (k + d + 1) + 1 by omega, shackleref04_Same.l0, if_pos (by omega), if_pos (by omega), if_pos (by omega), hw, if_neg (by simp)]
    exact ih k (i + 1) (by omega)
theorem same_head (ty en : Int) (ps : List S50) (hps : ps.length ≤ 16) (k : Nat) (hk : 30 ≤ k) : shackleref04_Same.f k ty en ps ty en ps = some true := by
  obtain ⟨m, rfl⟩ : ∃ m, k = (m + ps.length + 1) + 1 := ⟨k - ps.length - 2, by omega⟩
  unfold shackleref04_Same.f
  rw [if_pos rfl, if_pos rfl, shackleref04_Same.j0, if_neg (by simp)]
  exact same_heads ty en ps hps ps.length m 0 (Nat.zero_add _)
/-! numbers out of bytes -/
def leV : List Int → Int
  | [] => 0
  | b :: r => b + 256 * leV r
theorem leV_snoc (xs : List Int) (b : Int) : leV (xs ++ [b]) = leV xs + b * 256 ^ xs.length := by
  induction xs with
  | nil => simp [leV]
  | cons x xs ih =>
    rw [List.cons_append, leV, ih, leV, List.length_cons, Int.pow_succ, Int.mul_add, Int.add_assoc]
    congr 2
    rw [Int.mul_comm 256, Int.mul_assoc]
theorem leV_bound (xs : List Int) (h : ∀ x ∈ xs, 0 ≤ x ∧ x < 256) : 0 ≤ leV xs ∧ leV xs < 256 ^ xs.length := by
  induction xs with
  | nil => simp [leV]
  | cons x xs ih =>
    have h1 := h x List.mem_cons_self
    have h2 := ih (fun y hy => h y (List.mem_cons_of_mem _ hy))
    rw [leV, List.length_cons, Int.pow_succ]
    omega
theorem leV_bytes (n : Nat) : ∀ v : Int, 0 ≤ v → v < 256 ^ n → leV (bytesLE n v) = v := by
  induction n with
  | zero => intro v h0 h1; simp at h1; simp [bytesLE, leV]; omega
  | succ n ih =>
    intro v h0 h1
    rw [Int.pow_succ] at h1
    rw [bytesLE, leV, ih (v / 256) (by omega) (by omega)]
    omega
theorem bytes_small (n : Nat) : ∀ v : Int, ∀ x ∈ bytesLE n v, 0 ≤ x ∧ x < 256 := by
  induction n with
  | zero => intro v x hx; simp [bytesLE] at hx
  | succ n ih =>
    intro v x hx
    rw [bytesLE, List.mem_cons] at hx
    rcases hx with rfl | hx
    · omega
    · exact ih _ x hx
theorem pow256 {m : Nat} (hm : m ≤ 8) : (256 : Int) ^ m ≤ 18446744073709551616 := by
  have : ∀ n : Fin 9, (256 : Int) ^ n.val ≤ 18446744073709551616 := by decide
  exact this ⟨m, by omega⟩
theorem getl_is (l : List Int) (a n : Nat) (hn : l.length < 140737488355328) (hle : a + n ≤ l.length) (hb : ∀ x ∈ l, 0 ≤ x ∧ x < 256) (m : Nat) : ∀ (v : Int) (j k : Nat), m ≤ n → j + m ≤ 8 → 0 ≤ v → v < 256 ^ j →
    span_Get.l0 (k + m + 1) l (a : Int) v ((m : Int) - 1) = some (v * 256 ^ m + leV ((l.drop a).take m), none) := by
  induction m with
  | zero =>
    intro v j k hm hj h0 h1
    rw [span_Get.l0, if_neg (by omega)]
    simp [leV]
  | succ m ih =>
    intro v j k hm hj h0 h1
    have hbyte := hb _ (rd_mem l (a + m) (by omega))
    have hi : (((m + 1 : Nat) : Int) - 1) = (m : Int) := by omega
    have hw1 : IntKind.u64.wrap (m : Int) = (m : Int) := uwrap_id (by omega) (by omega)
    have hw2 : IntKind.u64.wrap ((a : Int) + (m : Int)) = ((a + m : Nat) : Int) := by rw [uwrap_id (by omega) (by omega)]; omega
    have hw3 : IntKind.u64.wrap (rd l ((a + m : Nat) : Int)) = rd l ((a + m : Nat) : Int) := uwrap_id hbyte.1 (by omega)
    have hw4 : wrap64 ((m : Int) - 1) = (m : Int) - 1 := w64_id (by omega) (by omega)
    have hp : (256 : Int) ^ (j + 1) = 256 ^ j * 256 := Int.pow_succ _ _
    have hp2 := pow256 (m := j + 1) (by omega)
    have hvw : IntKind.u64.wrap (v * 256) = v * 256 := uwrap_id (by omega) (by omega)
    obtain ⟨u, rfl⟩ := Int.eq_ofNat_of_zero_le h0
    obtain ⟨b, hb2⟩ := Int.eq_ofNat_of_zero_le hbyte.1
    have hor : Go.bits .or .u64 ((u : Int) * 256) (rd l ((a + m : Nat) : Int)) = (u : Int) * 256 + rd l ((a + m : Nat) : Int) := by
      rw [hb2] at hbyte ⊢
      have := or_byte (u * 256) b (by omega) (by omega) (by omega)
      rw [show ((u * 256 : Nat) : Int) = (u : Int) * 256 by omega] at this
      rw [this]
      omega
    rw [hi, show k + (m + 1) + 1 = (k + m + 1) + 1 by omega, span_Get.l0, if_pos (by omega), hw1, hw2, if_pos (Int.natCast_nonneg _), if_pos (by omega), hw3, hw4, hvw, hor, ih _ (j + 1) k (by omega) (by omega) (by omega) (by omega)]
    have hlen : ((l.drop a).take m).length = m := by rw [List.length_take, List.length_drop]; omega
    have ht : (l.drop a).take (m + 1) = (l.drop a).take m ++ [rd l ((a + m : Nat) : Int)] := by
      rw [List.take_add_one, List.getElem?_drop, List.getElem?_eq_getElem (by omega), rd_at l (a + m) (by omega)]
      rfl
    rw [ht, leV_snoc, hlen, Int.pow_succ, Int.add_mul]
    congr 2
    rw [Int.mul_assoc, Int.mul_comm 256, Int.add_assoc, Int.add_comm (_ * 256 ^ m)]
theorem get_num (l : List Int) (a n : Nat) (hwd : (n : Int) = 1 ∨ (n : Int) = 2 ∨ (n : Int) = 4 ∨ (n : Int) = 8) (hn : l.length < 140737488355328) (hle : a + n ≤ l.length) (hb : ∀ x ∈ l, 0 ≤ x ∧ x < 256) : getV l (a : Int) (n : Int) = leV ((l.drop a).take n) := by
  have h := getl_is l a n hn hle hb n 0 0 (11 - n) (Nat.le_refl _) (by omega) (by decide) (by decide)
  rw [show 11 - n + n + 1 = 12 by omega, Int.zero_mul, Int.zero_add] at h
  have hw1 : IntKind.u64.wrap (n : Int) = (n : Int) := uwrap_id (by omega) (by omega)
  have hw2 : wrap64 ((n : Int) - 1) = (n : Int) - 1 := w64_id (by omega) (by omega)
  have hg : span_Get.f 12 l (a : Int) (n : Int) = some (leV ((l.drop a).take n), none) := by
    unfold span_Get.f
    rw [wide_of hwd, Option.bind_some, if_pos rfl, hw1, in_of _ _ _ hn (Int.natCast_nonneg _), Option.bind_some, if_pos (decide_eq_true ⟨by omega, by omega⟩), hw2]
    exact h
  unfold getV head_file_get.f
  rw [hg]
  rfl
/-! bytes out of numbers -/
theorem join_all (n : Nat) (hwd : (n : Int) = 1 ∨ (n : Int) = 2 ∨ (n : Int) = 4 ∨ (n : Int) = 8) (L : List Int) (hL : L.length < 100) (hv : ∀ x ∈ L, 0 ≤ x ∧ x < 18446744073709551616 ∧ x < 256 ^ n) (d : Nat) : ∀ (k i : Nat) (acc : List Int), i + d = L.length → acc.length + d * n < 1000000 →
    span_Join.l0 (k + d * (n + 2) + 1) (n : Int) acc L (L.length : Int) (i : Int) = some (acc ++ (L.drop i).flatMap (bytesLE n), none) := by
  induction d with
  | zero =>
    intro k i acc hi ha
    rw [span_Join.l0, if_neg (by omega), List.drop_eq_nil_of_le (by omega)]
    simp
  | succ d ih =>
    intro k i acc hi ha
    have hil : i < L.length := by omega
    have hx := hv _ (rd_mem L i hil)
    have hw : wrap64 (8 * (n : Int)) = ((8 * n : Nat) : Int) := by rw [w64_id (by omega) (by omega)]; omega
    have hw2 : wrap64 ((i : Int) + 1) = ((i + 1 : Nat) : Int) := by rw [w64_id (by omega) (by omega)]; omega
    have hmul : (d + 1) * n = d * n + n := by rw [Nat.add_mul, Nat.one_mul]
    have hmul2 : (d + 1) * (n + 2) = d * (n + 2) + (n + 2) := by rw [Nat.add_mul, Nat.one_mul]
    obtain ⟨x, hxe⟩ := Int.eq_ofNat_of_zero_le hx.1
    have hlen : bits_Len64.f (rd L (i : Int)) = some ((Go.Lib.bitLen x : Nat) : Int) := by
      unfold bits_Len64.f
      rw [hxe, if_pos (Int.natCast_nonneg _), if_pos (by omega)]
      simp
    have hbit := bitLen_gt x (8 * n) (by omega) (by omega)
    have h8 : x < 2 ^ (8 * n) := by
      have h1 := hx.2.2
      rw [hxe] at h1
      rw [Nat.pow_mul]
      have h2 : ((256 ^ n : Nat) : Int) = (256 : Int) ^ n := by simp
      have h3 : ((x : Nat) : Int) < ((256 ^ n : Nat) : Int) := by rw [h2]; exact h1
      have h4 : x < 256 ^ n := by omega
      exact h4
    rw [hmul2, show k + (d * (n + 2) + (n + 2)) + 1 = ((k + d * (n + 2) + 1) + n + 1) + 1 by omega, span_Join.l0, if_pos (by omega), if_pos (by omega), if_pos (by omega), hlen, Option.bind_some, hw,
      if_neg (by have : ¬ 8 * n < Go.Lib.bitLen x := fun h => absurd (hbit.1 h) (by omega)
                 omega),
      join_bytes (n : Int) L _ (i : Int) (by omega) n (k + d * (n + 2) + 1) 0 (rd L (i : Int)) acc (by omega) (by decide) (by omega), hw2, ih k (i + 1) _ (by omega) (by rw [List.length_append, bytesLE_length]; omega), drop_at L i hil, List.flatMap_cons, List.append_assoc]
theorem put_is (n : Nat) (hwd : (n : Int) = 1 ∨ (n : Int) = 2 ∨ (n : Int) = 4 ∨ (n : Int) = 8) (L b : List Int) (hL : L.length * (n + 2) < 99) (hv : ∀ x ∈ L, 0 ≤ x ∧ x < 18446744073709551616 ∧ x < 256 ^ n) (hb : b.length ≤ 90000) :
    putF (n : Int) L b = some (b ++ L.flatMap (bytesLE n)) := by
  have hLn : L.length ≤ L.length * (n + 2) := Nat.le_mul_of_pos_right _ (by omega)
  have hmul : L.length * n ≤ L.length * (n + 2) := Nat.mul_le_mul_left _ (by omega)
  have h := join_all n hwd L (by omega) hv L.length (99 - L.length * (n + 2)) 0 [] (Nat.zero_add _) (by simp; omega)
  rw [show 99 - L.length * (n + 2) + L.length * (n + 2) + 1 = 100 by omega, List.drop_zero, List.nil_append] at h
  have hj : span_Join.f 100 (n : Int) L = some (L.flatMap (bytesLE n), none) := by
    unfold span_Join.f
    rw [wide_of hwd, Option.bind_some, if_pos rfl]
    exact h
  have hlen : (L.flatMap (bytesLE n)).length = L.length * n := by
    rw [List.length_flatMap]
    have : ∀ M : List Int, (M.map fun x => (bytesLE n x).length).sum = M.length * n := by
      intro M
      induction M with
      | nil => simp
      | cons y M ih => rw [List.map_cons, List.sum_cons, ih, bytesLE_length, List.length_cons, Nat.add_mul, Nat.one_mul, Nat.add_comm]
    exact this L
  unfold putF
  rw [hj]
  dsimp only
  rw [if_pos (by omega)]
/-! what is written -/
def progB (x : S50) : List Int := bytesLE 4 x.f0 ++ (bytesLE 4 x.f1 ++ (bytesLE 8 x.f2 ++ (bytesLE 8 x.f3 ++ (bytesLE 8 x.f3 ++ (bytesLE 8 x.f4 ++ (bytesLE 8 x.f5 ++ bytesLE 8 x.f6))))))
def hdr (ty en cnt : Int) : List Int :=
  [127, 69, 76, 70, 2, 1, 1, 0, 0, 0, 0, 0, 0, 0, 0, 0, ty % 256, ty / 256 % 256, 62, 0, 1, 0, 0, 0] ++ bytesLE 8 en ++ [64, 0, 0, 0, 0, 0, 0, 0, 0, 0, 0, 0, 0, 0, 0, 0, 0, 0, 0, 0, 64, 0, 56, 0, cnt % 256, cnt / 256 % 256, 0, 0, 0, 0, 0, 0]
/-- A program header's numbers are of their kinds. -/
def Ok50 (x : S50) : Prop := (0 ≤ x.f0 ∧ x.f0 < 4294967296) ∧ (0 ≤ x.f1 ∧ x.f1 < 4294967296) ∧ (0 ≤ x.f2 ∧ x.f2 < 18446744073709551616) ∧ (0 ≤ x.f3 ∧ x.f3 < 18446744073709551616) ∧ (0 ≤ x.f4 ∧ x.f4 < 18446744073709551616) ∧ (0 ≤ x.f5 ∧ x.f5 < 18446744073709551616) ∧ (0 ≤ x.f6 ∧ x.f6 < 18446744073709551616)
theorem progB_length (x : S50) : (progB x).length = 56 := rfl
theorem hdr_length (ty en cnt : Int) : (hdr ty en cnt).length = 64 := rfl
theorem flat_length (ps : List S50) : (ps.flatMap progB).length = 56 * ps.length := by
  induction ps with
  | nil => rfl
  | cons x ps ih => rw [List.flatMap_cons, List.length_append, progB_length, ih, List.length_cons]; omega
theorem putProgs_is (ps : List S50) : ∀ b : List Int, b.length + 56 * ps.length ≤ 80000 → (∀ x ∈ ps, Ok50 x) → putProgs ps b = some (b ++ ps.flatMap progB) := by
  induction ps with
  | nil => intro b _ _; simp [putProgs]
  | cons x ps ih =>
    intro b hb hx
    obtain ⟨h0, h1, h2, h3, h4, h5, h6⟩ := hx x List.mem_cons_self
    rw [List.length_cons] at hb
    have p1 : putF 4 [x.f0, x.f1] b = some (b ++ [x.f0, x.f1].flatMap (bytesLE 4)) := put_is 4 (by omega) [x.f0, x.f1] b (by simp) (by
      intro y hy
      simp only [List.mem_cons, List.not_mem_nil, or_false] at hy
      have : (256 : Int) ^ 4 = 4294967296 := by decide
      rcases hy with rfl | rfl <;> omega) (by omega)
    have e1 : b ++ [x.f0, x.f1].flatMap (bytesLE 4) = b ++ (bytesLE 4 x.f0 ++ bytesLE 4 x.f1) := by simp
    have l1 : (b ++ (bytesLE 4 x.f0 ++ bytesLE 4 x.f1)).length = b.length + 8 := by rw [List.length_append, List.length_append, bytesLE_length, bytesLE_length]
    have p2 : putF 8 [x.f2, x.f3, x.f3, x.f4, x.f5, x.f6] (b ++ (bytesLE 4 x.f0 ++ bytesLE 4 x.f1)) = some ((b ++ (bytesLE 4 x.f0 ++ bytesLE 4 x.f1)) ++ [x.f2, x.f3, x.f3, x.f4, x.f5, x.f6].flatMap (bytesLE 8)) := put_is 8 (by omega) [x.f2, x.f3, x.f3, x.f4, x.f5, x.f6] _ (by simp) (by
      intro y hy
      simp only [List.mem_cons, List.not_mem_nil, or_false] at hy
      have : (256 : Int) ^ 8 = 18446744073709551616 := by decide
      rcases hy with rfl | rfl | rfl | rfl | rfl | rfl <;> omega) (by omega)
    have e2 : (b ++ (bytesLE 4 x.f0 ++ bytesLE 4 x.f1)) ++ [x.f2, x.f3, x.f3, x.f4, x.f5, x.f6].flatMap (bytesLE 8) = b ++ progB x := by simp [progB]
    rw [putProgs, p1, Option.bind_some, e1, p2, Option.bind_some, e2, ih _ (by rw [List.length_append, progB_length]; omega) (fun y hy => hx y (List.mem_cons_of_mem _ hy)), List.flatMap_cons, List.append_assoc]
theorem put_small (n : Nat) (hwd : (n : Int) = 1 ∨ (n : Int) = 2 ∨ (n : Int) = 4 ∨ (n : Int) = 8) (L b : List Int) (hL : L.length * (n + 2) < 99) (hv : ∀ x ∈ L, 0 ≤ x ∧ x < 256) (hb : b.length ≤ 90000) : putF (n : Int) L b = some (b ++ L.flatMap (bytesLE n)) := by
  refine put_is n hwd L b hL (fun x hx => ?_) hb
  have h := hv x hx
  have : (256 : Int) ≤ 256 ^ n := by
    rcases hwd with h | h | h | h <;> (obtain rfl : n = _ := Int.ofNat.inj h; decide)
  omega
theorem write_is (ty en : Int) (ps : List S50) (ht : ty = 2 ∨ ty = 3) (he : 0 ≤ en ∧ en < 18446744073709551616) (hps : 0 < ps.length ∧ ps.length ≤ 16) (hx : ∀ x ∈ ps, Ok50 x) :
    writeF ty en ps = some (hdr ty en ps.length ++ ps.flatMap progB, none) := by
  have ht2 : 0 ≤ ty ∧ ty < 256 := by omega
  unfold writeF
  rw [if_pos ⟨ht, hps.1, hps.2⟩, if_pos (fun x h => ⟨(hx x h).1, (hx x h).2.1⟩)]
  have b1 : putF 1 [127, 69, 76, 70, 2, 1, 1] [] = some ([] ++ [127, 69, 76, 70, 2, 1, 1].flatMap (bytesLE 1)) := put_small 1 (by omega) _ _ (by decide) (by decide) (by decide)
  have c1 : ([] ++ [127, 69, 76, 70, 2, 1, 1].flatMap (bytesLE 1) : List Int) ++ List.replicate 9 0 = [127, 69, 76, 70, 2, 1, 1, 0, 0, 0, 0, 0, 0, 0, 0, 0] := by decide
  rw [b1, Option.bind_some, c1]
  have b2 : putF 2 [ty, 62] [127, 69, 76, 70, 2, 1, 1, 0, 0, 0, 0, 0, 0, 0, 0, 0] = some (_ ++ [ty, 62].flatMap (bytesLE 2)) := put_small 2 (by omega) _ _ (by simp) (by
    intro y hy
    simp only [List.mem_cons, List.not_mem_nil, or_false] at hy
    rcases hy with rfl | rfl <;> omega) (by decide)
  rw [b2, Option.bind_some]
  have b3 : ∀ b : List Int, b.length ≤ 100 → putF 4 [1] b = some (b ++ [1, 0, 0, 0]) := fun b hb => put_small 4 (by omega) [1] b (by decide) (by decide) (by omega)
  have b4 : ∀ b : List Int, b.length ≤ 100 → putF 8 [en, 64, 0] b = some (b ++ (bytesLE 8 en ++ [64, 0, 0, 0, 0, 0, 0, 0, 0, 0, 0, 0, 0, 0, 0, 0])) := fun b hb => put_is 8 (by omega) [en, 64, 0] b (by simp) (by
    intro y hy
    simp only [List.mem_cons, List.not_mem_nil, or_false] at hy
    have : (256 : Int) ^ 8 = 18446744073709551616 := by decide
    rcases hy with rfl | rfl | rfl <;> omega) (by omega)
  have b5 : ∀ b : List Int, b.length ≤ 100 → putF 4 [0] b = some (b ++ [0, 0, 0, 0]) := fun b hb => put_small 4 (by omega) [0] b (by decide) (by decide) (by omega)
  have b6 : ∀ b : List Int, b.length ≤ 100 → putF 2 [64, 56, (ps.length : Int), 0, 0, 0] b = some (b ++ [64, 0, 56, 0, (ps.length : Int) % 256, (ps.length : Int) / 256 % 256, 0, 0, 0, 0, 0, 0]) := fun b hb => put_small 2 (by omega) [64, 56, (ps.length : Int), 0, 0, 0] b (by simp) (by
    intro y hy
    simp only [List.mem_cons, List.not_mem_nil, or_false] at hy
    rcases hy with rfl | rfl | rfl | rfl | rfl | rfl <;> omega) (by omega)
  rw [b3 _ (by simp [bytesLE]), Option.bind_some, b4 _ (by simp [bytesLE]), Option.bind_some, b5 _ (by simp [bytesLE]), Option.bind_some, b6 _ (by simp [bytesLE]), Option.bind_some, putProgs_is ps _ (by simp [bytesLE]; omega) hx, Option.bind_some]
  congr 2
theorem hdr_small (ty en cnt : Int) : ∀ x ∈ hdr ty en cnt, 0 ≤ x ∧ x < 256 := by
  intro x hx
  unfold hdr at hx
  rw [List.mem_append, List.mem_append] at hx
  rcases hx with (hx | hx) | hx
  · simp only [List.mem_cons, List.not_mem_nil, or_false] at hx
    omega
  · exact bytes_small 8 en x hx
  · simp only [List.mem_cons, List.not_mem_nil, or_false] at hx
    omega
theorem progB_small (y : S50) : ∀ x ∈ progB y, 0 ≤ x ∧ x < 256 := by
  intro x hx
  unfold progB at hx
  simp only [List.mem_append] at hx
  rcases hx with h | h | h | h | h | h | h | h <;> exact bytes_small _ _ x h
theorem flat_small (ps : List S50) : ∀ x ∈ ps.flatMap progB, 0 ≤ x ∧ x < 256 := by
  intro x hx
  obtain ⟨y, -, h⟩ := List.mem_flatMap.1 hx
  exact progB_small y x h
theorem drop_flat (rest : List Int) (ps : List S50) : ∀ (i : Nat) (h : i < ps.length), ∃ T, (ps.flatMap progB ++ rest).drop (56 * i) = progB ps[i] ++ T := by
  induction ps with
  | nil => intro i h; simp at h
  | cons x ps ih =>
    intro i h
    cases i with
    | zero => exact ⟨ps.flatMap progB ++ rest, by simp⟩
    | succ i =>
      obtain ⟨T, hT⟩ := ih i (by simpa using h)
      refine ⟨T, ?_⟩
      rw [List.flatMap_cons, List.append_assoc, show 56 * (i + 1) = (progB x).length + 56 * i by rw [progB_length]; omega, List.drop_append, List.getElem_cons_succ, List.drop_eq_nil_of_le (by omega), List.nil_append, Nat.add_sub_cancel_left]
      exact hT
/-! it is read again -/
section
variable (ty en : Int) (ps : List S50) (rest : List Int) (ht : ty = 2 ∨ ty = 3) (he : 0 ≤ en ∧ en < 18446744073709551616) (hps : 0 < ps.length ∧ ps.length ≤ 16) (hx : ∀ x ∈ ps, Ok50 x) (hb : ∀ x ∈ rest, 0 ≤ x ∧ x < 256) (hl : (hdr ty en ps.length ++ (ps.flatMap progB ++ rest)).length < 140737488355328)
include hb in
theorem all_small : ∀ x ∈ hdr ty en ps.length ++ (ps.flatMap progB ++ rest), 0 ≤ x ∧ x < 256 := by
  intro x h
  rcases List.mem_append.1 h with h | h
  · exact hdr_small _ _ _ x h
  · rcases List.mem_append.1 h with h | h
    · exact flat_small ps x h
    · exact hb x h
include hb hl in
theorem get_hdr (a n : Nat) (hwd : (n : Int) = 1 ∨ (n : Int) = 2 ∨ (n : Int) = 4 ∨ (n : Int) = 8) (hle : a + n ≤ 64) : getV (hdr ty en ps.length ++ (ps.flatMap progB ++ rest)) (a : Int) (n : Int) = leV (((hdr ty en ps.length).drop a).take n) := by
  rw [get_num _ a n hwd hl (by rw [List.length_append, hdr_length]; omega) (all_small ty en ps rest hb)]
  congr 1
  rw [List.drop_append_of_le_length (by rw [hdr_length]; omega), List.take_append_of_le_length (by rw [List.length_drop, hdr_length]; omega)]
include hb hl in
theorem get_prog (i : Nat) (hi : i < ps.length) (j n : Nat) (hwd : (n : Int) = 1 ∨ (n : Int) = 2 ∨ (n : Int) = 4 ∨ (n : Int) = 8) (hle : j + n ≤ 56) : getV (hdr ty en ps.length ++ (ps.flatMap progB ++ rest)) ((64 + 56 * i + j : Nat) : Int) (n : Int) = leV (((progB ps[i]).drop j).take n) := by
  have hlen := flat_length ps
  rw [get_num _ _ n hwd hl (by rw [List.length_append, List.length_append, hdr_length]; omega) (all_small ty en ps rest hb)]
  congr 1
  obtain ⟨T, hT⟩ := drop_flat rest ps i hi
  rw [show 64 + 56 * i + j = (hdr ty en ps.length).length + (56 * i + j) by rw [hdr_length]; omega, List.drop_append, List.drop_eq_nil_of_le (by omega), List.nil_append, Nat.add_sub_cancel_left, ← List.drop_drop, hT, List.drop_append_of_le_length (by rw [progB_length]; omega), List.take_append_of_le_length (by rw [List.length_drop, progB_length]; omega)]
include ht hps hb hl in
theorem begin_is : beginV (hdr ty en ps.length ++ (ps.flatMap progB ++ rest)) = if 1048576 < (hdr ty en ps.length ++ (ps.flatMap progB ++ rest)).length then (0, some 2) else ((ps.length : Int), none) := by
  have g := get_hdr ty en ps rest hb hl
  have hlen := flat_length ps
  have e0 : getV (hdr ty en ps.length ++ (ps.flatMap progB ++ rest)) 0 1 = 127 := g 0 1 (by omega) (by omega)
  have e1 : getV (hdr ty en ps.length ++ (ps.flatMap progB ++ rest)) 1 1 = 69 := g 1 1 (by omega) (by omega)
  have e2 : getV (hdr ty en ps.length ++ (ps.flatMap progB ++ rest)) 2 1 = 76 := g 2 1 (by omega) (by omega)
  have e3 : getV (hdr ty en ps.length ++ (ps.flatMap progB ++ rest)) 3 1 = 70 := g 3 1 (by omega) (by omega)
  have e4 : getV (hdr ty en ps.length ++ (ps.flatMap progB ++ rest)) 4 1 = 2 := g 4 1 (by omega) (by omega)
  have e5 : getV (hdr ty en ps.length ++ (ps.flatMap progB ++ rest)) 5 1 = 1 := g 5 1 (by omega) (by omega)
  have e6 : getV (hdr ty en ps.length ++ (ps.flatMap progB ++ rest)) 6 1 = 1 := g 6 1 (by omega) (by omega)
  have e7 : getV (hdr ty en ps.length ++ (ps.flatMap progB ++ rest)) 7 1 = 0 := g 7 1 (by omega) (by omega)
  have e16 : getV (hdr ty en ps.length ++ (ps.flatMap progB ++ rest)) 16 2 = ty := by
    have : getV (hdr ty en ps.length ++ (ps.flatMap progB ++ rest)) 16 2 = ty % 256 + 256 * (ty / 256 % 256 + 256 * 0) := g 16 2 (by omega) (by omega)
    omega
  have e18 : getV (hdr ty en ps.length ++ (ps.flatMap progB ++ rest)) 18 2 = 62 := g 18 2 (by omega) (by omega)
  have e20 : getV (hdr ty en ps.length ++ (ps.flatMap progB ++ rest)) 20 4 = 1 := g 20 4 (by omega) (by omega)
  have e32 : getV (hdr ty en ps.length ++ (ps.flatMap progB ++ rest)) 32 8 = 64 := g 32 8 (by omega) (by omega)
  have e52 : getV (hdr ty en ps.length ++ (ps.flatMap progB ++ rest)) 52 2 = 64 := g 52 2 (by omega) (by omega)
  have e54 : getV (hdr ty en ps.length ++ (ps.flatMap progB ++ rest)) 54 2 = 56 := g 54 2 (by omega) (by omega)
  have e56 : getV (hdr ty en ps.length ++ (ps.flatMap progB ++ rest)) 56 2 = (ps.length : Int) := by
    have : getV (hdr ty en ps.length ++ (ps.flatMap progB ++ rest)) 56 2 = (ps.length : Int) % 256 + 256 * ((ps.length : Int) / 256 % 256 + 256 * 0) := g 56 2 (by omega) (by omega)
    omega
  have hbad : badF (hdr ty en ps.length ++ (ps.flatMap progB ++ rest)) tabN = none := by
    simp only [tabN, badF, e0, e1, e2, e3, e4, e5, e6, e7, e16, e18, e20, e52, e54, ht, true_or, or_self, if_true, reduceCtorEq]
  have hlen2 : (hdr ty en ps.length ++ (ps.flatMap progB ++ rest)).length = 64 + (56 * ps.length + rest.length) := by rw [List.length_append, List.length_append, hdr_length, hlen]
  unfold beginV
  rw [hbad, e56, e32]
  dsimp only
  by_cases h : 1048576 < (hdr ty en ps.length ++ (ps.flatMap progB ++ rest)).length
  · rw [if_pos h, if_pos h]
  · rw [if_neg h, if_neg h, if_neg (by omega), if_neg (by omega), if_neg (by omega), uwrap_id (n := 56 * (ps.length : Int)) (by omega) (by omega), if_pos]
    unfold liesB
    rw [hlen2, decide_eq_true (by omega), decide_eq_true (by omega)]
    rfl
include hx hps hb hl in
theorem progX_is (i : Nat) (hi : i < ps.length) : progX (hdr ty en ps.length ++ (ps.flatMap progB ++ rest)) (IntKind.u64.wrap (64 + IntKind.u64.wrap (56 * (i : Int)))) = ps[i] := by
  have g := get_prog ty en ps rest hb hl i hi
  obtain ⟨h0, h1, h2, h3, h4, h5, h6⟩ := hx ps[i] (List.getElem_mem hi)
  have hp : IntKind.u64.wrap (64 + IntKind.u64.wrap (56 * (i : Int))) = ((64 + 56 * i : Nat) : Int) := by
    rw [uwrap_id (n := 56 * (i : Int)) (by omega) (by omega), uwrap_id (by omega) (by omega)]
    omega
  have hw : ∀ j : Nat, j ≤ 48 → IntKind.u64.wrap (((64 + 56 * i : Nat) : Int) + (j : Int)) = ((64 + 56 * i + j : Nat) : Int) := fun j hj => by rw [uwrap_id (by omega) (by omega)]; omega
  have p4 : (256 : Int) ^ 4 = 4294967296 := by decide
  have p8 : (256 : Int) ^ 8 = 18446744073709551616 := by decide
  have a0 := g 0 4 (by omega) (by omega)
  have a1 := g 4 4 (by omega) (by omega)
  have a2 := g 8 8 (by omega) (by omega)
  have a3 := g 16 8 (by omega) (by omega)
  have a4 := g 32 8 (by omega) (by omega)
  have a5 := g 40 8 (by omega) (by omega)
  have a6 := g 48 8 (by omega) (by omega)
  have v0 : leV (((progB ps[i]).drop 0).take 4) = ps[i].f0 := leV_bytes 4 _ h0.1 (by omega)
  have v1 : leV (((progB ps[i]).drop 4).take 4) = ps[i].f1 := leV_bytes 4 _ h1.1 (by omega)
  have v2 : leV (((progB ps[i]).drop 8).take 8) = ps[i].f2 := leV_bytes 8 _ h2.1 (by omega)
  have v3 : leV (((progB ps[i]).drop 16).take 8) = ps[i].f3 := leV_bytes 8 _ h3.1 (by omega)
  have v4 : leV (((progB ps[i]).drop 32).take 8) = ps[i].f4 := leV_bytes 8 _ h4.1 (by omega)
  have v5 : leV (((progB ps[i]).drop 40).take 8) = ps[i].f5 := leV_bytes 8 _ h5.1 (by omega)
  have v6 : leV (((progB ps[i]).drop 48).take 8) = ps[i].f6 := leV_bytes 8 _ h6.1 (by omega)
  rw [v0] at a0
  rw [v1] at a1
  rw [v2] at a2
  rw [v3] at a3
  rw [v4] at a4
  rw [v5] at a5
  rw [v6] at a6
  have w4 := hw 4 (by omega)
  have w8 := hw 8 (by omega)
  have w16 := hw 16 (by omega)
  have w32 := hw 32 (by omega)
  have w40 := hw 40 (by omega)
  have w48 := hw 48 (by omega)
  unfold progX
  rw [hp, show ((64 + 56 * i : Nat) : Int) + 4 = ((64 + 56 * i : Nat) : Int) + ((4 : Nat) : Int) from rfl, w4, show ((64 + 56 * i : Nat) : Int) + 8 = ((64 + 56 * i : Nat) : Int) + ((8 : Nat) : Int) from rfl, w8, show ((64 + 56 * i : Nat) : Int) + 16 = ((64 + 56 * i : Nat) : Int) + ((16 : Nat) : Int) from rfl, w16, show ((64 + 56 * i : Nat) : Int) + 32 = ((64 + 56 * i : Nat) : Int) + ((32 : Nat) : Int) from rfl, w32,
    show ((64 + 56 * i : Nat) : Int) + 40 = ((64 + 56 * i : Nat) : Int) + ((40 : Nat) : Int) from rfl, w40, show ((64 + 56 * i : Nat) : Int) + 48 = ((64 + 56 * i : Nat) : Int) + ((48 : Nat) : Int) from rfl, w48]
  have b0 : getV (hdr ty en ps.length ++ (ps.flatMap progB ++ rest)) ((64 + 56 * i : Nat) : Int) 4 = ps[i].f0 := a0
  have b1 : getV (hdr ty en ps.length ++ (ps.flatMap progB ++ rest)) ((64 + 56 * i + 4 : Nat) : Int) 4 = ps[i].f1 := a1
  have b2 : getV (hdr ty en ps.length ++ (ps.flatMap progB ++ rest)) ((64 + 56 * i + 8 : Nat) : Int) 8 = ps[i].f2 := a2
  have b3 : getV (hdr ty en ps.length ++ (ps.flatMap progB ++ rest)) ((64 + 56 * i + 16 : Nat) : Int) 8 = ps[i].f3 := a3
  have b4 : getV (hdr ty en ps.length ++ (ps.flatMap progB ++ rest)) ((64 + 56 * i + 32 : Nat) : Int) 8 = ps[i].f4 := a4
  have b5 : getV (hdr ty en ps.length ++ (ps.flatMap progB ++ rest)) ((64 + 56 * i + 40 : Nat) : Int) 8 = ps[i].f5 := a5
  have b6 : getV (hdr ty en ps.length ++ (ps.flatMap progB ++ rest)) ((64 + 56 * i + 48 : Nat) : Int) 8 = ps[i].f6 := a6
  rw [b0, b1, b2, b3, b4, b5, b6, IntKind.wrap_u32, IntKind.wrap_u32, Int.emod_eq_of_lt h0.1 h0.2, Int.emod_eq_of_lt h1.1 h1.2]
end
/-! what was read passed its tests -/
theorem check_none (p : Int) (L : List S124) : checkV p L = none ↔ ∀ t ∈ L, t.f0 = false := by
  induction L with
  | nil => simp [checkV]
  | cons t L ih =>
    rw [checkV, List.forall_mem_cons]
    cases h : t.f0
    · rw [if_neg (by decide)]
      simp [ih]
    · rw [if_pos rfl]
      simp
def okX (l : List Int) (acc : List S50) (X : S50) (nd : Int) : Prop := ∀ t ∈ progT l X acc nd, t.f0 = false
/-- Each header passed, behind those ahead of it. -/
def OKs (l : List Int) : List S50 → List S50 → Prop
  | _, [] => True
  | acc, x :: xs => okX l acc x (endF 0 acc) ∧ OKs l (acc ++ [x]) xs
theorem progV_none {l : List Int} {p : Int} {acc qs : List S50} {nd nd2 : Int} (h : progV l p acc nd = (none, qs, nd2)) : qs = acc ++ [progX l p] ∧ okX l acc (progX l p) nd ∧ nd2 = if (progX l p).f0 == 1 then endV (progX l p) else nd := by
  unfold progV at h
  split at h
  · cases h
  · rename_i hc
    cases h
    exact ⟨rfl, (check_none _ _).1 hc, rfl⟩
theorem goV_none (l : List Int) (fr : Int) (d : Nat) : ∀ (i : Nat) (acc qs : List S50), goV l fr d i acc (endF 0 acc) = (none, qs) →
    ∃ xs : List S50, qs = acc ++ xs ∧ xs.length = d ∧ OKs l acc xs ∧ ∀ (j : Nat) (h : j < xs.length), xs[j] = progX l (IntKind.u64.wrap (fr + IntKind.u64.wrap (56 * ((i + j : Nat) : Int)))) := by
  induction d with
  | zero =>
    intro i acc qs h
    rw [goV] at h
    cases h
    exact ⟨[], by simp, rfl, trivial, fun j h => by simp at h⟩
  | succ d ih =>
    intro i acc qs h
    rw [goV] at h
    split at h
    · cases h
    · rename_i ps' nd' hp
      obtain ⟨rfl, h2, rfl⟩ := progV_none hp
      rw [← endF_snoc] at h
      obtain ⟨xs, h3, h4, h5, h6⟩ := ih (i + 1) _ qs h
      refine ⟨progX l (IntKind.u64.wrap (fr + IntKind.u64.wrap (56 * (i : Int)))) :: xs, by rw [h3]; simp, by rw [List.length_cons, h4], ⟨h2, h5⟩, fun j hj => ?_⟩
      cases j with
      | zero => rfl
      | succ j =>
        rw [List.getElem_cons_succ, h6 j (by simpa using hj), show i + 1 + j = i + (j + 1) by omega]
theorem goV_some (l : List Int) (fr : Int) (xs : List S50) : ∀ (i : Nat) (acc : List S50), OKs l acc xs → (∀ (j : Nat) (h : j < xs.length), xs[j] = progX l (IntKind.u64.wrap (fr + IntKind.u64.wrap (56 * ((i + j : Nat) : Int))))) →
    goV l fr xs.length i acc (endF 0 acc) = (none, acc ++ xs) := by
  induction xs with
  | nil => intro i acc _ _; rw [List.length_nil, goV, List.append_nil]
  | cons x xs ih =>
    intro i acc h1 h2
    have hx : progX l (IntKind.u64.wrap (fr + IntKind.u64.wrap (56 * (i : Int)))) = x := (h2 0 (by simp)).symm
    have hp : progV l (IntKind.u64.wrap (fr + IntKind.u64.wrap (56 * (i : Int)))) acc (endF 0 acc) = (none, acc ++ [x], endF 0 (acc ++ [x])) := by
      unfold progV
      rw [hx, (check_none _ _).2 h1.1, endF_snoc]
    rw [List.length_cons, goV, hp]
    dsimp only
    rw [ih (i + 1) (acc ++ [x]) h1.2 (fun j hj => by
      have := h2 (j + 1) (by simpa using hj)
      rw [List.getElem_cons_succ] at this
      rw [this, show i + 1 + j = i + (j + 1) by omega]), List.append_assoc]
    rfl
theorem okX_more {l l' : List Int} (hle : l.length ≤ l'.length) {acc : List S50} {X : S50} {nd : Int} (h : okX l acc X nd) : okX l' acc X nd := by
  unfold okX progT at h ⊢
  simp only [List.forall_mem_cons, List.not_mem_nil, false_implies, implies_true, and_true] at h ⊢
  obtain ⟨h0, h1, h2⟩ := h
  refine ⟨h0, ?_, h2⟩
  have : liesB l.length X.f2 X.f4 = true → liesB l'.length X.f2 X.f4 = true := by
    unfold liesB
    simp only [Bool.and_eq_true, decide_eq_true_eq]
    omega
  cases ha : liesB l.length X.f2 X.f4
  · rw [ha] at h1
    simp at h1
    simp [h1]
  · rw [this ha]
    rfl
theorem OKs_more {l l' : List Int} (hle : l.length ≤ l'.length) (xs : List S50) : ∀ acc : List S50, OKs l acc xs → OKs l' acc xs := by
  induction xs with
  | nil => intro _ _; trivial
  | cons x xs ih => intro acc h; exact ⟨okX_more hle h.1, ih _ h.2⟩
/-- What the tests tell of a header that is loaded. -/
theorem ok_load {l : List Int} {acc : List S50} {X : S50} {nd : Int} (h : okX l acc X nd) (h1 : X.f0 = 1) :
    (X.f2 ≤ l.length ∧ X.f4 ≤ l.length - X.f2) ∧ (X.f3 ≤ 140737488355328 ∧ X.f5 ≤ 140737488355328 - X.f3) ∧ X.f4 ≤ X.f5 ∧ nd ≤ Go.bits .andNot .u64 X.f3 4095 := by
  unfold okX progT at h
  simp only [List.forall_mem_cons, List.not_mem_nil, false_implies, implies_true, and_true] at h
  obtain ⟨-, t1, t2, t3, -, -, -, t7⟩ := h
  have i3 : isV X.f0 is3L = true := by rw [h1]; decide
  have i4 : isV X.f0 is4L = true := by rw [h1]; decide
  rw [i3] at t1
  rw [i4] at t2
  have e1 : (X.f0 == 1) = true := beq_iff_eq.2 h1
  rw [e1] at t3 t7
  simp only [Bool.and_true, Bool.not_eq_false', Bool.true_or, Bool.true_and, decide_eq_false_iff_not, Bool.or_eq_false_iff] at t1 t2 t3 t7
  unfold liesB at t1 t2
  simp only [Bool.and_eq_true, decide_eq_true_eq] at t1 t2
  exact ⟨t1, t2, by omega, by omega⟩
/-- The law's loop over what was read. -/
theorem loop_is (b : List Int) (hb : b.length < 140737488355328) (ty en : Int) (ps : List S50) (hps : ps.length ≤ 16) (hx : ∀ x ∈ ps, Ok50 x) (d : Nat) : ∀ (k i : Nat) (last : Int) (acc : List S50), i + d = ps.length → 0 ≤ last → 4096 * last = endF 0 acc → OKs b acc (ps.drop i) →
    ∃ last', shacklelaw04_HeadBack.l0 (k + d + 1) b true last (i : Int) ty en ps = shacklelaw04_HeadBack.l0 (k + 1) b true last' (ps.length : Int) ty en ps := by
  induction d with
  | zero =>
    intro k i last acc hi h0 hl hok
    obtain rfl : i = ps.length := by omega
    exact ⟨last, rfl⟩
  | succ d ih =>
    intro k i last acc hi h0 hl hok
    have hil : i < ps.length := by omega
    have e : rd_T50 ps (i : Int) = ps[i] := by simp [rd_T50, List.getD_eq_getElem?_getD, List.getElem?_eq_getElem hil]
    have hw : wrap64 ((i : Int) + 1) = ((i + 1 : Nat) : Int) := by rw [w64_id (by omega) (by omega)]; omega
    rw [List.drop_eq_getElem_cons hil] at hok
    obtain ⟨hok1, hok2⟩ := hok
    obtain ⟨-, -, h2, h3, h4, h5, -⟩ := hx ps[i] (List.getElem_mem hil)
    rw [show k + (d + 1) + 1 = (k + d + 1) + 1 by omega, shacklelaw04_HeadBack.l0, if_pos (by omega), if_pos (by omega), e]
    by_cases h1 : ps[i].f0 = 1
    · obtain ⟨q1, q2, q3, q4⟩ := ok_load hok1 h1
      rw [andNot4095 _ h3.1 h3.2, ← hl] at q4
      have w1 : IntKind.u64.wrap (Int.tdiv ps[i].f3 4096) = ps[i].f3 / 4096 := by rw [Int.tdiv_eq_ediv_of_nonneg h3.1, uwrap_id (by omega) (by omega)]
      have w2 : IntKind.u64.wrap (ps[i].f2 + ps[i].f4) = ps[i].f2 + ps[i].f4 := uwrap_id (by omega) (by omega)
      have w3 : IntKind.u64.wrap (b.length : Int) = (b.length : Int) := uwrap_id (by omega) (by omega)
      have w4 : IntKind.u64.wrap (ps[i].f3 + ps[i].f5) = ps[i].f3 + ps[i].f5 := uwrap_id (by omega) (by omega)
      have w5 : IntKind.u64.wrap (ps[i].f3 + ps[i].f5 + 4095) = ps[i].f3 + ps[i].f5 + 4095 := uwrap_id (by omega) (by omega)
      have w6 : IntKind.u64.wrap (Int.tdiv (ps[i].f3 + ps[i].f5 + 4095) 4096) = (ps[i].f3 + ps[i].f5 + 4095) / 4096 := by rw [Int.tdiv_eq_ediv_of_nonneg (by omega), uwrap_id (by omega) (by omega)]
      have hend : endV ps[i] = 4096 * ((ps[i].f3 + ps[i].f5 + 4095) / 4096) := by
        rw [← end_is, w4, w5, w6, uwrap_id (by omega) (by omega), Int.mul_comm]
      rw [if_pos h1, w1, if_neg (by omega), w2, w3, if_neg (by omega), if_neg (by omega), w4, if_neg (by omega), w5, w6, hw]
      exact ih k (i + 1) _ (acc ++ [ps[i]]) (by omega) (by omega) (by rw [endF_snoc, if_pos (beq_iff_eq.2 h1), hend]) hok2
    · rw [if_neg h1, hw]
      exact ih k (i + 1) last (acc ++ [ps[i]]) (by omega) h0 (by rw [endF_snoc, if_neg (fun h => h1 (beq_iff_eq.1 h)), hl]) hok2
theorem bnd (l : List Int) (hn : l.length < 140737488355328) (hb : ∀ x ∈ l, 0 ≤ x ∧ x < 256) (a n : Int) (hw : n = 1 ∨ n = 2 ∨ n = 4 ∨ n = 8) : 0 ≤ getV l (IntKind.u64.wrap a) n ∧ getV l (IntKind.u64.wrap a) n < 18446744073709551616 := by
  refine ⟨getV_nonneg _ _ _, ?_⟩
  obtain ⟨h0, h1⟩ := hd_wrap_in a
  generalize IntKind.u64.wrap a = p at *
  obtain ⟨p, rfl⟩ := Int.eq_ofNat_of_zero_le h0
  obtain ⟨m, rfl⟩ : ∃ m : Nat, n = (m : Int) := ⟨n.toNat, by omega⟩
  by_cases h : p + m ≤ l.length
  · rw [get_num l p m hw hn h hb]
    have hs : ∀ x ∈ (l.drop p).take m, 0 ≤ x ∧ x < 256 := fun x hx => hb x (List.mem_of_mem_drop (List.mem_of_mem_take hx))
    have := (leV_bound _ hs).2
    have hlen : ((l.drop p).take m).length = m := by rw [List.length_take, List.length_drop]; omega
    rw [hlen] at this
    have := pow256 (m := m) (by omega)
    omega
  · have hin := in_of l.length (p : Int) (m : Int) hn (Int.natCast_nonneg _)
    have hg : getV l (p : Int) (m : Int) = 0 := by
      unfold getV head_file_get.f span_Get.f
      rw [wide_of hw, Option.bind_some, if_pos rfl, uwrap_id (n := (m : Int)) (by omega) (by omega), hin, Option.bind_some, decide_eq_false (fun h2 => h (by have := h2.1; have := h2.2; omega)), if_neg (by decide), if_pos (Int.natCast_nonneg _), if_pos h1]
      rfl
    rw [hg]
    decide
theorem progX_ok (l : List Int) (hn : l.length < 140737488355328) (hb : ∀ x ∈ l, 0 ≤ x ∧ x < 256) (a : Int) : Ok50 (progX l (IntKind.u64.wrap a)) := by
  have g8 := fun a => bnd l hn hb a 8 (by omega)
  refine ⟨?_, ?_, g8 _, g8 _, g8 _, g8 _, g8 _⟩
  · show 0 ≤ IntKind.u32.wrap _ ∧ IntKind.u32.wrap _ < _
    rw [IntKind.wrap_u32]
    omega
  · show 0 ≤ IntKind.u32.wrap _ ∧ IntKind.u32.wrap _ < _
    rw [IntKind.wrap_u32]
    omega
theorem badF_none (l : List Int) (L : List (Int × Int × Int × Int)) (h : badF l L = none) : ∀ x ∈ L, getV l x.1 x.2.1 = x.2.2.1 ∨ getV l x.1 x.2.1 = x.2.2.2 := by
  induction L with
  | nil => simp
  | cons x L ih =>
    rw [badF] at h
    rw [List.forall_mem_cons]
    split at h
    · rename_i hc
      exact ⟨hc, ih h⟩
    · cases h
/-- What was read without an error. -/
theorem read_none (b : List Int) (hn : b.length < 140737488355328) (hb : ∀ x ∈ b, 0 ≤ x ∧ x < 256) {ty en : Int} {ps : List S50} (h : readV b = (ty, en, ps, none)) :
    b.length ≤ 1048576 ∧ (ty = 2 ∨ ty = 3) ∧ (0 ≤ en ∧ en < 18446744073709551616) ∧ (0 < ps.length ∧ ps.length ≤ 16) ∧ OKs b [] ps ∧ (ps.any fun x => x.f0 == 1) = true ∧ ∀ x ∈ ps, Ok50 x := by
  unfold readV at h
  split at h
  · cases h
  · rename_i n hbeg
    unfold beginV at hbeg
    split at hbeg
    · cases hbeg
    · rename_i hsz
      split at hbeg
      · cases hbeg
      · split at hbeg
        · cases hbeg
        · rename_i hbad
          split at hbeg
          · cases hbeg
          · rename_i hz
            split at hbeg
            · cases hbeg
            · rename_i h16
              split at hbeg
              · obtain ⟨hN, -⟩ := Prod.mk.inj hbeg
                have hn0 := getV_nonneg b 56 2
                split at h
                · cases h
                · rename_i qs hgo
                  split at h
                  · rename_i hany
                    simp only [Prod.mk.injEq, and_true] at h
                    obtain ⟨h1, h2, h3⟩ := h
                    subst h3
                    obtain ⟨xs, e1, e2, e3, e4⟩ := goV_none b (getV b 32 8) n.toNat 0 [] qs hgo
                    obtain rfl : qs = xs := by simpa using e1
                    refine ⟨by omega, ?_, ?_, ?_, e3, hany, ?_⟩
                    · have ht : getV b 16 2 = 2 ∨ getV b 16 2 = 3 := badF_none b tabN hbad (16, 2, 2, 3) (by decide)
                      have : wrap64 (getV b 16 2) = getV b 16 2 := w64_id (by omega) (by omega)
                      omega
                    · have := bnd b hn hb 24 8 (by omega)
                      rw [show IntKind.u64.wrap 24 = 24 from uwrap_id (by omega) (by omega)] at this
                      omega
                    · omega
                    · intro x hx
                      obtain ⟨j, hj, rfl⟩ := List.getElem_of_mem hx
                      rw [e4 j hj]
                      exact progX_ok b hn hb _
                  · cases h
              · cases hbeg
theorem write_read (ty en : Int) (ps : List S50) (rest : List Int) (ht : ty = 2 ∨ ty = 3) (he : 0 ≤ en ∧ en < 18446744073709551616) (hps : 0 < ps.length ∧ ps.length ≤ 16) (hx : ∀ x ∈ ps, Ok50 x) (hb : ∀ x ∈ rest, 0 ≤ x ∧ x < 256) (hl : (hdr ty en ps.length ++ (ps.flatMap progB ++ rest)).length < 140737488355328) :
    (readV (hdr ty en ps.length ++ (ps.flatMap progB ++ rest))).2.2.2 = none → ∃ qs, goV (hdr ty en ps.length ++ (ps.flatMap progB ++ rest)) 64 ps.length 0 [] 0 = (none, qs) ∧ readV (hdr ty en ps.length ++ (ps.flatMap progB ++ rest)) = (ty, en, ps, none) := by
  have hbeg := begin_is ty en ps rest ht hps hb hl
  have hX := progX_is ty en ps rest hps hx hb hl
  have g := get_hdr ty en ps rest hb hl
  have e16 : getV (hdr ty en ps.length ++ (ps.flatMap progB ++ rest)) 16 2 = ty := by
    have : getV (hdr ty en ps.length ++ (ps.flatMap progB ++ rest)) 16 2 = ty % 256 + 256 * (ty / 256 % 256 + 256 * 0) := g 16 2 (by omega) (by omega)
    omega
  have e24 : getV (hdr ty en ps.length ++ (ps.flatMap progB ++ rest)) 24 8 = en := by
    have p8 : (256 : Int) ^ 8 = 18446744073709551616 := by decide
    have h1 : getV (hdr ty en ps.length ++ (ps.flatMap progB ++ rest)) 24 8 = leV (((hdr ty en ps.length).drop 24).take 8) := g 24 8 (by omega) (by omega)
    have h2 : leV (((hdr ty en ps.length).drop 24).take 8) = en := leV_bytes 8 en he.1 (by omega)
    rw [h1, h2]
  have e32 : getV (hdr ty en ps.length ++ (ps.flatMap progB ++ rest)) 32 8 = 64 := g 32 8 (by omega) (by omega)
  intro hnone
  unfold readV at hnone ⊢
  rw [hbeg] at hnone ⊢
  by_cases hsz : 1048576 < (hdr ty en ps.length ++ (ps.flatMap progB ++ rest)).length
  · rw [if_pos hsz] at hnone
    cases hnone
  · rw [if_neg hsz] at hnone ⊢
    rw [e16, e24, e32] at hnone ⊢
    dsimp only [Int.toNat_natCast] at hnone ⊢
    cases hgo : goV (hdr ty en ps.length ++ (ps.flatMap progB ++ rest)) 64 ps.length 0 [] 0 with
    | mk e qs =>
      rw [hgo] at hnone
      cases e with
      | some q => cases hnone
      | none =>
        refine ⟨qs, rfl, ?_⟩
        dsimp only at hnone ⊢
        have hw : wrap64 ty = ty := w64_id (by omega) (by omega)
        obtain ⟨xs, e1, e2, e3, e4⟩ := goV_none _ 64 ps.length 0 [] qs hgo
        obtain rfl : qs = xs := by simpa using e1
        have hq : qs = ps := by
          refine List.ext_getElem e2 (fun j h1 h2 => ?_)
          rw [e4 j h1, Nat.zero_add]
          exact hX j h2
        subst hq
        split at hnone
        · rename_i hany
          rw [if_pos hany, hw]
        · cases hnone
theorem write_back (ty en : Int) (ps : List S50) (b : List Int) (ht : ty = 2 ∨ ty = 3) (he : 0 ≤ en ∧ en < 18446744073709551616) (hps : 0 < ps.length ∧ ps.length ≤ 16) (hx : ∀ x ∈ ps, Ok50 x) (hb : ∀ x ∈ b, 0 ≤ x ∧ x < 256) (hok : OKs b [] ps) (hany : (ps.any fun x => x.f0 == 1) = true) (hl : (hdr ty en ps.length ++ (ps.flatMap progB ++ b)).length < 140737488355328) :
    readV (hdr ty en ps.length ++ (ps.flatMap progB ++ b)) = if 1048576 < (hdr ty en ps.length ++ (ps.flatMap progB ++ b)).length then (0, 0, [], some 2) else (ty, en, ps, none) := by
  by_cases hsz : 1048576 < (hdr ty en ps.length ++ (ps.flatMap progB ++ b)).length
  · rw [if_pos hsz]
    unfold readV
    rw [begin_is ty en ps b ht hps hb hl, if_pos hsz]
  · rw [if_neg hsz]
    have hbeg := begin_is ty en ps b ht hps hb hl
    have hX := progX_is ty en ps b hps hx hb hl
    have g := get_hdr ty en ps b hb hl
    have e32 : getV (hdr ty en ps.length ++ (ps.flatMap progB ++ b)) 32 8 = 64 := g 32 8 (by omega) (by omega)
    have hgo := goV_some (hdr ty en ps.length ++ (ps.flatMap progB ++ b)) 64 ps 0 [] (OKs_more (by rw [List.length_append, List.length_append]; omega) ps [] hok) (fun j hj => by rw [Nat.zero_add]; exact (hX j hj).symm)
    rw [List.nil_append, show endF 0 [] = 0 from rfl] at hgo
    have hnone : (readV (hdr ty en ps.length ++ (ps.flatMap progB ++ b))).2.2.2 = none := by
      unfold readV
      rw [hbeg, if_neg hsz, e32]
      dsimp only [Int.toNat_natCast]
      rw [hgo]
      dsimp only
      rw [if_pos hany]
    obtain ⟨qs, -, h⟩ := write_read ty en ps b ht he hps hx hb hl hnone
    exact h
theorem read_err (b : List Int) {q : Int} (h : (readV b).2.2.2 = some q) : (readV b).2.2.1 = [] := by
  unfold readV at h ⊢
  split at h
  · rfl
  · split at h
    · rfl
    · split at h
      · cases h
      · rename_i hc
        rw [if_neg hc]
/-- The second half of the law. -/
theorem half (b : List Int) (hn : b.length ≤ 140737488351232) (hb : ∀ x ∈ b, 0 ≤ x ∧ x < 256) (k : Nat) (hk : 100 ≤ k) :
    ((head_Read.f b).bind fun bt => (if bt.2.2.2.isNone = true then (shacklelaw04_HeadBack.l0 k b true 0 0 bt.1 bt.2.1 bt.2.2.1) else (if true = true then (some ((bt.2.2.1.length : Int) == 0)) else (some false)))) = some true := by
  have hn2 : b.length < 140737488355328 := by omega
  rw [show head_Read.f b = some (readV b) from if_pos hn2, Option.bind_some]
  cases hr : (readV b).2.2.2 with
  | some q =>
    rw [if_neg (by simp), if_pos rfl, read_err b hr]
    rfl
  | none =>
    rw [if_pos (show (none : Option Int).isNone = true from rfl)]
    obtain ⟨ty, en, ps, e, he⟩ : ∃ ty en ps e, readV b = (ty, en, ps, e) := ⟨_, _, _, _, rfl⟩
    rw [he] at hr
    obtain rfl : e = none := hr
    obtain ⟨h1, h2, h3, h4, h5, h6, h7⟩ := read_none b hn2 hb he
    rw [he]
    dsimp only
    obtain ⟨m, rfl⟩ : ∃ m, k = m + ps.length + 1 := ⟨k - ps.length - 1, by omega⟩
    obtain ⟨last, hl⟩ := loop_is b hn2 ty en ps h4.2 h7 ps.length m 0 0 [] (Nat.zero_add _) (Int.le_refl _) rfl (by rw [List.drop_zero]; exact h5)
    rw [show ((0 : Nat) : Int) = 0 from rfl] at hl
    rw [hl]
    have hw := write_is ty en ps h2 h3 h4 h7
    have hlen : (hdr ty en ps.length ++ ps.flatMap progB).length = 64 + 56 * ps.length := by rw [List.length_append, hdr_length, flat_length]
    have hlen2 : (hdr ty en ps.length ++ (ps.flatMap progB ++ b)).length = 64 + 56 * ps.length + b.length := by rw [← List.append_assoc, List.length_append, hlen]
    have hback := write_back ty en ps b h2 h3 h4 h7 hb h5 h6 (by omega)
    rw [shacklelaw04_HeadBack.l0, if_neg (by omega), show head_Write.f ty en ps = some (hdr ty en ps.length ++ ps.flatMap progB, none) from hw, Option.bind_some]
    dsimp only
    rw [hlen, if_pos (by omega), List.append_assoc, show head_Read.f (hdr ty en ps.length ++ (ps.flatMap progB ++ b)) = some (readV (hdr ty en ps.length ++ (ps.flatMap progB ++ b))) from if_pos (by omega), Option.bind_some, if_pos (show (none : Option Int).isNone = true from rfl), hback]
    by_cases hsz : 1048576 < (hdr ty en ps.length ++ (ps.flatMap progB ++ b)).length
    · have hw2 : wrap64 (((64 + 56 * ps.length : Nat) : Int) + (b.length : Int)) = ((64 + 56 * ps.length + b.length : Nat) : Int) := by rw [w64_id (by omega) (by omega)]; omega
      rw [if_pos hsz]
      dsimp only
      rw [if_neg (show ¬ (some (2 : Int)).isNone = true by decide), if_pos rfl, hw2, if_pos (by omega), if_neg (show ¬ ((some (2 : Int)).getD 0 < 0) by decide)]
      rfl
    · rw [if_neg hsz]
      dsimp only
      rw [if_pos (show (none : Option Int).isNone = true from rfl), same_head ty en ps h4.2 m (by omega), Option.bind_some, if_pos rfl]
theorem write_err (ty en : Int) (ps : List S50) (h : ¬ ((ty = 2 ∨ ty = 3) ∧ 0 < ps.length ∧ ps.length ≤ 16)) : writeF ty en ps = some ([], some 1) := by
  unfold writeF
  rw [if_neg h]
theorem same_some (k : Nat) (hk : 60 ≤ k) (t e : Int) (qs : List S50) (hq : qs.length ≤ 16) (ty en : Int) (ps : List S50) (hp : ps.length ≤ 16) : ∃ r, shackleref04_Same.f k t e qs ty en ps = some r := by
  have loop : ∀ (d k i : Nat), qs.length = ps.length → i + d = qs.length → ∃ r, shackleref04_Same.l0 (k + d + 1) (i : Int) t e qs ty en ps = some r := by
    intro d
    induction d with
    | zero => intro k i _ hi; exact ⟨true, by rw [shackleref04_Same.l0, if_neg (by omega)]⟩
    | succ d ih =>
      intro k i hl hi
      have hw : wrap64 ((i : Int) + 1) = ((i + 1 : Nat) : Int) := by rw [w64_id (by omega) (by omega)]; omega
      rw [show k + (d + 1) + 1 = (k + d + 1) + 1 by omega, shackleref04_Same.l0, if_pos (by omega), if_pos (by omega), if_pos (by omega), hw]
      split
      · exact ⟨_, rfl⟩
      · exact ih k (i + 1) hl (by omega)
  obtain ⟨m, rfl⟩ : ∃ m, k = (m + qs.length + 1) + 1 := ⟨k - qs.length - 2, by omega⟩
  have j0 : ∀ b : Bool, (b = false → qs.length = ps.length) → ∃ r, shackleref04_Same.j0 ((m + qs.length + 1) + 1) b t e qs ty en ps = some r := by
    intro b hb
    rw [shackleref04_Same.j0]
    cases b
    · rw [if_neg (by decide)]
      exact loop qs.length m 0 (hb rfl) (Nat.zero_add _)
    · exact ⟨false, if_pos rfl⟩
  unfold shackleref04_Same.f
  split
  · split
    · exact j0 _ (fun h => by have := bne_eq_false_iff_eq.1 h; omega)
    · exact j0 _ (fun h => by cases h)
  · exact j0 _ (fun h => by cases h)
theorem read_len (l : List Int) (hn : l.length < 140737488355328) (hb : ∀ x ∈ l, 0 ≤ x ∧ x < 256) : (readV l).2.2.1.length ≤ 16 := by
  cases hr : (readV l).2.2.2 with
  | some q => rw [read_err l hr]; exact Nat.zero_le _
  | none =>
    obtain ⟨ty, en, ps, e, he⟩ : ∃ ty en ps e, readV l = (ty, en, ps, e) := ⟨_, _, _, _, rfl⟩
    rw [he] at hr
    obtain rfl : e = none := hr
    rw [he]
    exact (read_none l hn hb he).2.2.2.1.2
theorem HeadBack : shacklelaw04_HeadBack.Pure := by
  intro ty en ps rest b ht he hgp hzp hgr hzr hgb hzb
  have hb : ∀ x ∈ b, 0 ≤ x ∧ x < 256 := fun x hx => lit_u8 (hgb.2 x hx)
  have hr : ∀ x ∈ rest, 0 ≤ x ∧ x < 256 := fun x hx => lit_u8 (hgr.2 x hx)
  have hx : ∀ x ∈ ps, Ok50 x := fun x hx => by
    obtain ⟨h0, h1, h2, h3, h4, h5, h6⟩ := hgp.2 x hx
    exact ⟨lit_u32 h0, lit_u32 h1, lit_u64 h2, lit_u64 h3, lit_u64 h4, lit_u64 h5, lit_u64 h6⟩
  have hbl : b.length ≤ 140737488351232 := by have := hzb.1; clear hgp hzp hgr hzr hgb hzb ht he; omega
  have hrl : rest.length ≤ 140737488351232 := by have := hzr.1; clear hgp hzp hgr hzr hgb hzb ht he; omega
  have he2 := lit_u64 he
  clear hgp hzp hgr hzr hgb hzb ht he
  refine ⟨200, ?_⟩
  have hhalf1 := half b hbl hb 199 (by omega)
  have hj0 : shacklelaw04_HeadBack.j0 200 b true = some true := by
    rw [shacklelaw04_HeadBack.j0]
    exact hhalf1
  unfold shacklelaw04_HeadBack.f
  rw [show shacklelaw04_shown.f = some true from rfl, Option.bind_some]
  by_cases hok : (ty = 2 ∨ ty = 3) ∧ 0 < ps.length ∧ ps.length ≤ 16
  · have hw := write_is ty en ps hok.1 he2 hok.2 hx
    have hlen : (hdr ty en ps.length ++ ps.flatMap progB).length = 64 + 56 * ps.length := by rw [List.length_append, hdr_length, flat_length]
    have hlen2 : (hdr ty en ps.length ++ (ps.flatMap progB ++ rest)).length = 64 + 56 * ps.length + rest.length := by rw [← List.append_assoc, List.length_append, hlen]
    rw [show head_Write.f ty en ps = some (hdr ty en ps.length ++ ps.flatMap progB, none) from hw, Option.bind_some]
    dsimp only
    rw [if_pos (show (none : Option Int).isNone = true from rfl), hlen, if_pos (by omega), List.append_assoc, show head_Read.f (hdr ty en ps.length ++ (ps.flatMap progB ++ rest)) = some (readV (hdr ty en ps.length ++ (ps.flatMap progB ++ rest))) from if_pos (by omega), Option.bind_some]
    have hwr := write_read ty en ps rest hok.1 he2 hok.2 hx hr (by omega)
    obtain ⟨s, hs⟩ := same_some 200 (by omega) (readV (hdr ty en ps.length ++ (ps.flatMap progB ++ rest))).1 (readV (hdr ty en ps.length ++ (ps.flatMap progB ++ rest))).2.1 (readV (hdr ty en ps.length ++ (ps.flatMap progB ++ rest))).2.2.1 (read_len _ (by omega) (all_small ty en ps rest hr)) ty en ps hok.2.2
    rw [hs, Option.bind_some, hj0]
    cases hn : (readV (hdr ty en ps.length ++ (ps.flatMap progB ++ rest))).2.2.2 with
    | some q => rfl
    | none =>
      obtain ⟨qs, -, h⟩ := hwr hn
      rw [h] at hs
      have := same_head ty en ps hok.2.2 200 (by omega)
      rw [this] at hs
      obtain rfl := Option.some.inj hs
      rfl
  · rw [show head_Write.f ty en ps = some ([], some 1) from write_err ty en ps hok, Option.bind_some]
    dsimp only
    rw [if_neg (show ¬ (some (1 : Int)).isNone = true by decide)]
    exact hj0
end Go.Proofs.YtjohdgejjnbddaaDoor.Pure
