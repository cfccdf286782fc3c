/- shacklelaw01.SpanBack: the pure statement: what is put is got, and nothing else is changed; numbers come back from their bytes; what was brought up stays. No condition beyond the arguments' own bounds. -/
import Derived.Test.YthhlnhbmjkjmlaaPSpanBackx3
import Derived.Test.YthhlnhbmjkjmlaaXPure
import Derived.Test.YthhlnhbmjkjmlaaXBits
import Derived.Lib.BitFns
set_option linter.unusedSimpArgs false
set_option linter.unusedVariables false
namespace Go.Proofs.Ythhlnhbmjkjmlaa.Pure
open Go.RowKit Go.Proofs.Ythhlnhbmjkjmlaa.PSpanBack Go.Proofs.YthhlnhbmjkjmlaaW.PrintWords Go.Proofs.YthhlnhbmjkjmlaaW.PrintLast Go.Proofs.YthhlnhbmjkjmlaaW.PrintMore Go.Proofs.YthhlnhbmjkjmlaaX

theorem shown_holds : shacklelaw01_shown.f 100 = some true := by decide +kernel

/-! ### brought up to a multiple of 4096 -/
theorem sum_two (x y : Int) (hx : 0 ≤ x) (hx1 : x < 18446744073709551616) (hy : 0 ≤ y) (k : Nat) : span_Sum.f (k + 3) [x, y] = if x + y < 18446744073709551616 then some (x + y, none) else some (0, some 28) := by
  have hw0 : wrap64 (0 + 1) = 1 := w64_id (by omega) (by omega)
  have hw1 : wrap64 (1 + 1) = 2 := w64_id (by omega) (by omega)
  have r0 : rd [x, y] 0 = x := rfl
  have r1 : rd [x, y] 1 = y := rfl
  have hl : (([x, y] : List Int).length : Int) = 2 := rfl
  unfold span_Sum.f
  rw [hl, span_Sum.l0, hl, if_pos (by omega), if_pos (by omega), if_pos (by omega), if_pos (by omega), r0, if_pos hx, if_neg (by omega), hw0, show (0 + x) % 18446744073709551616 = x by omega]
  rw [span_Sum.l0, hl, if_pos (by omega), if_pos (by omega), if_pos (by omega), if_pos hx, r1, if_pos hy, hw1]
  by_cases h : x + y < 18446744073709551616
  · rw [if_neg (by omega), if_pos h, show (x + y) % 18446744073709551616 = x + y by omega, span_Sum.l0, if_neg (by omega)]
  · rw [if_pos (by omega), if_neg h]

theorem ones4096 : bits_OnesCount64.f 4096 = some 1 := by decide +kernel

theorem up_all (a k : Nat) (ha : a < 18446744073709551616) : span_Up.f (k + 3) (a : Int) 4096 = some (if a + 4095 < 18446744073709551616 then (((a + 4095 - (a + 4095) % 4096 : Nat) : Int), none) else (0, some 28)) := by
  have hw : IntKind.u64.wrap (4096 - 1) = 4095 := uwrap_id (by decide) (by decide)
  unfold span_Up.f
  rw [ones4096, Option.bind_some, if_pos rfl, hw, sum_two (a : Int) 4095 (by omega) (by omega) (by decide)]
  by_cases h : a + 4095 < 18446744073709551616
  · have hc1 : (a : Int) + 4095 = ((a + 4095 : Nat) : Int) := by omega
    have hc2 : (4095 : Int) = ((4095 : Nat) : Int) := rfl
    rw [if_pos (by omega), if_pos h, Option.bind_some, if_pos (by simp)]
    dsimp only
    have e := andNot_pow (a + 4095) 12 h (by decide)
    rw [hc1, hc2, u64_andNot_nat _ _ h (by decide)]
    have e2 : (2 : Nat) ^ 12 = 4096 := by decide
    rw [e2] at e
    rw [show (4096 - 1 : Nat) = 4095 from rfl] at e
    rw [e]
  · rw [if_neg (by omega), if_neg h, Option.bind_some, if_neg (by simp)]
    rfl

/-- What follows the numbers' bytes: the number that was brought up. -/
def tail (k : Nat) (a : Int) (s : Bool) : Option Bool := (span_Up.f k a 4096).bind fun b => (if b.2.isNone = true then ((span_Up.f k b.1 4096).bind fun c => (if s = true then (if c.2.isNone = true then (if c.1 = b.1 then (if (Int.tmod b.1 4096) = 0 then (if b.1 ≥ a then (some (decide ((IntKind.u64.wrap (b.1 - a)) < 4096))) else (some false)) else (some false)) else (some false)) else (some false)) else (some false))) else (if s = true then (if (b.2.getD 0) = 28 then (some (decide (a > 18446744073709547520))) else (some false)) else (some false)))

theorem tail_true (k a : Nat) (ha : a < 18446744073709551616) (hk : 3 ≤ k) : tail k (a : Int) true = some true := by
  obtain ⟨k, rfl⟩ : ∃ m, k = m + 3 := ⟨k - 3, by omega⟩
  unfold tail
  rw [up_all a k ha, Option.bind_some]
  by_cases h : a + 4095 < 18446744073709551616
  · rw [if_pos h]
    obtain ⟨w, hw⟩ : ∃ w, w = a + 4095 - (a + 4095) % 4096 := ⟨_, rfl⟩
    rw [← hw]
    have h1 : w % 4096 = 0 ∧ a ≤ w ∧ w < a + 4096 ∧ w < 18446744073709551616 := by omega
    have h2 : w + 4095 < 18446744073709551616 := by omega
    have h3 : w + 4095 - (w + 4095) % 4096 = w := by omega
    rw [if_pos (by simp)]
    simp only []
    rw [up_all w k h1.2.2.2, Option.bind_some, if_pos h2, h3]
    simp only []
    have ht : Int.tmod (w : Int) 4096 = 0 := by rw [Int.tmod_eq_emod_of_nonneg (by omega)]; omega
    rw [if_pos True.intro, if_pos (by simp), if_pos True.intro, ht, if_pos rfl, if_pos (by omega), uwrap_id (by omega) (by omega)]
    simp only [Option.some.injEq, decide_eq_true_eq]
    omega
  · rw [if_neg h, if_neg (by simp), if_pos rfl, if_pos (by simp)]
    simp only [Option.some.injEq, decide_eq_true_eq]
    omega

/-! ### widths, places -/
def lies (n : Nat) (a b : Int) : Prop := a ≤ (n : Int) ∧ b ≤ (n : Int) - a
instance (n : Nat) (a b : Int) : Decidable (lies n a b) := inferInstanceAs (Decidable (_ ∧ _))

theorem in_of (n : Nat) (a b : Int) (hn : n < 140737488355328) (ha : 0 ≤ a) : span_In.f (IntKind.u64.wrap (n : Int)) a b = some (decide (lies n a b)) := by
  have hw : IntKind.u64.wrap (n : Int) = (n : Int) := uwrap_id (Int.natCast_nonneg _) (by omega)
  unfold span_In.f
  rw [hw]
  by_cases h : a ≤ (n : Int)
  · have hw2 : IntKind.u64.wrap ((n : Int) - a) = (n : Int) - a := uwrap_id (by omega) (by omega)
    rw [if_pos h, hw2]
    simp [lies, h]
  · rw [if_neg h]
    simp [lies, h]

theorem wide_of {n : Int} (h : n = 1 ∨ n = 2 ∨ n = 4 ∨ n = 8) : span_wide.f n = some true := by rcases h with rfl | rfl | rfl | rfl <;> rfl
theorem not_wide {n : Int} (h : ¬ (n = 1 ∨ n = 2 ∨ n = 4 ∨ n = 8)) : span_wide.f n = some false := by
  unfold span_wide.f
  rw [if_neg (by omega), if_neg (by omega), if_neg (by omega), if_neg (by omega)]

/-! ### bytes of a number -/
/-- a number's n lowest bytes, the lowest first -/
def bytesLE : Nat → Int → List Int
  | 0, _ => []
  | n + 1, v => v % 256 :: bytesLE n (v / 256)
theorem bytesLE_length (n : Nat) : ∀ v, (bytesLE n v).length = n := by
  induction n with
  | zero => intro v; rfl
  | succ n ih => intro v; simp [bytesLE, ih]

theorem rd_zero (x : Int) (l : List Int) : rd (x :: l) ((0 : Nat) : Int) = x := by rw [rd_nat]; rfl
theorem rd_succ (x : Int) (l : List Int) (i : Nat) : rd (x :: l) ((i + 1 : Nat) : Int) = rd l (i : Int) := by rw [rd_nat, rd_nat]; rfl

theorem rd_bytes (n : Nat) : ∀ (v i : Nat), i < n → rd (bytesLE n (v : Int)) (i : Int) = ((v / 256 ^ i % 256 : Nat) : Int) := by
  induction n with
  | zero => intro v i h; omega
  | succ n ih =>
    intro v i h
    have hc : (v : Int) / 256 = ((v / 256 : Nat) : Int) := by omega
    rw [bytesLE, hc]
    cases i with
    | zero =>
      rw [rd_zero, Nat.pow_zero, Nat.div_one]
      omega
    | succ i =>
      rw [rd_succ, ih (v / 256) i (by omega), Nat.div_div_eq_div_mul, Nat.pow_succ, Nat.mul_comm]

theorem or_byte (u b : Nat) (hu : u < 18446744073709551616) (hd : u % 256 = 0) (hb : b < 256) : Go.bits .or .u64 (u : Int) (b : Int) = ((u + b : Nat) : Int) := by
  obtain ⟨q, rfl⟩ : ∃ q, u = 256 * q := ⟨u / 256, by omega⟩
  have h1 : (256 * q) ||| b = 256 * q + b := (Nat.two_pow_add_eq_or_of_lt (i := 8) hb q).symm
  have e1 : (BitVec.ofInt 64 ((256 * q : Nat) : Int)).toNat = 256 * q := by
    rw [BitVec.ofInt_natCast, BitVec.toNat_ofNat]
    exact Nat.mod_eq_of_lt (by omega)
  have e2 : (BitVec.ofInt 64 ((b : Nat) : Int)).toNat = b := by
    rw [BitVec.ofInt_natCast, BitVec.toNat_ofNat]
    exact Nat.mod_eq_of_lt (by omega)
  show IntKind.u64.wrap (((BitVec.ofInt 64 ((256 * q : Nat) : Int)) ||| (BitVec.ofInt 64 ((b : Nat) : Int))).toNat : Int) = _
  rw [BitVec.toNat_or, e1, e2, h1]
  exact uwrap_id (Int.natCast_nonneg _) (by omega)

/-- A number that lies there is read. -/
theorem get_loop (p : List Int) (a n v : Nat) (hn : p.length < 140737488355328) (hle : a + n ≤ p.length) (hv : v < 18446744073709551616) (hb : ∀ i, i < n → rd p ((a + i : Nat) : Int) = ((v / 256 ^ i % 256 : Nat) : Int)) (d : Nat) :
    ∀ (k : Nat), d ≤ n → span_Get.l0 (k + d + 1) p (a : Int) ((v / 256 ^ d : Nat) : Int) ((d : Int) - 1) = some ((v : Int), none) := by
  induction d with
  | zero =>
    intro k hd
    rw [span_Get.l0, if_neg (by omega), Nat.pow_zero, Nat.div_one]
  | succ d ih =>
    intro k hd
    have hi : (((d + 1 : Nat) : Int) - 1) = (d : Int) := by omega
    have hw1 : IntKind.u64.wrap (d : Int) = (d : Int) := uwrap_id (by omega) (by omega)
    have hw2 : IntKind.u64.wrap ((a : Int) + (d : Int)) = ((a + d : Nat) : Int) := by rw [uwrap_id (by omega) (by omega)]; omega
    have hw4 : wrap64 ((d : Int) - 1) = (d : Int) - 1 := w64_id (by omega) (by omega)
    have hq : v / 256 ^ (d + 1) = v / 256 ^ d / 256 := by rw [Nat.div_div_eq_div_mul, Nat.pow_succ]
    have hqv : v / 256 ^ d ≤ v := Nat.div_le_self _ _
    have hlen : ((a + d : Nat) : Int) < (p.length : Int) := by omega
    rw [hi, show k + (d + 1) + 1 = (k + d + 1) + 1 by omega, span_Get.l0, if_pos (Int.natCast_nonneg _), hw1, hw2, if_pos (Int.natCast_nonneg _), if_pos hlen, hb d (by omega), hw4, hq]
    have ih := ih k (by omega)
    generalize v / 256 ^ d = q at ih hqv ⊢
    have hw3 : IntKind.u64.wrap ((q % 256 : Nat) : Int) = ((q % 256 : Nat) : Int) := uwrap_id (Int.natCast_nonneg _) (by clear hn hle hlen; omega)
    have hw5 : IntKind.u64.wrap (((q / 256 : Nat) : Int) * 256) = ((q / 256 * 256 : Nat) : Int) := by
      rw [uwrap_id (by clear hn hle hlen; omega) (by clear hn hle hlen; omega)]; clear hn hle hlen; omega
    rw [hw3, hw5, or_byte _ _ (by clear hn hle hlen; omega) (by clear hn hle hlen; omega) (by clear hn hle hlen; omega), show q / 256 * 256 + q % 256 = q by clear hn hle hlen; omega]
    exact ih

theorem get_val (p : List Int) (a n v : Nat) (hwd : (n : Int) = 1 ∨ (n : Int) = 2 ∨ (n : Int) = 4 ∨ (n : Int) = 8) (hn : p.length < 140737488355328) (hle : a + n ≤ p.length) (hv : v < 18446744073709551616) (hv2 : v < 256 ^ n)
    (hb : ∀ i, i < n → rd p ((a + i : Nat) : Int) = ((v / 256 ^ i % 256 : Nat) : Int)) (k : Nat) (hk : n + 1 ≤ k) : span_Get.f k p (a : Int) (n : Int) = some ((v : Int), none) := by
  obtain ⟨k, rfl⟩ : ∃ m, k = m + n + 1 := ⟨k - n - 1, by omega⟩
  have hw1 : IntKind.u64.wrap (n : Int) = (n : Int) := uwrap_id (by omega) (by omega)
  have hw2 : wrap64 ((n : Int) - 1) = (n : Int) - 1 := w64_id (by omega) (by omega)
  have hl : lies p.length (a : Int) (n : Int) := ⟨by omega, by omega⟩
  have := get_loop p a n v hn hle hv hb n k (Nat.le_refl _)
  rw [Nat.div_eq_of_lt hv2] at this
  unfold span_Get.f
  rw [wide_of hwd, Option.bind_some, if_pos rfl, hw1, in_of _ _ _ hn (Int.natCast_nonneg _), Option.bind_some, if_pos (decide_eq_true hl), hw2]
  exact this

theorem get_any (l : List Int) (a n : Nat) (hwd : (n : Int) = 1 ∨ (n : Int) = 2 ∨ (n : Int) = 4 ∨ (n : Int) = 8) (hn : l.length < 140737488355328) (hle : a + n ≤ l.length) (hb : ∀ x ∈ l, 0 ≤ x ∧ x < 256) (d : Nat) : ∀ (v : Int), d ≤ n → ∃ x, ∀ k,
    span_Get.l0 (k + d + 1) l (a : Int) v ((d : Int) - 1) = some (x, none) := by
  induction d with
  | zero =>
    intro v hd
    exact ⟨v, fun k => by rw [span_Get.l0, if_neg (by omega)]⟩
  | succ d ih =>
    intro v hd
    have hi : (((d + 1 : Nat) : Int) - 1) = (d : Int) := by omega
    have hw1 : IntKind.u64.wrap (d : Int) = (d : Int) := uwrap_id (by omega) (by omega)
    have hw2 : IntKind.u64.wrap ((a : Int) + (d : Int)) = ((a + d : Nat) : Int) := by rw [uwrap_id (by omega) (by omega)]; omega
    have hw4 : wrap64 ((d : Int) - 1) = (d : Int) - 1 := w64_id (by omega) (by omega)
    obtain ⟨x, hx⟩ := ih (Go.bits .or .u64 (IntKind.u64.wrap (v * 256)) (IntKind.u64.wrap (rd l ((a + d : Nat) : Int)))) (by omega)
    refine ⟨x, fun k => ?_⟩
    rw [hi, show k + (d + 1) + 1 = (k + d + 1) + 1 by omega, span_Get.l0, if_pos (Int.natCast_nonneg _), hw1, hw2, if_pos (Int.natCast_nonneg _), if_pos (by omega), hw4]
    exact hx k

/-! ### numbers become bytes -/
theorem bitLen_gt (x k : Nat) (hk : k ≤ 64) (h : x < 18446744073709551616) : k < Go.Lib.bitLen x ↔ 2 ^ k ≤ x := by
  constructor
  · intro h1
    rcases Nat.lt_or_ge x (2 ^ k) with h2 | h2
    · have := Go.Lib.bitLen_le x k hk h2
      omega
    · exact h2
  · intro h1
    have h64 : x < 2 ^ 64 := by have : (2 : Nat) ^ 64 = 18446744073709551616 := by decide
                                omega
    rw [Go.Lib.bitLen_shift k x h1 h64]
    have hq : x / 2 ^ k ≠ 0 := by
      have := Nat.div_pos h1 (Nat.two_pow_pos k)
      omega
    rw [Go.Lib.bitLen_half _ hq (Nat.lt_of_le_of_lt (Nat.div_le_self _ _) h64)]
    omega

theorem join_bytes (n : Int) (l : List Int) (len i : Int) (hn : n ≤ 8) (d : Nat) : ∀ (k : Nat) (c v : Int) (acc : List Int), c + d = n → 0 ≤ c → acc.length + d < 140737488355328 →
    span_Join.l1 (k + d + 1) n acc v l len i n c = span_Join.l0 k n (acc ++ bytesLE d v) l len (wrap64 (i + 1)) := by
  induction d with
  | zero =>
    intro k c v acc hc h0 hl
    rw [span_Join.l1, if_neg (by omega)]
    simp [bytesLE]
  | succ d ih =>
    intro k c v acc hc h0 hl
    rw [show k + (d + 1) + 1 = (k + d + 1) + 1 by omega, span_Join.l1]
    have hwr : wrap64 (c + 1) = c + 1 := w64_id (by omega) (by omega)
    rw [if_pos (by omega), if_pos (by omega), hwr]
    have := ih k (c + 1) (v / 256) (acc ++ [v % 256]) (by omega) (by omega) (by simp; omega)
    rw [this]
    simp [bytesLE]

def flat (n : Nat) (l : List Int) : List Int := l.flatMap (bytesLE n)
def fits (n : Nat) (l : List Int) : Prop := ∀ x ∈ l, x < ((256 ^ n : Nat) : Int)
theorem flat_length (n : Nat) (l : List Int) : (flat n l).length = n * l.length := by
  induction l with
  | nil => simp [flat]
  | cons x l ih =>
    have : (flat n (x :: l)).length = n + (flat n l).length := by simp [flat, bytesLE_length]
    rw [this, ih, List.length_cons, Nat.mul_add]
    omega

theorem pow8 (n : Nat) : (2 : Nat) ^ (8 * n) = 256 ^ n := by rw [Nat.pow_mul]

theorem bound8 {a n i L : Nat} (ha : a = n * i) (hn : n ≤ 8) (hi : i < L) (hL : L * 8 ≤ 140737488351232) : a + n < 140737488355328 := by
  have : n * (i + 1) ≤ 8 * L := Nat.mul_le_mul hn hi
  rw [Nat.mul_add, Nat.mul_one] at this
  omega

theorem join_loop (n : Nat) (hwd : (n : Int) = 1 ∨ (n : Int) = 2 ∨ (n : Int) = 4 ∨ (n : Int) = 8) (l : List Int) (hl : l.length * 8 ≤ 140737488351232) (hw : ∀ x ∈ l, 0 ≤ x ∧ x < 18446744073709551616) (d : Nat) :
    ∀ (k i : Nat) (acc : List Int), i + d = l.length → d * (n + 2) < k → acc.length = n * i →
    (fits n (l.drop i) → span_Join.l0 k n acc l (l.length : Int) (i : Int) = some (acc ++ flat n (l.drop i), none)) ∧ (¬ fits n (l.drop i) → span_Join.l0 k n acc l (l.length : Int) (i : Int) = some ([], some 28)) := by
  have hn8 : n ≤ 8 := by omega
  induction d with
  | zero =>
    intro k i acc hi hk ha
    obtain ⟨k, rfl⟩ : ∃ m, k = m + 1 := ⟨k - 1, by omega⟩
    have hlt : ¬ ((i : Int) < (l.length : Int)) := by omega
    rw [List.drop_of_length_le (by omega)]
    refine ⟨fun _ => ?_, fun h => absurd (fun x hx => by cases hx) h⟩
    rw [span_Join.l0, if_neg hlt]
    simp [flat]
  | succ d ih =>
    intro k i acc hi hk ha
    have hk2 : d * (n + 2) + (n + 2) < k := by rw [Nat.succ_mul] at hk; exact hk
    obtain ⟨k, rfl⟩ : ∃ m, k = m + n + 1 + 1 := ⟨k - n - 2, by omega⟩
    have hil : i < l.length := by omega
    have hlt : (i : Int) < (l.length : Int) := by omega
    have hx := hw _ (rd_mem l i hil)
    have hwi : wrap64 ((i : Int) + 1) = ((i + 1 : Nat) : Int) := by rw [w64_id (by omega) (by omega)]; omega
    have hw8 : wrap64 (8 * (n : Int)) = ((8 * n : Nat) : Int) := by rw [w64_id (by omega) (by omega)]; omega
    obtain ⟨x, hxe⟩ := Int.eq_ofNat_of_zero_le hx.1
    have hx2 : x < 18446744073709551616 := by rw [hxe] at hx; clear hi hk hk2 hil hlt hl ha; omega
    have hlen : bits_Len64.f (rd l (i : Int)) = some ((Go.Lib.bitLen x : Nat) : Int) := by
      rw [hxe]
      unfold bits_Len64.f
      rw [if_pos (Int.natCast_nonneg _), if_pos (by clear hi hk hk2 hil hlt hl ha hx; omega)]
      simp
    have hbit := bitLen_gt x (8 * n) (by omega) hx2
    rw [pow8] at hbit
    have hd := drop_at l i hil
    have hroom : acc.length + n < 140737488355328 := bound8 ha hn8 hil hl
    rw [span_Join.l0, if_pos hlt, if_pos (Int.natCast_nonneg _), if_pos hlt, hlen, Option.bind_some, hw8]
    by_cases hf : x < 256 ^ n
    · have hnb : ¬ 8 * n < Go.Lib.bitLen x := fun h => absurd (hbit.1 h) (Nat.not_le.2 hf)
      have h2 : ¬ ((Go.Lib.bitLen x : Nat) : Int) > ((8 * n : Nat) : Int) := fun h => hnb (Int.ofNat_lt.1 h)
      rw [if_neg h2, join_bytes (n : Int) l _ (i : Int) (by omega) n k 0 _ acc (by omega) (by decide) hroom, hwi]
      obtain ⟨h3, h4⟩ := ih k (i + 1) (acc ++ bytesLE n (rd l (i : Int))) (by omega) (by omega) (by rw [List.length_append, bytesLE_length, ha, Nat.mul_add, Nat.mul_one])
      rw [hd]
      have hfx : fits n (rd l (i : Int) :: l.drop (i + 1)) ↔ fits n (l.drop (i + 1)) := by
        constructor
        · intro h y hy; exact h y (List.mem_cons_of_mem _ hy)
        · intro h y hy
          rcases List.mem_cons.1 hy with rfl | hy
          · rw [hxe]; exact Int.ofNat_lt.2 hf
          · exact h y hy
      refine ⟨fun h => ?_, fun h => h4 (fun h5 => h (hfx.2 h5))⟩
      rw [h3 (hfx.1 h), List.append_assoc]
      rfl
    · have hb2 : 8 * n < Go.Lib.bitLen x := hbit.2 (Nat.not_lt.1 hf)
      rw [if_pos (Int.ofNat_lt.2 hb2)]
      refine ⟨fun h => ?_, fun _ => rfl⟩
      have := h (rd l (i : Int)) (by rw [hd]; exact List.mem_cons_self)
      rw [hxe] at this
      exact absurd (Int.ofNat_lt.1 this) hf

theorem join_all (n : Nat) (hwd : (n : Int) = 1 ∨ (n : Int) = 2 ∨ (n : Int) = 4 ∨ (n : Int) = 8) (l : List Int) (hl : l.length * 8 ≤ 140737488351232) (hw : ∀ x ∈ l, 0 ≤ x ∧ x < 18446744073709551616) (k : Nat) (hk : l.length * 10 < k) :
    (fits n l → span_Join.f k n l = some (flat n l, none)) ∧ (¬ fits n l → span_Join.f k n l = some ([], some 28)) := by
  have hn8 : n ≤ 8 := by omega
  have hk2 : l.length * (n + 2) < k := by
    have : l.length * (n + 2) ≤ l.length * 10 := Nat.mul_le_mul_left _ (by omega)
    omega
  obtain ⟨h1, h2⟩ := join_loop n hwd l hl hw l.length k 0 [] (by omega) hk2 (by simp)
  unfold span_Join.f
  rw [wide_of hwd, Option.bind_some, if_pos rfl]
  exact ⟨h1, h2⟩

theorem join_narrow (n : Int) (h : ¬ (n = 1 ∨ n = 2 ∨ n = 4 ∨ n = 8)) (l : List Int) (k : Nat) : span_Join.f k n l = some ([], some 1) := by
  unfold span_Join.f
  rw [not_wide h, Option.bind_some, if_neg (by simp)]

theorem rd_append_left (a b : List Int) (i : Nat) (h : i < a.length) : rd (a ++ b) (i : Int) = rd a (i : Int) := by
  rw [rd_nat, rd_nat, List.getD_eq_getElem?_getD, List.getD_eq_getElem?_getD, List.getElem?_append_left h]
theorem rd_append_right (a b : List Int) (i : Nat) : rd (a ++ b) ((a.length + i : Nat) : Int) = rd b (i : Int) := by
  rw [rd_nat, rd_nat, List.getD_eq_getElem?_getD, List.getD_eq_getElem?_getD, List.getElem?_append_right (Nat.le_add_right _ _), Nat.add_sub_cancel_left]

theorem rd_flat (n t : Nat) (ht : t < n) : ∀ (l : List Int) (i : Nat), i < l.length → rd (flat n l) ((i * n + t : Nat) : Int) = rd (bytesLE n (rd l (i : Int))) (t : Int) := by
  intro l
  induction l with
  | nil => intro i h; cases h
  | cons x l ih =>
    intro i h
    have hf : flat n (x :: l) = bytesLE n x ++ flat n l := by simp [flat]
    rw [hf]
    cases i with
    | zero =>
      rw [Nat.zero_mul, Nat.zero_add, rd_append_left _ _ _ (by rw [bytesLE_length]; exact ht), rd_zero]
    | succ i =>
      have e : (i + 1) * n + t = (bytesLE n x).length + (i * n + t) := by rw [bytesLE_length, Nat.add_mul, Nat.one_mul]; omega
      rw [e, rd_append_right, ih i (Nat.lt_of_succ_lt_succ h), rd_succ]

/-! ### numbers come back from their bytes -/
theorem index_bound {i n L : Nat} (hn : n ≤ 8) (hi : i < L) (hL : L * 8 ≤ 140737488351232) : i * n < 140737488355328 := by
  have : i * n ≤ L * 8 := Nat.mul_le_mul (Nat.le_of_lt hi) hn
  omega

theorem back_loop (n : Nat) (hwd : (n : Int) = 1 ∨ (n : Int) = 2 ∨ (n : Int) = 4 ∨ (n : Int) = 8) (l : List Int) (hl : l.length * 8 ≤ 140737488351232) (hw : ∀ x ∈ l, 0 ≤ x ∧ x < 18446744073709551616) (hf : fits n l) (a : Nat) (ha : a < 18446744073709551616) (d : Nat) :
    ∀ (k i : Nat), i + d = l.length → d + 20 < k → shacklelaw01_SpanBack.l1 k n l (a : Int) true (flat n l) (i : Int) = some true := by
  have hn8 : n ≤ 8 := by omega
  have hJ : (flat n l).length < 140737488355328 := by
    rw [flat_length]
    have : n * l.length ≤ 8 * l.length := Nat.mul_le_mul_right _ hn8
    omega
  induction d with
  | zero =>
    intro k i hi hk
    obtain ⟨k, rfl⟩ : ∃ m, k = m + 1 := ⟨k - 1, by omega⟩
    rw [shacklelaw01_SpanBack.l1, if_neg (by omega)]
    exact tail_true k a ha (by omega)
  | succ d ih =>
    intro k i hi hk
    obtain ⟨k, rfl⟩ : ∃ m, k = m + 1 := ⟨k - 1, by omega⟩
    have hil : i < l.length := by omega
    have hx := hw _ (rd_mem l i hil)
    have hfx := hf _ (rd_mem l i hil)
    obtain ⟨x, hxe⟩ := Int.eq_ofNat_of_zero_le hx.1
    rw [hxe] at hx hfx
    have hin := index_bound hn8 hil hl
    have hcast : (i : Int) * (n : Int) = ((i * n : Nat) : Int) := by simp
    have hw1 : IntKind.u64.wrap (wrap64 ((i : Int) * (n : Int))) = ((i * n : Nat) : Int) := by
      rw [hcast, w64_id (by clear hi hk hx hfx hl; omega) (by clear hi hk hx hfx hl; omega), uwrap_id (Int.natCast_nonneg _) (by clear hi hk hx hfx hl; omega)]
    have hwi : wrap64 ((i : Int) + 1) = ((i + 1 : Nat) : Int) := by rw [w64_id (by omega) (by omega)]; omega
    have hle : i * n + n ≤ (flat n l).length := by
      rw [flat_length, Nat.mul_comm n]
      have : (i + 1) * n ≤ l.length * n := Nat.mul_le_mul_right _ hil
      rw [Nat.add_mul, Nat.one_mul] at this
      exact this
    have hget := get_val (flat n l) (i * n) n x hwd hJ hle (by clear hi hk hl hin; omega) (Int.ofNat_lt.1 hfx)
      (fun t ht => by rw [rd_flat n t ht l i hil, hxe, rd_bytes n x t ht]) k (by omega)
    rw [shacklelaw01_SpanBack.l1, if_pos (by omega), hw1, hget, Option.bind_some, if_pos (by simp), if_pos (Int.natCast_nonneg _), hxe, if_pos rfl, hwi]
    exact ih k (i + 1) (by omega) (by omega)

/-- What follows what was put. -/
def after (k : Nat) (n : Int) (l : List Int) (a : Int) (s : Bool) : Option Bool := (span_Join.f k n l).bind fun b => (if b.2.isNone = true then (shacklelaw01_SpanBack.l1 k n l a s b.1 0) else tail k a s)

theorem after_true (n : Int) (l : List Int) (hl : l.length * 8 ≤ 140737488351232) (hw : ∀ x ∈ l, 0 ≤ x ∧ x < 18446744073709551616) (a : Nat) (ha : a < 18446744073709551616) (k : Nat) (hk : l.length * 10 + 30 ≤ k) : after k n l (a : Int) true = some true := by
  unfold after
  by_cases hwd : n = 1 ∨ n = 2 ∨ n = 4 ∨ n = 8
  · obtain ⟨m, rfl⟩ : ∃ m : Nat, n = (m : Int) := ⟨n.toNat, by omega⟩
    obtain ⟨h1, h2⟩ := join_all m hwd l hl hw k (by omega)
    by_cases hf : fits m l
    · rw [h1 hf, Option.bind_some, if_pos (by simp)]
      exact back_loop m hwd l hl hw hf a ha l.length k 0 (by omega) (by omega)
    · rw [h2 hf, Option.bind_some, if_neg (by simp)]
      exact tail_true k a ha (by omega)
  · rw [join_narrow n hwd, Option.bind_some, if_neg (by simp)]
    exact tail_true k a ha (by omega)

/-! ### what is put -/
theorem cpy_fits (l : List Int) (a : Nat) (bs : List Int) (h : a + bs.length ≤ l.length) : cpy l a bs = l.take a ++ (bs ++ l.drop (a + bs.length)) := by
  unfold cpy
  rw [List.take_of_length_le (l := bs) (by omega), Nat.min_eq_left (by omega)]

theorem rd_in (l : List Int) (a : Nat) (bs : List Int) (h : a + bs.length ≤ l.length) (i : Nat) (hi : i < bs.length) : rd (cpy l a bs) ((a + i : Nat) : Int) = rd bs (i : Int) := by
  have h1 : (l.take a).length = a := by rw [List.length_take]; omega
  rw [cpy_fits l a bs h]
  have := rd_append_right (l.take a) (bs ++ l.drop (a + bs.length)) i
  rw [h1] at this
  rw [this, rd_append_left _ _ _ hi]

theorem rd_out (l : List Int) (a : Nat) (bs : List Int) (h : a + bs.length ≤ l.length) (j : Nat) (hj : j < a ∨ a + bs.length ≤ j) : rd (cpy l a bs) (j : Int) = rd l (j : Int) := by
  have h1 : (l.take a).length = a := by rw [List.length_take]; omega
  rw [cpy_fits l a bs h]
  rcases hj with hj | hj
  · rw [rd_append_left _ _ _ (by omega), rd_nat, rd_nat, List.getD_eq_getElem?_getD, List.getD_eq_getElem?_getD, List.getElem?_take, if_pos hj]
  · obtain ⟨t, rfl⟩ : ∃ t, j = a + (bs.length + t) := ⟨j - a - bs.length, by omega⟩
    have e1 := rd_append_right (l.take a) (bs ++ l.drop (a + bs.length)) (bs.length + t)
    rw [h1] at e1
    rw [e1, rd_append_right, rd_nat, rd_nat, List.getD_eq_getElem?_getD, List.getD_eq_getElem?_getD, List.getElem?_drop, Nat.add_assoc]

theorem stays_loop (l p : List Int) (a n : Nat) (hn8 : n ≤ 8) (hp : p.length = l.length) (hl : l.length < 140737488355328) (ha : a < 18446744073709551616) (hout : ∀ j, j < a ∨ a + n ≤ j → rd p (j : Int) = rd l (j : Int)) (m : List Int) (b : Int) (B : Nat) (haft : ∀ k, B ≤ k → after k (n : Int) m b true = some true) (d : Nat) :
    ∀ (k i : Nat), i + d = l.length → d + B < k → shacklelaw01_SpanBack.l0 k l (a : Int) (n : Int) m b true p (i : Int) = some true := by
  induction d with
  | zero =>
    intro k i hi hk
    obtain ⟨k, rfl⟩ : ∃ m, k = m + 1 := ⟨k - 1, by omega⟩
    rw [shacklelaw01_SpanBack.l0, if_neg (by omega)]
    exact haft k (by omega)
  | succ d ih =>
    intro k i hi hk
    obtain ⟨k, rfl⟩ : ∃ m, k = m + 1 := ⟨k - 1, by omega⟩
    have hwi : wrap64 ((i : Int) + 1) = ((i + 1 : Nat) : Int) := by rw [w64_id (by omega) (by omega)]; omega
    have hwu : IntKind.u64.wrap (i : Int) = (i : Int) := uwrap_id (by omega) (by omega)
    have hwn : IntKind.u64.wrap (n : Int) = (n : Int) := uwrap_id (by omega) (by omega)
    have hlt : (i : Int) < (l.length : Int) := by omega
    have hltp : (i : Int) < (p.length : Int) := by omega
    have next := ih k (i + 1) (by omega) (by omega)
    rw [shacklelaw01_SpanBack.l0, if_pos hlt, hwu, hwn, hwi]
    by_cases h : (i : Int) ≥ (a : Int)
    · have hws : IntKind.u64.wrap ((i : Int) - (a : Int)) = (i : Int) - (a : Int) := uwrap_id (by omega) (by omega)
      rw [if_pos h, hws]
      by_cases h2 : (i : Int) - (a : Int) < (n : Int)
      · rw [if_pos h2]
        exact next
      · rw [if_neg h2, if_pos (Int.natCast_nonneg _), if_pos hltp, hout i (by omega), if_pos rfl]
        exact next
    · rw [if_neg h, if_pos (Int.natCast_nonneg _), if_pos hltp, hout i (by omega), if_pos rfl]
      exact next

theorem put_cases (l : List Int) (a n v : Int) (hl : l.length < 140737488355328) (ha : 0 ≤ a ∧ a < 18446744073709551616) (hv : 0 ≤ v ∧ v < 18446744073709551616) (hb : ∀ x ∈ l, 0 ≤ x ∧ x < 256) :
    (∃ i m x : Nat, a = i ∧ n = m ∧ v = x ∧ (n = 1 ∨ n = 2 ∨ n = 4 ∨ n = 8) ∧ i + m ≤ l.length ∧ x < 256 ^ m ∧ ∀ k, 30 ≤ k → span_Put.f k l a n v = some (cpy l i (bytesLE m x), none)) ∨
    (∃ z, ∀ k, 30 ≤ k → span_Put.f k l a n v = some ([], some z)) := by
  by_cases hwd : n = 1 ∨ n = 2 ∨ n = 4 ∨ n = 8
  · by_cases h : lies l.length a n
    · obtain ⟨i, rfl⟩ := Int.eq_ofNat_of_zero_le ha.1
      obtain ⟨x, rfl⟩ := Int.eq_ofNat_of_zero_le hv.1
      obtain ⟨m, rfl⟩ : ∃ m : Nat, n = (m : Int) := ⟨n.toNat, by clear ha hv hl h; omega⟩
      have hle : i + m ≤ l.length := by have := h.1; have := h.2; clear ha hv hl h; omega
      have hm8 : m ≤ 8 := by clear ha hv hl h hle; omega
      have hx : x < 18446744073709551616 := by clear ha hl h hle hwd; omega
      have hw1 : IntKind.u64.wrap (m : Int) = (m : Int) := uwrap_id (Int.natCast_nonneg _) (by clear ha hv hl h hle hwd hx; omega)
      have hw2 : wrap64 ((m : Int) - 1) = (m : Int) - 1 := w64_id (by clear ha hv hl h hle hwd hx; omega) (by clear ha hv hl h hle hwd hx; omega)
      obtain ⟨g, hg⟩ := get_any l i m hwd hl hle hb m 0 (Nat.le_refl _)
      have hget : ∀ k, 30 ≤ k → span_Get.f k l (i : Int) (m : Int) = some (g, none) := by
        intro k hk
        obtain ⟨k, rfl⟩ : ∃ q, k = q + m + 1 := ⟨k - m - 1, by clear ha hv hl h hle hwd hx; omega⟩
        unfold span_Get.f
        rw [wide_of hwd, Option.bind_some, if_pos rfl, hw1, in_of _ _ _ hl (Int.natCast_nonneg _), Option.bind_some, if_pos (decide_eq_true h), hw2]
        exact hg k
      have hclone : bytes_Clone.f l = some l := by unfold bytes_Clone.f; rw [if_pos hl]
      have hj : ∀ k, 30 ≤ k → _ := fun k hk => join_all m hwd [(x : Int)] (by simp) (by intro y hy; rw [List.mem_singleton.1 hy]; exact hv) k (by simp; clear ha hv hl h hle hwd hx; omega)
      by_cases hf : x < 256 ^ m
      · have hfits : fits m [(x : Int)] := fun y hy => by rw [List.mem_singleton.1 hy]; exact Int.ofNat_lt.2 hf
        have hflat : flat m [(x : Int)] = bytesLE m x := by simp [flat]
        refine .inl ⟨i, m, x, rfl, rfl, rfl, hwd, hle, hf, fun k hk => ?_⟩
        unfold span_Put.f
        rw [hget k hk, Option.bind_some, if_pos (by simp), (hj k hk).1 hfits, Option.bind_some, if_pos (by simp), hclone, Option.bind_some, if_pos (Int.natCast_nonneg _), if_pos h.1, Int.toNat_natCast, hflat]
      · have hfits : ¬ fits m [(x : Int)] := fun h2 => hf (Int.ofNat_lt.1 (h2 _ List.mem_cons_self))
        refine .inr ⟨28, fun k hk => ?_⟩
        unfold span_Put.f
        rw [hget k hk, Option.bind_some, if_pos (by simp), (hj k hk).2 hfits, Option.bind_some, if_neg (by simp)]
        rfl
    · refine .inr ⟨spZ a 4, fun k hk => ?_⟩
      have hw1 : IntKind.u64.wrap n = n := uwrap_id (by clear ha hv hl h; omega) (by clear ha hv hl h; omega)
      have hget : span_Get.f k l a n = some (0, some (spZ a 4)) := by
        unfold span_Get.f
        rw [wide_of hwd, Option.bind_some, if_pos rfl, hw1, in_of _ _ _ hl ha.1, Option.bind_some, decide_eq_false h, if_neg (by simp), if_pos ha.1, if_pos ha.2]
      unfold span_Put.f
      rw [hget, Option.bind_some, if_neg (by simp)]
      rfl
  · refine .inr ⟨1, fun k hk => ?_⟩
    have hget : span_Get.f k l a n = some (0, some 1) := by
      unfold span_Get.f
      rw [not_wide hwd, Option.bind_some, if_neg (by simp)]
    unfold span_Put.f
    rw [hget, Option.bind_some, if_neg (by simp)]
    rfl

theorem SpanBack : shacklelaw01_SpanBack.Pure := by
  intro l a n v m b hg hz ha hn hv hgm hzm hb
  have ha := lit_u64 ha
  have hv := lit_u64 hv
  have hb := lit_u64 hb
  have hl : l.length < 140737488355328 := by have := hz.1; clear hg hz ha hn hv hgm hzm hb; omega
  have hby : ∀ x ∈ l, 0 ≤ x ∧ x < 256 := fun x hx => lit_u8 (hg.2 x hx)
  have hm : m.length * 8 ≤ 140737488351232 := hzm.1
  have hmw : ∀ x ∈ m, 0 ≤ x ∧ x < 18446744073709551616 := fun x hx => lit_u64 (hgm.2 x hx)
  obtain ⟨c, rfl⟩ := Int.eq_ofNat_of_zero_le hb.1
  have hc : c < 18446744073709551616 := by clear hg hz ha hn hv hgm hzm hl hm; omega
  clear hg hz hn hgm hzm
  have haft : ∀ k, m.length * 10 + 30 ≤ k → after k n m (c : Int) true = some true := fun k hk => after_true n m hm hmw c hc k hk
  obtain ⟨K, hK⟩ : ∃ K, K = l.length + m.length * 10 + 200 := ⟨_, rfl⟩
  have hs : shacklelaw01_shown.f K = some true := at_rounds (g := shacklelaw01_shown.f) shacklelaw01_shown.mono (k := 100) (by clear ha hv hb hc hl hm haft; omega) shown_holds
  have hK30 : 30 ≤ K := by clear ha hv hb hc hl hm haft; omega
  refine ⟨K, ?_⟩
  unfold shacklelaw01_SpanBack.f
  rw [hs, Option.bind_some]
  rcases put_cases l a n v hl ha hv hby with ⟨i, w, x, rfl, rfl, rfl, hwd, hle, hx, hput⟩ | ⟨z, hput⟩
  · rw [hput K hK30, Option.bind_some, if_pos (by simp)]
    have hbl := bytesLE_length w (x : Int)
    have hpl := cpy_length l i (bytesLE w (x : Int))
    have hfit : i + (bytesLE w (x : Int)).length ≤ l.length := by rw [hbl]; exact hle
    have hx64 : x < 18446744073709551616 := by clear ha hb hc hl hm haft hK hx hwd; omega
    have hw8 : w ≤ 8 := by clear ha hv hb hc hl hm haft hK hx hx64 hle hK30; omega
    have hi64 : i < 18446744073709551616 := by clear hv hb hc hm haft hK hx hx64 hK30; omega
    have hget := get_val (cpy l i (bytesLE w (x : Int))) i w x hwd (by rw [hpl]; exact hl) (by rw [hpl]; exact hle) hx64 hx
      (fun t ht => by rw [rd_in l i _ hfit t (by rw [hbl]; exact ht), rd_bytes w x t ht]) K (by clear ha hv hb hc hl hm haft hK hx hx64 hle hi64; omega)
    rw [hget, Option.bind_some, if_pos (by simp), if_pos rfl]
    obtain ⟨k, hk⟩ : ∃ k, K = k + 1 := ⟨K - 1, by clear ha hv hb hc hl hm haft hx hx64 hle hi64; omega⟩
    have hne : (((cpy l i (bytesLE w (x : Int))).length : Int) != (l.length : Int)) = false := by rw [hpl]; simp
    rw [hk, shacklelaw01_SpanBack.j0]
    simp only [hne]
    rw [if_neg (by decide)]
    refine stays_loop l (cpy l i (bytesLE w (x : Int))) i w hw8 hpl hl hi64 (fun j hj => rd_out l i _ hfit j (by rw [hbl]; exact hj)) m (c : Int) (m.length * 10 + 30) haft l.length k 0 (Nat.zero_add _) ?_
    clear ha hv hb hc hl hm haft hx hx64 hle hi64 hget hput
    omega
  · rw [hput K hK30, Option.bind_some, if_neg (by simp)]
    exact haft K (by clear ha hv hb hc hl hm haft hput; omega)
end Go.Proofs.Ythhlnhbmjkjmlaa.Pure
