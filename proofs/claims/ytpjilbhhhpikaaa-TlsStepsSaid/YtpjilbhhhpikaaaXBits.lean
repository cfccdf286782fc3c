/- Plain lemmas on bits of numbers of 64 bits: 'and' digit by digit, how many bits are 1 (as Go's bits.OnesCount64 reckons it), 'and not' of a power of two less 1. No condition beyond what each names. -/
import Derived.Test.YtpjilbhhhpikaaaXPure
import Derived.Laws.BitsAllLaws
namespace Go.Proofs.YtpjilbhhhpikaaaX
open Go Go.RowKit Go.Proofs.YtpjilbhhhpikaaaW.PrintWords

theorem and_split (k a m y M : Nat) (ha : a < 2 ^ k) (hm : m < 2 ^ k) : (2 ^ k * y + a) &&& (2 ^ k * M + m) = 2 ^ k * (y &&& M) + (a &&& m) := by
  apply Nat.eq_of_testBit_eq
  intro j
  rw [Nat.testBit_and, Nat.testBit_two_pow_mul_add _ ha, Nat.testBit_two_pow_mul_add _ hm, Nat.testBit_two_pow_mul_add _ (Nat.and_lt_two_pow a hm)]
  split <;> rw [Nat.testBit_and]

/-- eight bytes as a number -/
def by8 (f : Nat → Nat) : Nat := f 0 + 256 * (f 1 + 256 * (f 2 + 256 * (f 3 + 256 * (f 4 + 256 * (f 5 + 256 * (f 6 + 256 * f 7))))))
theorem and_byte (a m y M : Nat) (ha : a < 256) (hm : m < 256) : (a + 256 * y) &&& (m + 256 * M) = (a &&& m) + 256 * (y &&& M) := by
  have := and_split 8 a m y M ha hm
  rw [Nat.add_comm a, Nat.add_comm m, Nat.add_comm (a &&& m)]
  exact this
theorem and_by8 (f g : Nat → Nat) (hf : ∀ i, f i < 256) (hg : ∀ i, g i < 256) : by8 f &&& by8 g = by8 (fun i => f i &&& g i) := by
  unfold by8
  rw [and_byte _ _ _ _ (hf 0) (hg 0), and_byte _ _ _ _ (hf 1) (hg 1), and_byte _ _ _ _ (hf 2) (hg 2), and_byte _ _ _ _ (hf 3) (hg 3), and_byte _ _ _ _ (hf 4) (hg 4), and_byte _ _ _ _ (hf 5) (hg 5), and_byte _ _ _ _ (hf 6) (hg 6)]
theorem by8_of (x : Nat) (h : x < 18446744073709551616) : ∃ f : Nat → Nat, (∀ i, f i < 256) ∧ x = by8 f := by
  refine ⟨fun i => x / 256 ^ i % 256, fun i => Nat.mod_lt _ (by decide), ?_⟩
  unfold by8
  simp only [show (256 : Nat) ^ 0 = 1 by decide, show (256 : Nat) ^ 1 = 256 by decide, show (256 : Nat) ^ 2 = 65536 by decide, show (256 : Nat) ^ 3 = 16777216 by decide, show (256 : Nat) ^ 4 = 4294967296 by decide, show (256 : Nat) ^ 5 = 1099511627776 by decide, show (256 : Nat) ^ 6 = 281474976710656 by decide, show (256 : Nat) ^ 7 = 72057594037927936 by decide]
  omega

/-- how many bits of a byte are 1 -/
def pc (b : Nat) : Nat := b % 2 + b / 2 % 2 + b / 4 % 2 + b / 8 % 2 + b / 16 % 2 + b / 32 % 2 + b / 64 % 2 + b / 128 % 2

theorem byte1 : ∀ b, b < 256 → ∀ c, c < 2 → ((b / 2 + 128 * c) &&& 85) = ((b / 2) &&& 85) := by decide +kernel
theorem byte2 : ∀ b, b < 256 → ∀ c, c < 4 → ((b / 4 + 64 * c) &&& 51) = ((b / 4) &&& 51) := by decide +kernel
theorem byte3 : ∀ b, b < 256 → ((((((b / 2) &&& 85) + (b &&& 85)) / 4) &&& 51) + ((((b / 2) &&& 85) + (b &&& 85)) &&& 51)) / 16 + ((((((b / 2) &&& 85) + (b &&& 85)) / 4) &&& 51) + ((((b / 2) &&& 85) + (b &&& 85)) &&& 51)) % 16 = pc b := by decide +kernel

def swar (x : Nat) : Nat :=
  let x1 := ((x / 2) &&& 6148914691236517205) + (x &&& 6148914691236517205)
  let x2 := ((x1 / 4) &&& 3689348814741910323) + (x1 &&& 3689348814741910323)
  let x3 := (x2 / 16 + x2) &&& 1085102592571150095
  let x4 := x3 + x3 / 256
  let x5 := x4 + x4 / 65536
  let x6 := x5 + x5 / 4294967296
  x6 % 128

theorem by8_add (f g : Nat → Nat) : by8 f + by8 g = by8 (fun i => f i + g i) := by simp only [by8]; omega
theorem by8_congr {f g : Nat → Nat} (h : ∀ i, f i = g i) : by8 f = by8 g := by rw [funext h]
theorem mask85 : 6148914691236517205 = by8 (fun _ => 85) := by decide
theorem mask51 : 3689348814741910323 = by8 (fun _ => 51) := by decide
theorem mask15 : 1085102592571150095 = by8 (fun _ => 15) := by decide

theorem half8 (f : Nat → Nat) (hf : ∀ i, f i < 256) (h8 : f 8 = 0) : by8 f / 2 = by8 (fun i => f i / 2 + 128 * (f (i + 1) % 2)) := by
  have h0 := hf 0; have h1 := hf 1; have h2 := hf 2; have h3 := hf 3; have h4 := hf 4; have h5 := hf 5; have h6 := hf 6; have h7 := hf 7
  simp only [by8, Nat.zero_add, Nat.reduceAdd, h8]
  omega
theorem quarter8 (f : Nat → Nat) (hf : ∀ i, f i < 256) (h8 : f 8 = 0) : by8 f / 4 = by8 (fun i => f i / 4 + 64 * (f (i + 1) % 4)) := by
  have h0 := hf 0; have h1 := hf 1; have h2 := hf 2; have h3 := hf 3; have h4 := hf 4; have h5 := hf 5; have h6 := hf 6; have h7 := hf 7
  simp only [by8, Nat.zero_add, Nat.reduceAdd, h8]
  omega
theorem sixteenth8 (f : Nat → Nat) (hf : ∀ i, f i < 256) (h8 : f 8 = 0) : by8 f / 16 = by8 (fun i => f i / 16 + 16 * (f (i + 1) % 16)) := by
  have h0 := hf 0; have h1 := hf 1; have h2 := hf 2; have h3 := hf 3; have h4 := hf 4; have h5 := hf 5; have h6 := hf 6; have h7 := hf 7
  simp only [by8, Nat.zero_add, Nat.reduceAdd, h8]
  omega

def s1 (b : Nat) : Nat := ((b / 2) &&& 85) + (b &&& 85)
def s2 (b : Nat) : Nat := ((s1 b / 4) &&& 51) + (s1 b &&& 51)
theorem s_bounds : ∀ b, b < 256 → s1 b ≤ 170 ∧ s2 b / 16 ≤ 4 ∧ s2 b % 16 ≤ 4 ∧ s2 b / 16 + s2 b % 16 = pc b ∧ pc b ≤ 8 := by decide +kernel
theorem s_zero : s1 0 = 0 ∧ s2 0 = 0 ∧ pc 0 = 0 := by decide

theorem div_of {x a q m : Nat} (hm : 0 < m) (h : x = a + m * q) (ha : a < m) : x / m = q := by
  subst h
  rw [Nat.add_mul_div_left _ _ hm, Nat.div_eq_of_lt ha, Nat.zero_add]
theorem mod_of {x a q m : Nat} (h : x = a + m * q) (ha : a < m) : x % m = a := by
  subst h
  rw [Nat.add_mul_mod_self_left, Nat.mod_eq_of_lt ha]
theorem fold8 (c0 c1 c2 c3 c4 c5 c6 c7 : Nat) (h0 : c0 ≤ 8) (h1 : c1 ≤ 8) (h2 : c2 ≤ 8) (h3 : c3 ≤ 8) (h4 : c4 ≤ 8) (h5 : c5 ≤ 8) (h6 : c6 ≤ 8) (h7 : c7 ≤ 8) :
    (c0 + 256 * (c1 + 256 * (c2 + 256 * (c3 + 256 * (c4 + 256 * (c5 + 256 * (c6 + 256 * c7)))))) + (c0 + 256 * (c1 + 256 * (c2 + 256 * (c3 + 256 * (c4 + 256 * (c5 + 256 * (c6 + 256 * c7))))))) / 256 + (c0 + 256 * (c1 + 256 * (c2 + 256 * (c3 + 256 * (c4 + 256 * (c5 + 256 * (c6 + 256 * c7)))))) + (c0 + 256 * (c1 + 256 * (c2 + 256 * (c3 + 256 * (c4 + 256 * (c5 + 256 * (c6 + 256 * c7))))))) / 256) / 65536 +
      (c0 + 256 * (c1 + 256 * (c2 + 256 * (c3 + 256 * (c4 + 256 * (c5 + 256 * (c6 + 256 * c7)))))) + (c0 + 256 * (c1 + 256 * (c2 + 256 * (c3 + 256 * (c4 + 256 * (c5 + 256 * (c6 + 256 * c7))))))) / 256 + (c0 + 256 * (c1 + 256 * (c2 + 256 * (c3 + 256 * (c4 + 256 * (c5 + 256 * (c6 + 256 * c7)))))) + (c0 + 256 * (c1 + 256 * (c2 + 256 * (c3 + 256 * (c4 + 256 * (c5 + 256 * (c6 + 256 * c7))))))) / 256) / 65536) / 4294967296) % 128 =
    c0 + c1 + c2 + c3 + c4 + c5 + c6 + c7 := by
  rw [div_of (a := c0) (q := c1 + 256 * (c2 + 256 * (c3 + 256 * (c4 + 256 * (c5 + 256 * (c6 + 256 * c7)))))) (m := 256) (by decide) rfl (by omega)]
  rw [div_of (a := c0 + c1 + 256 * (c1 + c2)) (q := (c2 + c3) + 256 * ((c3 + c4) + 256 * ((c4 + c5) + 256 * ((c5 + c6) + 256 * ((c6 + c7) + 256 * c7))))) (m := 65536) (by decide) (by omega) (by omega)]
  rw [div_of (a := (c0 + c1 + (c2 + c3)) + 256 * ((c1 + c2 + (c3 + c4)) + 256 * ((c2 + c3 + (c4 + c5)) + 256 * (c3 + c4 + (c5 + c6))))) (q := (c4 + c5 + (c6 + c7)) + 256 * ((c5 + c6 + c7) + 256 * ((c6 + c7) + 256 * c7))) (m := 4294967296) (by decide) (by omega) (by omega)]
  exact mod_of (q := 2 * ((c1 + c2 + (c3 + c4) + (c5 + c6 + c7)) + 256 * ((c2 + c3 + (c4 + c5) + (c6 + c7)) + 256 * ((c3 + c4 + (c5 + c6) + c7) + 256 * ((c4 + c5 + (c6 + c7)) + 256 * ((c5 + c6 + c7) + 256 * ((c6 + c7) + 256 * c7))))))) (by omega) (by omega)

theorem swar_tells (x : Nat) (h : x < 18446744073709551616) : ∃ f : Nat → Nat, (∀ i, f i < 256) ∧ x = by8 f ∧ swar x = pc (f 0) + pc (f 1) + pc (f 2) + pc (f 3) + pc (f 4) + pc (f 5) + pc (f 6) + pc (f 7) := by
  obtain ⟨f0, hf0, hx⟩ := by8_of x h
  -- the ninth byte is nought
  let f : Nat → Nat := fun i => if i < 8 then f0 i else 0
  have hf : ∀ i, f i < 256 := fun i => by show (if i < 8 then f0 i else 0) < 256; split; exact hf0 i; decide
  have h8 : f 8 = 0 := rfl
  have hxf : x = by8 f := by rw [hx]; rfl
  have b := fun i => s_bounds (f i) (hf i)
  refine ⟨f, hf, hxf, ?_⟩
  have e1 : ((x / 2) &&& 6148914691236517205) + (x &&& 6148914691236517205) = by8 (fun i => s1 (f i)) := by
    rw [hxf, half8 f hf h8, mask85, and_by8 _ _ (fun i => by have := hf i; omega) (fun _ => by decide), and_by8 _ _ hf (fun _ => by decide), by8_add]
    exact by8_congr fun i => by rw [byte1 (f i) (hf i) _ (Nat.mod_lt _ (by decide))]; rfl
  have e2 : ((by8 (fun i => s1 (f i)) / 4) &&& 3689348814741910323) + (by8 (fun i => s1 (f i)) &&& 3689348814741910323) = by8 (fun i => s2 (f i)) := by
    have hb : ∀ i, s1 (f i) < 256 := fun i => by have := (b i).1; omega
    rw [quarter8 _ hb (by show s1 (f 8) = 0; rw [h8]; exact s_zero.1), mask51, and_by8 _ _ (fun i => by have := hb i; omega) (fun _ => by decide), and_by8 _ _ hb (fun _ => by decide), by8_add]
    exact by8_congr fun i => by rw [byte2 (s1 (f i)) (hb i) _ (Nat.mod_lt _ (by decide))]; rfl
  have e3 : (by8 (fun i => s2 (f i)) / 16 + by8 (fun i => s2 (f i))) &&& 1085102592571150095 = by8 (fun i => pc (f i)) := by
    have hb : ∀ i, s2 (f i) < 256 := fun i => by have := (b i).2; omega
    rw [sixteenth8 _ hb (by show s2 (f 8) = 0; rw [h8]; exact s_zero.2.1), by8_add, mask15, and_by8 _ _ (fun i => by have := (b i).2; have := (b (i + 1)).2; omega) (fun _ => by decide)]
    refine by8_congr fun i => ?_
    have h1 := (b i).2
    rw [show (15 : Nat) = 2 ^ 4 - 1 by decide, Nat.and_two_pow_sub_one_eq_mod]
    omega
  unfold swar
  simp only [e1, e2, e3]
  have h0 := (b 0).2.2.2.2; have h1 := (b 1).2.2.2.2; have h2 := (b 2).2.2.2.2; have h3 := (b 3).2.2.2.2; have h4 := (b 4).2.2.2.2; have h5 := (b 5).2.2.2.2; have h6 := (b 6).2.2.2.2; have h7 := (b 7).2.2.2.2
  simp only [by8]
  generalize pc (f 0) = c0 at *; generalize pc (f 1) = c1 at *; generalize pc (f 2) = c2 at *; generalize pc (f 3) = c3 at *; generalize pc (f 4) = c4 at *; generalize pc (f 5) = c5 at *; generalize pc (f 6) = c6 at *; generalize pc (f 7) = c7 at *
  clear b e1 e2 e3
  exact fold8 c0 c1 c2 c3 c4 c5 c6 c7 (by omega) (by omega) (by omega) (by omega) (by omega) (by omega) (by omega) (by omega)

theorem pc_zero : ∀ b, b < 256 → pc b = 0 → b = 0 := by decide +kernel
theorem pc_one : ∀ b, b < 256 → pc b = 1 → ∃ j, j < 8 ∧ b = 2 ^ j := by decide +kernel
theorem swar_pow : ∀ i, i < 64 → swar (2 ^ i) = 1 := by decide +kernel

theorem swar_one (x : Nat) (h : x < 18446744073709551616) : swar x = 1 ↔ ∃ i, i < 64 ∧ x = 2 ^ i := by
  constructor
  · intro hs
    obtain ⟨f, hf, hx, hc⟩ := swar_tells x h
    rw [hs] at hc
    have z := fun i => pc_zero (f i) (hf i)
    have o := fun i => pc_one (f i) (hf i)
    have key : ∃ n, n < 8 ∧ pc (f n) = 1 ∧ ∀ m, m < 8 → m ≠ n → f m = 0 := by
      have t := fun (n : Nat) (hn : n < 8) (h1 : pc (f n) = 1) (h0 : ∀ m, m < 8 → m ≠ n → pc (f m) = 0) => (⟨n, hn, h1, fun m hm hne => z m (h0 m hm hne)⟩ : ∃ n, n < 8 ∧ pc (f n) = 1 ∧ ∀ m, m < 8 → m ≠ n → f m = 0)
      have all : ∀ n, n < 8 → n = 0 ∨ n = 1 ∨ n = 2 ∨ n = 3 ∨ n = 4 ∨ n = 5 ∨ n = 6 ∨ n = 7 := by omega
      by_cases k0 : pc (f 0) = 1
      · exact t 0 (by omega) k0 (fun m hm hne => by rcases all m hm with rfl | rfl | rfl | rfl | rfl | rfl | rfl | rfl <;> omega)
      by_cases k1 : pc (f 1) = 1
      · exact t 1 (by omega) k1 (fun m hm hne => by rcases all m hm with rfl | rfl | rfl | rfl | rfl | rfl | rfl | rfl <;> omega)
      by_cases k2 : pc (f 2) = 1
      · exact t 2 (by omega) k2 (fun m hm hne => by rcases all m hm with rfl | rfl | rfl | rfl | rfl | rfl | rfl | rfl <;> omega)
      by_cases k3 : pc (f 3) = 1
      · exact t 3 (by omega) k3 (fun m hm hne => by rcases all m hm with rfl | rfl | rfl | rfl | rfl | rfl | rfl | rfl <;> omega)
      by_cases k4 : pc (f 4) = 1
      · exact t 4 (by omega) k4 (fun m hm hne => by rcases all m hm with rfl | rfl | rfl | rfl | rfl | rfl | rfl | rfl <;> omega)
      by_cases k5 : pc (f 5) = 1
      · exact t 5 (by omega) k5 (fun m hm hne => by rcases all m hm with rfl | rfl | rfl | rfl | rfl | rfl | rfl | rfl <;> omega)
      by_cases k6 : pc (f 6) = 1
      · exact t 6 (by omega) k6 (fun m hm hne => by rcases all m hm with rfl | rfl | rfl | rfl | rfl | rfl | rfl | rfl <;> omega)
      exact t 7 (by omega) (by omega) (fun m hm hne => by rcases all m hm with rfl | rfl | rfl | rfl | rfl | rfl | rfl | rfl <;> omega)
    obtain ⟨n, hn, h1, hm⟩ := key
    obtain ⟨j, hj, hb⟩ := o n h1
    refine ⟨8 * n + j, by omega, ?_⟩
    rw [hx]
    unfold by8
    have all : n = 0 ∨ n = 1 ∨ n = 2 ∨ n = 3 ∨ n = 4 ∨ n = 5 ∨ n = 6 ∨ n = 7 := by omega
    rw [Nat.pow_add]
    rcases all with rfl | rfl | rfl | rfl | rfl | rfl | rfl | rfl <;> simp [hb, hm] <;> omega
  · rintro ⟨i, hi, rfl⟩
    exact swar_pow i hi

/-- a number with all bits of a power of two less 1 taken away -/
theorem andNot_pow (s i : Nat) (hs : s < 18446744073709551616) (hi : i < 64) : s &&& (18446744073709551615 - (2 ^ i - 1)) = s - s % 2 ^ i := by
  have hp : 0 < 2 ^ i := Nat.two_pow_pos i
  have h64 : (18446744073709551616 : Nat) = 2 ^ i * 2 ^ (64 - i) := by rw [← Nat.pow_add, show i + (64 - i) = 64 by omega]
  have hq : s / 2 ^ i < 2 ^ (64 - i) := by
    rw [Nat.div_lt_iff_lt_mul hp, Nat.mul_comm, ← h64]
    exact hs
  have hm : 18446744073709551615 - (2 ^ i - 1) = 2 ^ i * (2 ^ (64 - i) - 1) + 0 := by
    rw [Nat.mul_sub, Nat.mul_one, ← h64]
    omega
  have hsp : s = 2 ^ i * (s / 2 ^ i) + s % 2 ^ i := (Nat.div_add_mod s (2 ^ i)).symm
  rw [hm]
  conv => lhs; rw [hsp]
  rw [and_split i _ 0 _ _ (Nat.mod_lt _ hp) hp, Nat.and_two_pow_sub_one_eq_mod, Nat.mod_eq_of_lt hq, Nat.and_zero]
  have := Nat.div_add_mod s (2 ^ i)
  omega
end Go.Proofs.YtpjilbhhhpikaaaX
