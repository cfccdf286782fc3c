/- Plain lemmas on bits of numbers of 64 bits: 'and' digit by digit, how many bits are 1 (as Go's bits.OnesCount64 reckons it), 'and not' of a power of two less 1. No condition beyond what each names. -/
import Derived.Test.YtjohdgejjnbddaaDoorXPure
import Derived.Laws.BitsAllLaws
namespace Go.Proofs.YtjohdgejjnbddaaDoorX
open Go Go.RowKit Go.Proofs.YtjohdgejjnbddaaDoorW.PrintWords

theorem and_split (k a m y M : Nat) (ha : a < 2 ^ k) (hm : m < 2 ^ k) : (2 ^ k * y + a) &&& (2 ^ k * M + m) = 2 ^ k * (y &&& M) + (a &&& m) := by
  apply Nat.eq_of_testBit_eq
  intro j
  rw [Nat.testBit_and, Nat.testBit_two_pow_mul_add _ ha, Nat.testBit_two_pow_mul_add _ hm, Nat.testBit_two_pow_mul_add _ (Nat.and_lt_two_pow a hm)]
  split <;> rw [Nat.testBit_and]

def by8 (f : Nat → Nat) : Nat := f 0 + 256 * (f 1 + 256 * (f 2 + 256 * (f 3 + 256 * (f 4 + 256 * (f 5 + 256 * (f 6 + 256 * f 7))))))
def pc (b : Nat) : Nat := b % 2 + b / 2 % 2 + b / 4 % 2 + b / 8 % 2 + b / 16 % 2 + b / 32 % 2 + b / 64 % 2 + b / 128 % 2

def swar (x : Nat) : Nat :=
  let x1 := ((x / 2) &&& 6148914691236517205) + (x &&& 6148914691236517205)
  let x2 := ((x1 / 4) &&& 3689348814741910323) + (x1 &&& 3689348814741910323)
  let x3 := (x2 / 16 + x2) &&& 1085102592571150095
  let x4 := x3 + x3 / 256
  let x5 := x4 + x4 / 65536
  let x6 := x5 + x5 / 4294967296
  x6 % 128

def s1 (b : Nat) : Nat := ((b / 2) &&& 85) + (b &&& 85)
def s2 (b : Nat) : Nat := ((s1 b / 4) &&& 51) + (s1 b &&& 51)
theorem andNot_pow (s i : Nat) (hs : s < 18446744073709551616) (hi : i < 64) : s &&& (18446744073709551615 - (2 ^ i - 1)) = s - s % 2 ^ i := by
  have hp : 0 < 2 ^ i := Nat.two_pow_pos i
  have h64 : (18446744073709551616 : Nat) = 2 ^ i * 2 ^ (64 - i) := by rw [← Nat.pow_add, show i + (64 - i) = 64 by omega]
  have hq : s / 2 ^ i < 2 ^ (64 - i) := by
    rw [Nat.div_lt_iff_lt_mul hp, Nat.mul_comm, ← h64]
    exact hs
  have hm : 18446744073709551615 - (2 ^ i - 1) = 2 ^ i * (2 ^ (64 - i) - 1) + 0 := by
    rw [Nat.mul_sub, Nat.mul_one, ← h64]
    omega
  have hsp : s = 2 ^ i * (s / 2 ^ i) + s % 2 ^ i := (Nat.div_add_mod s (2 ^ i)).symm
  rw [hm]
  conv => lhs; rw [hsp]
  rw [and_split i _ 0 _ _ (Nat.mod_lt _ hp) hp, Nat.and_two_pow_sub_one_eq_mod, Nat.mod_eq_of_lt hq, Nat.and_zero]
  have := Nat.div_add_mod s (2 ^ i)
  omega
end Go.Proofs.YtjohdgejjnbddaaDoorX
