/- exec.Test and shackleref13.Test tell the same of any condition. No condition but what each theorem says. -/
import Derived.Test.YtpjilbhhhpikaaaGreatEvX2a
import Derived.Test.YtpjilbhhhpikaaaGreatEvX2b
import Derived.Test.YtpjilbhhhpikaaaGreatEvX2c
import Derived.Test.YtpjilbhhhpikaaaGreatEvX2d
import Derived.Test.YtpjilbhhhpikaaaGreatEvE
namespace Go.Ev
set_option linter.unusedVariables false
set_option linter.unusedSimpArgs false
open Go Go.Proofs Go.RowKit
theorem nat_and16 (n m : Nat) (hm : m < 16) : n &&& m = (n % 16) &&& m := by
  have h : m = 15 &&& m := by
    rw [Nat.and_comm, show (15 : Nat) = 2 ^ 4 - 1 from rfl, Nat.and_two_pow_sub_one_eq_mod]
    exact (Nat.mod_eq_of_lt hm).symm
  have h2 : n % 16 = n &&& 15 := by rw [show (15 : Nat) = 2 ^ 4 - 1 from rfl, Nat.and_two_pow_sub_one_eq_mod]
  rw [h2, Nat.and_assoc, ← h]
theorem bits_and16 (c : Int) (k m : Nat) (hk : c % 16 = k) (hm : m < 16) : bits BinOp.and IntKind.i64 c m = ((k &&& m : Nat) : Int) := by
  have h1 : (BitVec.ofInt 64 c).toNat % 16 = k := by
    rw [BitVec.toNat_ofInt]
    have : ((c % (2 ^ 64 : Nat)).toNat : Int) = c % (2 ^ 64 : Nat) := Int.toNat_of_nonneg (Int.emod_nonneg _ (by decide))
    have h3 : (((c % (2 ^ 64 : Nat)).toNat % 16 : Nat) : Int) = (k : Int) := by
      rw [Int.natCast_emod, this, ← hk]
      exact Int.emod_emod_of_dvd c (by decide)
    exact_mod_cast h3
  have h2 : (BitVec.ofInt 64 (m : Int)).toNat = m := by
    rw [BitVec.toNat_ofInt]
    have : ((m : Int) % (2 ^ 64 : Nat)) = (m : Int) := Int.emod_eq_of_lt (Int.natCast_nonneg _) (by omega)
    rw [this]; rfl
  show IntKind.wrap .i64 (((BitVec.ofInt 64 c &&& BitVec.ofInt 64 (m : Int)).toNat : Nat) : Int) = _
  rw [BitVec.toNat_and, h2, nat_and16 _ _ hm, h1]
  have : k &&& m ≤ m := Nat.and_le_right
  exact wrap_i64_in _ (by omega)
set_option maxRecDepth 100000 in
set_option maxHeartbeats 1000000 in
theorem test_all (a0 a1 a2 a3 a4 a5 a6 a7 a8 a9 a10 a11 a12 a13 a14 a15 a16 a17 c : Int) (b0 b1 b2 b3 b4 : Bool) (w : World) : Calls Tryz.prog 12 #[.agg #[.int .u64 a0, .int .u64 a1, .int .u64 a2, .int .u64 a3, .int .u64 a4, .int .u64 a5, .int .u64 a6, .int .u64 a7, .int .u64 a8, .int .u64 a9, .int .u64 a10, .int .u64 a11, .int .u64 a12, .int .u64 a13, .int .u64 a14, .int .u64 a15, .int .u64 a16, .int .u64 a17, .bool b0, .bool b1, .bool b2, .bool b3, .bool b4], .int .i64 c] w fun e w' => e = .returned (.bool (cnd (c % 16).toNat b0 b1 b2 b3 b4)) ∧ Below w.heap.size w w' := by
  obtain ⟨k, hk⟩ : ∃ k : Nat, c % 16 = k := ⟨(c % 16).toNat, (Int.toNat_of_nonneg (Int.emod_nonneg _ (by decide))).symm⟩
  have hlt : k < 16 := by have := Int.emod_lt_of_pos c (show (0 : Int) < 16 by decide); omega
  have h14 := bits_and16 c k 14 hk (by decide)
  have h1 := bits_and16 c k 1 hk (by decide)
  rw [hk]
  rcases show k = 0 ∨ k = 1 ∨ k = 2 ∨ k = 3 ∨ k = 4 ∨ k = 5 ∨ k = 6 ∨ k = 7 ∨ k = 8 ∨ k = 9 ∨ k = 10 ∨ k = 11 ∨ k = 12 ∨ k = 13 ∨ k = 14 ∨ k = 15 by omega with rfl | rfl | rfl | rfl | rfl | rfl | rfl | rfl | rfl | rfl | rfl | rfl | rfl | rfl | rfl | rfl
  · exact test0 a0 a1 a2 a3 a4 a5 a6 a7 a8 a9 a10 a11 a12 a13 a14 a15 a16 a17 c b0 b1 b2 b3 b4 w h14 h1
  · exact test1 a0 a1 a2 a3 a4 a5 a6 a7 a8 a9 a10 a11 a12 a13 a14 a15 a16 a17 c b0 b1 b2 b3 b4 w h14 h1
  · exact test2 a0 a1 a2 a3 a4 a5 a6 a7 a8 a9 a10 a11 a12 a13 a14 a15 a16 a17 c b0 b1 b2 b3 b4 w h14 h1
  · exact test3 a0 a1 a2 a3 a4 a5 a6 a7 a8 a9 a10 a11 a12 a13 a14 a15 a16 a17 c b0 b1 b2 b3 b4 w h14 h1
  · exact test4 a0 a1 a2 a3 a4 a5 a6 a7 a8 a9 a10 a11 a12 a13 a14 a15 a16 a17 c b0 b1 b2 b3 b4 w h14 h1
  · exact test5 a0 a1 a2 a3 a4 a5 a6 a7 a8 a9 a10 a11 a12 a13 a14 a15 a16 a17 c b0 b1 b2 b3 b4 w h14 h1
  · exact test6 a0 a1 a2 a3 a4 a5 a6 a7 a8 a9 a10 a11 a12 a13 a14 a15 a16 a17 c b0 b1 b2 b3 b4 w h14 h1
  · exact test7 a0 a1 a2 a3 a4 a5 a6 a7 a8 a9 a10 a11 a12 a13 a14 a15 a16 a17 c b0 b1 b2 b3 b4 w h14 h1
  · exact test8 a0 a1 a2 a3 a4 a5 a6 a7 a8 a9 a10 a11 a12 a13 a14 a15 a16 a17 c b0 b1 b2 b3 b4 w h14 h1
  · exact test9 a0 a1 a2 a3 a4 a5 a6 a7 a8 a9 a10 a11 a12 a13 a14 a15 a16 a17 c b0 b1 b2 b3 b4 w h14 h1
  · exact test10 a0 a1 a2 a3 a4 a5 a6 a7 a8 a9 a10 a11 a12 a13 a14 a15 a16 a17 c b0 b1 b2 b3 b4 w h14 h1
  · exact test11 a0 a1 a2 a3 a4 a5 a6 a7 a8 a9 a10 a11 a12 a13 a14 a15 a16 a17 c b0 b1 b2 b3 b4 w h14 h1
  · exact test12 a0 a1 a2 a3 a4 a5 a6 a7 a8 a9 a10 a11 a12 a13 a14 a15 a16 a17 c b0 b1 b2 b3 b4 w h14 h1
  · exact test13 a0 a1 a2 a3 a4 a5 a6 a7 a8 a9 a10 a11 a12 a13 a14 a15 a16 a17 c b0 b1 b2 b3 b4 w h14 h1
  · exact test14 a0 a1 a2 a3 a4 a5 a6 a7 a8 a9 a10 a11 a12 a13 a14 a15 a16 a17 c b0 b1 b2 b3 b4 w h14 h1
  · exact test15 a0 a1 a2 a3 a4 a5 a6 a7 a8 a9 a10 a11 a12 a13 a14 a15 a16 a17 c b0 b1 b2 b3 b4 w h14 h1
set_option maxRecDepth 100000 in
set_option maxHeartbeats 1000000 in
theorem ref_all (a0 a1 a2 a3 a4 a5 a6 a7 a8 a9 a10 a11 a12 a13 a14 a15 a16 a17 c : Int) (b0 b1 b2 b3 b4 : Bool) (w : World) : Calls Tryz.prog 13 #[.agg #[.int .u64 a0, .int .u64 a1, .int .u64 a2, .int .u64 a3, .int .u64 a4, .int .u64 a5, .int .u64 a6, .int .u64 a7, .int .u64 a8, .int .u64 a9, .int .u64 a10, .int .u64 a11, .int .u64 a12, .int .u64 a13, .int .u64 a14, .int .u64 a15, .int .u64 a16, .int .u64 a17, .bool b0, .bool b1, .bool b2, .bool b3, .bool b4], .int .i64 c] w fun e w' => e = .returned (.bool (cnd (c % 16).toNat b0 b1 b2 b3 b4)) ∧ Below w.heap.size w w' := by
  obtain ⟨t, ht⟩ : ∃ t : Int, c.tmod 16 = t := ⟨_, rfl⟩
  have he := Int.tmod_eq_emod (a := c) (b := 16)
  rw [ht] at he
  have hab : Int.natAbs (16 : Int) = 16 := rfl
  rw [hab] at he
  have hc : t = c % 16 ∨ t = c % 16 - 16 := by split at he <;> omega
  have hm : (c % 16).toNat = (t % 16).toNat := by congr 1; omega
  have h1 : -16 ≤ t := by omega
  have h1n : t ≠ -16 := by
    intro h
    have hz : c % 16 = 0 := by omega
    rw [if_pos (.inr (Int.dvd_of_emod_eq_zero hz))] at he
    omega
  have h2 : t ≤ 15 := by omega
  rw [hm]
  rcases show t = -15 ∨ t = -14 ∨ t = -13 ∨ t = -12 ∨ t = -11 ∨ t = -10 ∨ t = -9 ∨ t = -8 ∨ t = -7 ∨ t = -6 ∨ t = -5 ∨ t = -4 ∨ t = -3 ∨ t = -2 ∨ t = -1 ∨ t = 0 ∨ t = 1 ∨ t = 2 ∨ t = 3 ∨ t = 4 ∨ t = 5 ∨ t = 6 ∨ t = 7 ∨ t = 8 ∨ t = 9 ∨ t = 10 ∨ t = 11 ∨ t = 12 ∨ t = 13 ∨ t = 14 ∨ t = 15 by omega with h | h | h | h | h | h | h | h | h | h | h | h | h | h | h | h | h | h | h | h | h | h | h | h | h | h | h | h | h | h | h
  · subst h; exact ref_m15 a0 a1 a2 a3 a4 a5 a6 a7 a8 a9 a10 a11 a12 a13 a14 a15 a16 a17 c b0 b1 b2 b3 b4 w ht
  · subst h; exact ref_m14 a0 a1 a2 a3 a4 a5 a6 a7 a8 a9 a10 a11 a12 a13 a14 a15 a16 a17 c b0 b1 b2 b3 b4 w ht
  · subst h; exact ref_m13 a0 a1 a2 a3 a4 a5 a6 a7 a8 a9 a10 a11 a12 a13 a14 a15 a16 a17 c b0 b1 b2 b3 b4 w ht
  · subst h; exact ref_m12 a0 a1 a2 a3 a4 a5 a6 a7 a8 a9 a10 a11 a12 a13 a14 a15 a16 a17 c b0 b1 b2 b3 b4 w ht
  · subst h; exact ref_m11 a0 a1 a2 a3 a4 a5 a6 a7 a8 a9 a10 a11 a12 a13 a14 a15 a16 a17 c b0 b1 b2 b3 b4 w ht
  · subst h; exact ref_m10 a0 a1 a2 a3 a4 a5 a6 a7 a8 a9 a10 a11 a12 a13 a14 a15 a16 a17 c b0 b1 b2 b3 b4 w ht
  · subst h; exact ref_m9 a0 a1 a2 a3 a4 a5 a6 a7 a8 a9 a10 a11 a12 a13 a14 a15 a16 a17 c b0 b1 b2 b3 b4 w ht
  · subst h; exact ref_m8 a0 a1 a2 a3 a4 a5 a6 a7 a8 a9 a10 a11 a12 a13 a14 a15 a16 a17 c b0 b1 b2 b3 b4 w ht
  · subst h; exact ref_m7 a0 a1 a2 a3 a4 a5 a6 a7 a8 a9 a10 a11 a12 a13 a14 a15 a16 a17 c b0 b1 b2 b3 b4 w ht
  · subst h; exact ref_m6 a0 a1 a2 a3 a4 a5 a6 a7 a8 a9 a10 a11 a12 a13 a14 a15 a16 a17 c b0 b1 b2 b3 b4 w ht
  · subst h; exact ref_m5 a0 a1 a2 a3 a4 a5 a6 a7 a8 a9 a10 a11 a12 a13 a14 a15 a16 a17 c b0 b1 b2 b3 b4 w ht
  · subst h; exact ref_m4 a0 a1 a2 a3 a4 a5 a6 a7 a8 a9 a10 a11 a12 a13 a14 a15 a16 a17 c b0 b1 b2 b3 b4 w ht
  · subst h; exact ref_m3 a0 a1 a2 a3 a4 a5 a6 a7 a8 a9 a10 a11 a12 a13 a14 a15 a16 a17 c b0 b1 b2 b3 b4 w ht
  · subst h; exact ref_m2 a0 a1 a2 a3 a4 a5 a6 a7 a8 a9 a10 a11 a12 a13 a14 a15 a16 a17 c b0 b1 b2 b3 b4 w ht
  · subst h; exact ref_m1 a0 a1 a2 a3 a4 a5 a6 a7 a8 a9 a10 a11 a12 a13 a14 a15 a16 a17 c b0 b1 b2 b3 b4 w ht
  · subst h; exact ref_p0 a0 a1 a2 a3 a4 a5 a6 a7 a8 a9 a10 a11 a12 a13 a14 a15 a16 a17 c b0 b1 b2 b3 b4 w ht
  · subst h; exact ref_p1 a0 a1 a2 a3 a4 a5 a6 a7 a8 a9 a10 a11 a12 a13 a14 a15 a16 a17 c b0 b1 b2 b3 b4 w ht
  · subst h; exact ref_p2 a0 a1 a2 a3 a4 a5 a6 a7 a8 a9 a10 a11 a12 a13 a14 a15 a16 a17 c b0 b1 b2 b3 b4 w ht
  · subst h; exact ref_p3 a0 a1 a2 a3 a4 a5 a6 a7 a8 a9 a10 a11 a12 a13 a14 a15 a16 a17 c b0 b1 b2 b3 b4 w ht
  · subst h; exact ref_p4 a0 a1 a2 a3 a4 a5 a6 a7 a8 a9 a10 a11 a12 a13 a14 a15 a16 a17 c b0 b1 b2 b3 b4 w ht
  · subst h; exact ref_p5 a0 a1 a2 a3 a4 a5 a6 a7 a8 a9 a10 a11 a12 a13 a14 a15 a16 a17 c b0 b1 b2 b3 b4 w ht
  · subst h; exact ref_p6 a0 a1 a2 a3 a4 a5 a6 a7 a8 a9 a10 a11 a12 a13 a14 a15 a16 a17 c b0 b1 b2 b3 b4 w ht
  · subst h; exact ref_p7 a0 a1 a2 a3 a4 a5 a6 a7 a8 a9 a10 a11 a12 a13 a14 a15 a16 a17 c b0 b1 b2 b3 b4 w ht
  · subst h; exact ref_p8 a0 a1 a2 a3 a4 a5 a6 a7 a8 a9 a10 a11 a12 a13 a14 a15 a16 a17 c b0 b1 b2 b3 b4 w ht
  · subst h; exact ref_p9 a0 a1 a2 a3 a4 a5 a6 a7 a8 a9 a10 a11 a12 a13 a14 a15 a16 a17 c b0 b1 b2 b3 b4 w ht
  · subst h; exact ref_p10 a0 a1 a2 a3 a4 a5 a6 a7 a8 a9 a10 a11 a12 a13 a14 a15 a16 a17 c b0 b1 b2 b3 b4 w ht
  · subst h; exact ref_p11 a0 a1 a2 a3 a4 a5 a6 a7 a8 a9 a10 a11 a12 a13 a14 a15 a16 a17 c b0 b1 b2 b3 b4 w ht
  · subst h; exact ref_p12 a0 a1 a2 a3 a4 a5 a6 a7 a8 a9 a10 a11 a12 a13 a14 a15 a16 a17 c b0 b1 b2 b3 b4 w ht
  · subst h; exact ref_p13 a0 a1 a2 a3 a4 a5 a6 a7 a8 a9 a10 a11 a12 a13 a14 a15 a16 a17 c b0 b1 b2 b3 b4 w ht
  · subst h; exact ref_p14 a0 a1 a2 a3 a4 a5 a6 a7 a8 a9 a10 a11 a12 a13 a14 a15 a16 a17 c b0 b1 b2 b3 b4 w ht
  · subst h; exact ref_p15 a0 a1 a2 a3 a4 a5 a6 a7 a8 a9 a10 a11 a12 a13 a14 a15 a16 a17 c b0 b1 b2 b3 b4 w ht
end Go.Ev
