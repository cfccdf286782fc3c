/- shacklelaw01.SpanUps: the pure statement: a number is brought up to the next multiple of a power of two, or refused. No condition beyond the arguments' own bounds. -/
import Derived.Test.YthhlnhbmjkjmlaaPSpanUpsx2
import Derived.Test.YthhlnhbmjkjmlaaXBits
set_option linter.unusedSimpArgs false
set_option linter.unusedVariables false
namespace Go.Proofs.Ythhlnhbmjkjmlaa.Pure
open Go.RowKit Go.Proofs.Ythhlnhbmjkjmlaa.PSpanUps Go.Proofs.YthhlnhbmjkjmlaaW.PrintWords Go.Proofs.YthhlnhbmjkjmlaaW.PrintLast Go.Proofs.YthhlnhbmjkjmlaaW.PrintMore Go.Proofs.YthhlnhbmjkjmlaaX

theorem shown_holds : shacklelaw01_shown.f 100 = some true := by decide +kernel

theorem and64 (a : Nat) (m : Nat) (ha : a < 18446744073709551616) (hm : m < 18446744073709551616) : Go.bits .and .u64 (a : Int) (m : Int) = ((a &&& m : Nat) : Int) := u64_and_nat a m ha hm

theorem two_ands (a b m : Nat) (ha : a < 18446744073709551616) (hb : b < 18446744073709551616) (hm : m < 9223372036854775808) :
    IntKind.u64.wrap (Go.bits .and .u64 (a : Int) (m : Int) + Go.bits .and .u64 (b : Int) (m : Int)) = (((a &&& m) + (b &&& m) : Nat) : Int) := by
  rw [and64 a m ha (by omega), and64 b m hb (by omega)]
  have h1 : a &&& m ≤ m := Nat.and_le_right
  have h2 : b &&& m ≤ m := Nat.and_le_right
  rw [uwrap_id (by omega) (by omega)]
  omega

theorem ones (x : Nat) (h : x < 18446744073709551616) : bits_OnesCount64.f (x : Int) = some ((swar x : Nat) : Int) := by
  unfold bits_OnesCount64.f swar
  have e1 := two_ands (x / 2) x 6148914691236517205 (by omega) h (by omega)
  have c1 : ((x : Nat) : Int) / 2 = ((x / 2 : Nat) : Int) := by omega
  rw [← c1] at e1
  have d1 : ((6148914691236517205 : Nat) : Int) = 6148914691236517205 := rfl
  rw [d1] at e1
  simp only [e1]
  have hb1 : (x / 2 &&& 6148914691236517205) ≤ 6148914691236517205 := Nat.and_le_right
  have hb2 : (x &&& 6148914691236517205) ≤ 6148914691236517205 := Nat.and_le_right
  have hy : (x / 2 &&& 6148914691236517205) + (x &&& 6148914691236517205) ≤ 12297829382473034410 := by omega
  generalize (x / 2 &&& 6148914691236517205) + (x &&& 6148914691236517205) = y at *
  have e2 := two_ands (y / 4) y 3689348814741910323 (by omega) (by omega) (by omega)
  have c2 : ((y : Nat) : Int) / 4 = ((y / 4 : Nat) : Int) := by omega
  have d2 : ((3689348814741910323 : Nat) : Int) = 3689348814741910323 := rfl
  rw [← c2, d2] at e2
  simp only [e2]
  have hc1 : (y / 4 &&& 3689348814741910323) ≤ 3689348814741910323 := Nat.and_le_right
  have hc2 : (y &&& 3689348814741910323) ≤ 3689348814741910323 := Nat.and_le_right
  have hz : (y / 4 &&& 3689348814741910323) + (y &&& 3689348814741910323) ≤ 7378697629483820646 := by omega
  generalize (y / 4 &&& 3689348814741910323) + (y &&& 3689348814741910323) = z at *
  have e3 : Go.bits .and .u64 (IntKind.u64.wrap ((z : Int) / 16 + (z : Int))) 1085102592571150095 = ((z / 16 + z &&& 1085102592571150095 : Nat) : Int) := by
    have h1 : IntKind.u64.wrap ((z : Int) / 16 + (z : Int)) = ((z / 16 + z : Nat) : Int) := by rw [uwrap_id (by omega) (by omega)]; omega
    rw [h1]
    exact and64 (z / 16 + z) 1085102592571150095 (by omega) (by omega)
  simp only [e3]
  have hd : (z / 16 + z &&& 1085102592571150095) ≤ 1085102592571150095 := Nat.and_le_right
  generalize (z / 16 + z &&& 1085102592571150095) = v at *
  have e4 : IntKind.u64.wrap ((v : Int) + (v : Int) / 256) = ((v + v / 256 : Nat) : Int) := by rw [uwrap_id (by omega) (by omega)]; omega
  simp only [e4]
  have e5 : IntKind.u64.wrap (((v + v / 256 : Nat) : Int) + ((v + v / 256 : Nat) : Int) / 65536) = ((v + v / 256 + (v + v / 256) / 65536 : Nat) : Int) := by rw [uwrap_id (by omega) (by omega)]; omega
  simp only [e5]
  have e6 : IntKind.u64.wrap (((v + v / 256 + (v + v / 256) / 65536 : Nat) : Int) + ((v + v / 256 + (v + v / 256) / 65536 : Nat) : Int) / 4294967296) = ((v + v / 256 + (v + v / 256) / 65536 + (v + v / 256 + (v + v / 256) / 65536) / 4294967296 : Nat) : Int) := by rw [uwrap_id (by omega) (by omega)]; omega
  simp only [e6]
  rw [w64_id (by omega) (by omega)]
  generalize hu : v + v / 256 + (v + v / 256) / 65536 + (v + v / 256 + (v + v / 256) / 65536) / 4294967296 = u
  have hub : u < 9223372036854775808 := by omega
  have := bits_mask .i64 63 (by decide) (fun n h0 h1 => by rw [IntKind.wrap_i64]; omega) 7 (by decide) u (by omega) (by omega)
  have d3 : ((2 : Int) ^ 7 - 1) = 127 := rfl
  simp only [d3] at this
  rw [this]
  rfl

theorem power_search (a b : Int) (ha : 0 ≤ a ∧ a < 18446744073709551616) (hb : 0 ≤ b ∧ b < 18446744073709551616) (d : Nat) : ∀ (k i : Nat) (p : Bool), i + d = 64 → d < k →
    (p = true ↔ ∃ j, j < i ∧ b = ((2 ^ j : Nat) : Int)) →
    shackleref01_Up.l0 k a b p (i : Int) = (if (∃ j, j < 64 ∧ b = ((2 ^ j : Nat) : Int)) then (if a % b = 0 then some (a, 0) else if b - a % b > 18446744073709551615 - a then some (0, 28) else some (a + (b - a % b), 0)) else some (0, 1)) := by
  induction d with
  | zero =>
    intro k i p hi hk hp
    obtain ⟨k, rfl⟩ : ∃ m, k = m + 1 := ⟨k - 1, by omega⟩
    obtain rfl : i = 64 := by omega
    simp only [shackleref01_Up.l0]
    rw [if_neg (by omega)]
    by_cases h : ∃ j, j < 64 ∧ b = ((2 ^ j : Nat) : Int)
    · rw [if_pos h, if_pos (hp.2 h)]
      obtain ⟨j, hj, hbj⟩ := h
      have hpos : 0 < b := by rw [hbj]; exact Int.natCast_pos.2 (Nat.two_pow_pos j)
      have ht : Int.tmod a b = a % b := Int.tmod_eq_emod_of_nonneg ha.1
      have h1 := Int.emod_nonneg a (show b ≠ 0 by omega)
      have h2 := Int.emod_lt_of_pos a hpos
      rw [if_neg (by omega), ht]
      by_cases h0 : a % b = 0
      · rw [if_pos h0, if_pos h0]
      · rw [if_neg h0, if_neg h0, uwrap_id (show 0 ≤ b - a % b by omega) (by omega), uwrap_id (show 0 ≤ 18446744073709551615 - a by omega) (by omega)]
        by_cases h3 : b - a % b > 18446744073709551615 - a
        · rw [if_pos h3, if_pos h3]
        · rw [if_neg h3, if_neg h3, uwrap_id (by omega) (by omega)]
    · rw [if_neg h, if_neg (fun hpt => h (hp.1 hpt))]
  | succ d ih =>
    intro k i p hi hk hp
    obtain ⟨k, rfl⟩ : ∃ m, k = m + 1 := ⟨k - 1, by omega⟩
    simp only [shackleref01_Up.l0]
    have hwr : wrap64 ((i : Int) + 1) = ((i + 1 : Nat) : Int) := by rw [w64_id (by omega) (by omega)]; omega
    rw [if_pos (by omega), hwr]
    cases p with
    | true =>
      rw [if_pos rfl]
      refine ih k (i + 1) true (by omega) (by omega) ⟨fun _ => ?_, fun _ => rfl⟩
      obtain ⟨j, hj, hb2⟩ := hp.1 rfl
      exact ⟨j, by omega, hb2⟩
    | false =>
      rw [if_neg (by decide), if_pos (by omega)]
      refine ih k (i + 1) _ (by omega) (by omega) ?_
      have hsh : shl .u64 1 (i : Int) = ((2 ^ i : Nat) : Int) := by
        unfold shl
        have : min ((i : Int).toNat) IntKind.u64.bits = i := by
          have : IntKind.u64.bits = 64 := rfl
          rw [this, Int.toNat_natCast]
          omega
        rw [this, Int.one_mul]
        have h2 : ((2 ^ i : Nat) : Int) = (2 : Int) ^ i := by simp
        rw [← h2]
        refine uwrap_id (Int.natCast_nonneg _) ?_
        have : 2 ^ i < 2 ^ 64 := Nat.pow_lt_pow_right (by decide) (by omega)
        have h3 : (2 : Nat) ^ 64 = 18446744073709551616 := by decide
        generalize 2 ^ i = q at *
        omega
      rw [hsh, beq_iff_eq]
      constructor
      · intro h
        exact ⟨i, by omega, h⟩
      · rintro ⟨j, hj, hbj⟩
        by_cases hji : j = i
        · rw [← hji]; exact hbj
        · exact absurd (hp.2 ⟨j, by omega, hbj⟩) (by decide)

theorem sum_two (x y : Int) (hx : 0 ≤ x) (hx1 : x < 18446744073709551616) (hy : 0 ≤ y) : span_Sum.f 100 [x, y] = if x + y < 18446744073709551616 then some (x + y, none) else some (0, some 28) := by
  have hw0 : wrap64 (0 + 1) = 1 := w64_id (by omega) (by omega)
  have hw1 : wrap64 (1 + 1) = 2 := w64_id (by omega) (by omega)
  have r0 : rd [x, y] 0 = x := rfl
  have r1 : rd [x, y] 1 = y := rfl
  have hl : (([x, y] : List Int).length : Int) = 2 := rfl
  unfold span_Sum.f
  rw [hl, span_Sum.l0, hl, if_pos (by omega), if_pos (by omega), if_pos (by omega), if_pos (by omega), r0, if_pos hx, if_neg (by omega), hw0, show (0 + x) % 18446744073709551616 = x by omega]
  rw [span_Sum.l0, hl, if_pos (by omega), if_pos (by omega), if_pos (by omega), if_pos hx, r1, if_pos hy, hw1]
  by_cases h : x + y < 18446744073709551616
  · rw [if_neg (by omega), if_pos h, show (x + y) % 18446744073709551616 = x + y by omega, span_Sum.l0, if_neg (by omega)]
  · rw [if_pos (by omega), if_neg h]

theorem ups (a b : Int) (ha : 0 ≤ a ∧ a < 18446744073709551616) (hb : 0 ≤ b ∧ b < 18446744073709551616) :
    ∃ v e c, span_Up.f 100 a b = some (v, e) ∧ shackleref01_Up.f 100 a b = some (v, c) ∧ shacklelaw00_Code.f e = some c := by
  have hr : shackleref01_Up.f 100 a b = _ := power_search a b ha hb 64 100 0 false rfl (by omega) ⟨(fun h => by cases h), (fun ⟨j, hj, _⟩ => by omega)⟩
  obtain ⟨n, rfl⟩ := Int.eq_ofNat_of_zero_le hb.1
  have hone := ones n (by omega)
  have hpow : (∃ j, j < 64 ∧ ((n : Nat) : Int) = ((2 ^ j : Nat) : Int)) ↔ swar n = 1 := by
    rw [swar_one n (by omega)]
    exact ⟨fun ⟨j, hj, h⟩ => ⟨j, hj, by omega⟩, fun ⟨j, hj, h⟩ => ⟨j, hj, by rw [h]⟩⟩
  unfold span_Up.f
  rw [hr, hone, Option.bind_some]
  by_cases h1 : swar n = 1
  · rw [if_pos (hpow.2 h1), if_pos (by omega)]
    obtain ⟨j, hj, hn⟩ := (swar_one n (by omega)).1 h1
    have hpos : 0 < n := by rw [hn]; exact Nat.two_pow_pos j
    have hm1 : IntKind.u64.wrap ((n : Int) - 1) = (n : Int) - 1 := uwrap_id (by omega) (by omega)
    obtain ⟨m, rfl⟩ := Int.eq_ofNat_of_zero_le ha.1
    -- a power of two below 2^64 divides 2^64
    have hdiv : 18446744073709551616 = n * 2 ^ (64 - j) := by rw [hn, ← Nat.pow_add, show j + (64 - j) = 64 by omega]
    have hmod := Nat.div_add_mod m n
    have hlt := Nat.mod_lt m hpos
    have hcast : ((m : Int) % (n : Int)) = ((m % n : Nat) : Int) := by simp
    rw [hm1, hcast]
    have hsum := sum_two (m : Int) ((n : Int) - 1) (by omega) (by omega) (by omega)
    rw [hsum]
    by_cases h0 : m % n = 0
    · -- a multiple stays
      have hfit : m + (n - 1) < 18446744073709551616 := by
        have hq : m / n < 2 ^ (64 - j) := by rw [Nat.div_lt_iff_lt_mul hpos, Nat.mul_comm, ← hdiv]; omega
        have : n * (m / n + 1) ≤ n * 2 ^ (64 - j) := Nat.mul_le_mul_left n hq
        rw [← hdiv, Nat.mul_add, Nat.mul_one] at this
        omega
      refine ⟨m, none, 0, ?_, by rw [if_pos (by omega)], rfl⟩
      rw [if_pos (by omega)]
      simp only [Option.bind_some, Option.isNone_none, if_true]
      have hc1 : (m : Int) + ((n : Int) - 1) = ((m + (n - 1) : Nat) : Int) := by omega
      have hc2 : (n : Int) - 1 = ((n - 1 : Nat) : Int) := by omega
      rw [hc1, hc2, u64_andNot_nat _ _ hfit (by omega), hn, andNot_pow _ j (by rw [← hn]; exact hfit) hj, ← hn]
      have hx : (m + (n - 1)) % n = n - 1 := by
        rw [Nat.add_mod, h0, Nat.zero_add, Nat.mod_mod]
        exact Nat.mod_eq_of_lt (by omega)
      rw [hx]
      congr 2
      omega
    · by_cases hfit : m + (n - m % n) < 18446744073709551616
      · have hfit2 : m + (n - 1) < 18446744073709551616 := by
          have hq : m / n + 1 < 2 ^ (64 - j) := by
            have h5 : n * (m / n + 1) < n * 2 ^ (64 - j) := by rw [← hdiv, Nat.mul_add, Nat.mul_one]; omega
            exact Nat.lt_of_mul_lt_mul_left h5
          have : n * (m / n + 1 + 1) ≤ n * 2 ^ (64 - j) := Nat.mul_le_mul_left n hq
          rw [← hdiv, Nat.mul_add, Nat.mul_add, Nat.mul_one] at this
          omega
        refine ⟨((m + (n - m % n) : Nat) : Int), none, 0, ?_, ?_, rfl⟩
        · rw [if_pos (by omega)]
          simp only [Option.bind_some, Option.isNone_none, if_true]
          have hc1 : (m : Int) + ((n : Int) - 1) = ((m + (n - 1) : Nat) : Int) := by omega
          have hc2 : (n : Int) - 1 = ((n - 1 : Nat) : Int) := by omega
          rw [hc1, hc2, u64_andNot_nat _ _ hfit2 (by omega), hn, andNot_pow _ j (by rw [← hn]; exact hfit2) hj, ← hn]
          have hx : (m + (n - 1)) % n = m % n - 1 := by
            have : m + (n - 1) = (m % n - 1) + n * (m / n + 1) := by rw [Nat.mul_add, Nat.mul_one]; omega
            rw [this, Nat.add_mul_mod_self_left]
            exact Nat.mod_eq_of_lt (by omega)
          rw [hx]
          congr 3
          omega
        · rw [if_neg (by omega), if_neg (by omega)]
          congr 2
          omega
      · refine ⟨0, some 28, 28, ?_, ?_, by decide +kernel⟩
        · rw [if_neg (by omega)]
          simp
        · rw [if_neg (by omega), if_pos (by omega)]
  · rw [if_neg (fun h => h1 (hpow.1 h)), if_neg (by omega)]
    exact ⟨0, some 1, 1, rfl, rfl, by decide +kernel⟩

theorem SpanUps : shacklelaw01_SpanUps.Pure := by
  intro a b ha hb
  obtain ⟨v, e, c, p, q, r⟩ := ups a b (lit_u64 ha) (lit_u64 hb)
  refine ⟨100, ?_⟩
  unfold shacklelaw01_SpanUps.f
  rw [shown_holds, p, q]
  simp [r]
end Go.Proofs.Ythhlnhbmjkjmlaa.Pure
