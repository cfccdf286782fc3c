/- shacklelaw01.SpanSums: the pure statement: sums and products are those of the numbers, or refused as beyond 64 bits. No condition beyond the arguments' own bounds. -/
import Derived.Test.YthhlnhbmjkjmlaaPSpanSumsx2
import Derived.Test.YthhlnhbmjkjmlaaXPure
set_option linter.unusedSimpArgs false
set_option linter.unusedVariables false
namespace Go.Proofs.Ythhlnhbmjkjmlaa.Pure
open Go.RowKit Go.Proofs.Ythhlnhbmjkjmlaa.PSpanSums Go.Proofs.YthhlnhbmjkjmlaaW.PrintWords Go.Proofs.YthhlnhbmjkjmlaaW.PrintLast Go.Proofs.YthhlnhbmjkjmlaaX

theorem shown_holds : shacklelaw01_shown.f 100 = some true := by decide +kernel

theorem sums (l : List Int) (hl : l.length ≤ 1000000000000000000) (hw : ∀ x ∈ l, (Lit.int .u64 x).wf = true) (d : Nat) : ∀ (k i : Nat) (s : Int), i + d = l.length → d < k → 0 ≤ s → s < 18446744073709551616 →
    ∃ v e b, span_Sum.l0 k s l (l.length : Int) (i : Int) = some (v, e) ∧ shackleref01_Sum.l0 k l s (i : Int) = some (v, b) ∧ (b = true → e = none) ∧ (b = false → e = some 28) := by
  induction d with
  | zero =>
    intro k i s hi hk h0 h1
    obtain ⟨k, rfl⟩ : ∃ m, k = m + 1 := ⟨k - 1, by omega⟩
    have hlt : ¬ ((i : Int) < (l.length : Int)) := by omega
    exact ⟨s, none, true, by simp only [span_Sum.l0]; rw [if_neg hlt], by simp only [shackleref01_Sum.l0]; rw [if_neg hlt], fun _ => rfl, fun h => by cases h⟩
  | succ d ih =>
    intro k i s hi hk h0 h1
    obtain ⟨k, rfl⟩ : ∃ m, k = m + 1 := ⟨k - 1, by omega⟩
    have hlt : (i : Int) < (l.length : Int) := by omega
    have hx := lit_u64 (hw _ (rd_mem l i (by omega)))
    have h0i : (0 : Int) ≤ (i : Int) := by omega
    by_cases hover : s + rd l i < 18446744073709551616
    · obtain ⟨v, e, b, p1, p2, p3, p4⟩ := ih k (i + 1) (s + rd l i) (by omega) (by omega) (by omega) hover
      have hwr : wrap64 ((i : Int) + 1) = ((i + 1 : Nat) : Int) := by rw [w64_id (by omega) (by omega)]; omega
      refine ⟨v, e, b, ?_, ?_, p3, p4⟩
      · simp only [span_Sum.l0]
        rw [if_pos hlt, if_pos h0i, if_pos hlt, if_pos h0, if_pos hx.1, if_neg (by omega), hwr, show (s + rd l i) % 18446744073709551616 = s + rd l i by omega]
        exact p1
      · simp only [shackleref01_Sum.l0]
        rw [if_pos hlt, if_pos h0i, if_neg (by rw [uwrap_id (by omega) (by omega)]; omega), hwr, uwrap_id (by omega) hover]
        exact p2
    · refine ⟨0, some 28, false, ?_, ?_, (fun h => by cases h), fun _ => rfl⟩
      · simp only [span_Sum.l0]
        rw [if_pos hlt, if_pos h0i, if_pos hlt, if_pos h0, if_pos hx.1, if_pos (by omega)]
      · simp only [shackleref01_Sum.l0]
        rw [if_pos hlt, if_pos h0i, if_pos (by rw [uwrap_id (by omega) (by omega)]; omega)]

theorem times (a b : Int) (ha : 0 ≤ a ∧ a < 18446744073709551616) (hb : 0 ≤ b ∧ b < 18446744073709551616) :
    ∃ v e t, span_Times.f a b = some (v, e) ∧ shackleref01_Times.f a b = some (v, t) ∧ (t = true → e = none) ∧ (t = false → e = some 28) := by
  have hn : 0 ≤ a * b := Int.mul_nonneg ha.1 hb.1
  have hmul : bits_Mul64.f a b = some (a * b / 18446744073709551616, a * b % 18446744073709551616) := by
    unfold bits_Mul64.f
    rw [if_pos ⟨ha.1, by omega, hb.1, by omega⟩]
  by_cases hov : a * b < 18446744073709551616
  · refine ⟨a * b, none, true, ?_, ?_, fun _ => rfl, fun h => by cases h⟩
    · unfold span_Times.f
      rw [hmul]
      simp only [Option.bind_some]
      rw [if_neg (by omega), show a * b % 18446744073709551616 = a * b by omega]
    · unfold shackleref01_Times.f
      rw [uwrap_id hn hov]
      by_cases h0 : a > 0
      · have hle : b ≤ 18446744073709551615 / a := (Int.le_ediv_iff_mul_le h0).2 (by rw [Int.mul_comm]; omega)
        have h2 : Int.tdiv 18446744073709551615 a = 18446744073709551615 / a := Int.tdiv_eq_ediv_of_nonneg (by omega)
        have h3 : 0 ≤ 18446744073709551615 / a := Int.ediv_nonneg (by omega) ha.1
        have h4 : 18446744073709551615 / a ≤ 18446744073709551615 := Int.ediv_le_self _ (by omega)
        rw [if_pos h0, if_neg (by omega), h2, uwrap_id h3 (by omega), if_neg (by omega)]
      · rw [if_neg h0]
  · refine ⟨0, some 28, false, ?_, ?_, (fun h => by cases h), fun _ => rfl⟩
    · unfold span_Times.f
      rw [hmul]
      simp only [Option.bind_some]
      rw [if_pos (by omega)]
    · unfold shackleref01_Times.f
      have h0 : a > 0 := by
        rcases Int.lt_or_eq_of_le ha.1 with h | h
        · exact h
        · rw [← h] at hov; simp at hov
      have hgt : ¬ b ≤ 18446744073709551615 / a := fun h => by
        have := (Int.le_ediv_iff_mul_le h0).1 h
        rw [Int.mul_comm] at this
        omega
      have h2 : Int.tdiv 18446744073709551615 a = 18446744073709551615 / a := Int.tdiv_eq_ediv_of_nonneg (by omega)
      have h3 : 0 ≤ 18446744073709551615 / a := Int.ediv_nonneg (by omega) ha.1
      have h4 : 18446744073709551615 / a ≤ 18446744073709551615 := Int.ediv_le_self _ (by omega)
      rw [if_pos h0, if_neg (by omega), h2, uwrap_id h3 (by omega), if_pos (by omega)]

theorem SpanSums : shacklelaw01_SpanSums.Pure := by
  intro l a b hg hz ha hb
  have hlen : l.length ≤ 1000000000000000000 := by have := hz.1; omega
  obtain ⟨v, e, t, p1, p2, p3, p4⟩ := sums l hlen hg.2 l.length (l.length + 101) 0 0 (by omega) (by omega) (by omega) (by omega)
  obtain ⟨v2, e2, t2, q1, q2, q3, q4⟩ := times a b (lit_u64 ha) (lit_u64 hb)
  refine ⟨l.length + 101, ?_⟩
  have hshown := at_rounds (g := shacklelaw01_shown.f) shacklelaw01_shown.mono (k := 100) (k' := l.length + 101) (by omega) shown_holds
  unfold shacklelaw01_SpanSums.f
  rw [hshown]
  have r1 : span_Sum.f (l.length + 101) l = some (v, e) := p1
  have r2 : shackleref01_Sum.f (l.length + 101) l = some (v, t) := p2
  rw [r1, r2, q1, q2]
  cases t <;> cases t2 <;> simp_all
end Go.Proofs.Ythhlnhbmjkjmlaa.Pure
