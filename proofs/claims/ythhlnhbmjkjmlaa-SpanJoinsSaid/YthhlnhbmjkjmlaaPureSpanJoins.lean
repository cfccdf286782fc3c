/- shacklelaw01.SpanJoins: the pure statement: numbers become bytes, one behind the other, or are refused. No condition beyond the arguments' own bounds. -/
import Derived.Test.YthhlnhbmjkjmlaaPSpanJoinsx3
import Derived.Test.YthhlnhbmjkjmlaaXPure
import Derived.Lib.BitFns
set_option linter.unusedSimpArgs false
set_option linter.unusedVariables false
namespace Go.Proofs.Ythhlnhbmjkjmlaa.Pure
open Go.RowKit Go.Proofs.Ythhlnhbmjkjmlaa.PSpanJoins Go.Proofs.YthhlnhbmjkjmlaaW.PrintWords Go.Proofs.YthhlnhbmjkjmlaaW.PrintLast Go.Proofs.YthhlnhbmjkjmlaaW.PrintMore Go.Proofs.YthhlnhbmjkjmlaaX

theorem shown_holds : shacklelaw01_shown.f 100 = some true := by decide +kernel

/-- a number's n lowest bytes, the lowest first -/
def bytesLE : Nat → Int → List Int
  | 0, _ => []
  | n + 1, v => v % 256 :: bytesLE n (v / 256)
theorem bytesLE_length (n : Nat) : ∀ v, (bytesLE n v).length = n := by
  induction n with
  | zero => intro v; rfl
  | succ n ih => intro v; simp [bytesLE, ih]
def leftOver : Nat → Int → Int
  | 0, v => v
  | n + 1, v => leftOver n (v / 256)

theorem bitLen_gt (x k : Nat) (hk : k ≤ 64) (h : x < 18446744073709551616) : k < Go.Lib.bitLen x ↔ 2 ^ k ≤ x := by
  constructor
  · intro h1
    rcases Nat.lt_or_ge x (2 ^ k) with h2 | h2
    · have := Go.Lib.bitLen_le x k hk h2
      omega
    · exact h2
  · intro h1
    have h64 : x < 2 ^ 64 := by have : (2 : Nat) ^ 64 = 18446744073709551616 := by decide
                                omega
    rw [Go.Lib.bitLen_shift k x h1 h64]
    have hq : x / 2 ^ k ≠ 0 := by
      have := Nat.div_pos h1 (Nat.two_pow_pos k)
      omega
    rw [Go.Lib.bitLen_half _ hq (Nat.lt_of_le_of_lt (Nat.div_le_self _ _) h64)]
    omega

theorem leftOver_zero (n : Nat) : ∀ (x : Nat), (leftOver n (x : Int) = 0 ↔ x < 2 ^ (8 * n)) := by
  induction n with
  | zero => intro x; simp [leftOver]
  | succ n ih =>
    intro x
    have h1 : ((x : Nat) : Int) / 256 = ((x / 256 : Nat) : Int) := by omega
    rw [leftOver, h1, ih, Nat.div_lt_iff_lt_mul (by decide), show 8 * (n + 1) = 8 * n + 8 by omega, Nat.pow_add]

theorem join_bytes (n : Int) (l : List Int) (len i : Int) (hn : n ≤ 8) (d : Nat) : ∀ (k : Nat) (c v : Int) (acc : List Int), c + d = n → 0 ≤ c → acc.length + d < 140737488355328 →
    span_Join.l1 (k + d + 1) n acc v l len i n c = span_Join.l0 k n (acc ++ bytesLE d v) l len (wrap64 (i + 1)) := by
  induction d with
  | zero =>
    intro k c v acc hc h0 hl
    rw [span_Join.l1, if_neg (by omega)]
    simp [bytesLE]
  | succ d ih =>
    intro k c v acc hc h0 hl
    rw [show k + (d + 1) + 1 = (k + d + 1) + 1 by omega, span_Join.l1]
    have hwr : wrap64 (c + 1) = c + 1 := w64_id (by omega) (by omega)
    rw [if_pos (by omega), if_pos (by omega), hwr]
    have := ih k (c + 1) (v / 256) (acc ++ [v % 256]) (by omega) (by omega) (by simp; omega)
    rw [this]
    simp [bytesLE]

theorem ref_bytes (n : Int) (hn : n ≤ 8) (d : Nat) : ∀ (k : Nat) (c v : Int) (acc : List Int), c + d = n → 0 ≤ c → d < k → 0 ≤ v → v < 18446744073709551616 → acc.length + d < 140737488355328 →
    shackleref01_Bytes.l0 k n v acc c = some (acc ++ bytesLE d v, leftOver d v == 0) := by
  induction d with
  | zero =>
    intro k c v acc hc h0 hk hv hv1 hl
    obtain ⟨k, rfl⟩ : ∃ m, k = m + 1 := ⟨k - 1, by omega⟩
    rw [shackleref01_Bytes.l0]
    rw [if_neg (by omega)]
    simp [bytesLE, leftOver]
  | succ d ih =>
    intro k c v acc hc h0 hk hv hv1 hl
    obtain ⟨k, rfl⟩ : ∃ m, k = m + 1 := ⟨k - 1, by omega⟩
    rw [shackleref01_Bytes.l0]
    have hwr : wrap64 (c + 1) = c + 1 := w64_id (by omega) (by omega)
    have h1 : Int.tdiv v 256 = v / 256 := Int.tdiv_eq_ediv_of_nonneg hv
    have h2 : Int.tmod v 256 = v % 256 := Int.tmod_eq_emod_of_nonneg hv
    rw [if_pos (by omega), if_pos (by omega), hwr, h1, h2, uwrap_id (by omega) (by omega), show v % 256 % 256 = v % 256 by omega]
    have := ih k (c + 1) (v / 256) (acc ++ [v % 256]) (by omega) (by omega) (by omega) (by omega) (by omega) (by simp; omega)
    rw [this]
    simp [bytesLE, leftOver]

theorem code28 : shacklelaw00_Code.f (some 28) = some 28 := by decide +kernel
theorem code1 : shacklelaw00_Code.f (some 1) = some 1 := by decide +kernel

theorem small {a L : Nat} (h : a ≤ 8 * L) (h2 : L * 8 ≤ 140737488351232) : a < 140737488355328 := by omega

theorem joins (n : Nat) (hn : n = 1 ∨ n = 2 ∨ n = 4 ∨ n = 8) (l : List Int) (hl : l.length * 8 ≤ 140737488351232) (hw : ∀ x ∈ l, (Lit.int .u64 x).wf = true) (d : Nat) :
    ∀ (k i : Nat) (acc : List Int), i + d = l.length → d * (n + 2) < k → acc.length = n * i →
    ∃ r e c, span_Join.l0 k n acc l (l.length : Int) (i : Int) = some (r, e) ∧ shackleref01_Join.l0 k n l acc (i : Int) = some (r, c) ∧ shacklelaw00_Code.f e = some c ∧ r.length ≤ 8 * l.length := by
  have hn8 : n ≤ 8 := by omega
  induction d with
  | zero =>
    intro k i acc hi hk ha
    obtain ⟨k, rfl⟩ : ∃ m, k = m + 1 := ⟨k - 1, by omega⟩
    have hlt : ¬ ((i : Int) < (l.length : Int)) := by omega
    refine ⟨acc, none, 0, ?_, ?_, rfl, ?_⟩
    · rw [span_Join.l0]; rw [if_neg hlt]
    · rw [shackleref01_Join.l0]; rw [if_neg hlt]
    · rw [ha, show i = l.length by omega]
      exact Nat.mul_le_mul_right _ hn8
  | succ d ih =>
    intro k i acc hi hk ha
    have hk2 : d * (n + 2) + (n + 2) < k := by rw [Nat.succ_mul] at hk; exact hk
    obtain ⟨k, rfl⟩ : ∃ m, k = m + n + 1 + 1 := ⟨k - n - 2, by omega⟩
    have hlt : (i : Int) < (l.length : Int) := by omega
    have h0i : (0 : Int) ≤ (i : Int) := by omega
    have hx := lit_u64 (hw _ (rd_mem l i (by omega)))
    have hwr : wrap64 ((i : Int) + 1) = ((i + 1 : Nat) : Int) := by rw [w64_id (by omega) (by omega)]; omega
    have hacc : acc.length + n < 140737488355328 := by
      rw [ha]
      have h1 : n * (i + 1) ≤ 8 * l.length := Nat.mul_le_mul hn8 (by omega)
      rw [Nat.mul_add, Nat.mul_one] at h1
      exact small h1 hl
    obtain ⟨x, hxe⟩ := Int.eq_ofNat_of_zero_le hx.1
    have hx64 : x < 18446744073709551616 := by rw [hxe] at hx; omega
    have hlen : bits_Len64.f (rd l (i : Int)) = some ((Go.Lib.bitLen x : Nat) : Int) := by
      unfold bits_Len64.f
      rw [if_pos hx.1, if_pos (by omega), hxe, Int.toNat_natCast]
    have hw8 : wrap64 (8 * (n : Int)) = 8 * (n : Int) := w64_id (by omega) (by omega)
    have hbytes := ref_bytes (n : Int) (by omega) n (k + n + 1) 0 (rd l (i : Int)) [] (by omega) (by omega) (by omega) hx.1 hx.2 (by simp; omega)
    have hbf : shackleref01_Bytes.f (k + n + 1) (n : Int) (rd l (i : Int)) = some (bytesLE n (rd l (i : Int)), leftOver n (rd l (i : Int)) == 0) := hbytes
    by_cases hfit : x < 2 ^ (8 * n)
    · have hz : leftOver n (rd l (i : Int)) = 0 := by rw [hxe]; exact (leftOver_zero n x).2 hfit
      have hng : ¬ ((Go.Lib.bitLen x : Nat) : Int) > 8 * (n : Int) := by
        intro h
        have := (bitLen_gt x (8 * n) (by omega) hx64).1 (by omega)
        omega
      obtain ⟨r, e, c, p1, p2, p3, p4⟩ := ih k (i + 1) (acc ++ bytesLE n (rd l (i : Int))) (by omega) (by omega) (by rw [List.length_append, bytesLE_length, ha, Nat.mul_add, Nat.mul_one])
      refine ⟨r, e, c, ?_, ?_, p3, p4⟩
      · rw [span_Join.l0]
        rw [if_pos hlt, if_pos h0i, if_pos hlt, hlen, Option.bind_some, hw8, if_neg hng, join_bytes (n : Int) l (l.length : Int) (i : Int) (by omega) n k 0 (rd l (i : Int)) acc (by omega) (by omega) (by omega), hwr]
        exact p1
      · rw [shackleref01_Join.l0]
        rw [if_pos hlt, if_pos h0i, hbf, Option.bind_some]
        simp only [hz, beq_self_eq_true, if_true, bytesLE_length]
        rw [if_pos (by omega), hwr]
        have := at_rounds (g := fun k => shackleref01_Join.l0 k (n : Int) l (acc ++ bytesLE n (rd l (i : Int))) ((i + 1 : Nat) : Int)) (fun k => shackleref01_Join.mono_l k _ _ _ _) (k := k) (k' := k + n + 1) (by omega) p2
        exact this
    · have hnz : ¬ leftOver n (rd l (i : Int)) = 0 := by rw [hxe]; exact fun h => hfit ((leftOver_zero n x).1 h)
      have hg : ((Go.Lib.bitLen x : Nat) : Int) > 8 * (n : Int) := by
        have := (bitLen_gt x (8 * n) (by omega) hx64).2 (by omega)
        omega
      refine ⟨[], some 28, 28, ?_, ?_, code28, by simp⟩
      · rw [span_Join.l0]
        rw [if_pos hlt, if_pos h0i, if_pos hlt, hlen, Option.bind_some, hw8, if_pos hg]
      · rw [shackleref01_Join.l0]
        rw [if_pos hlt, if_pos h0i, hbf, Option.bind_some]
        have : (leftOver n (rd l (i : Int)) == 0) = false := by simpa using hnz
        simp [this]

theorem same_self (r : List Int) (hl : r.length ≤ 1000000000000000000) (d : Nat) : ∀ (k i : Nat), i + d = r.length → d < k → shackleref01_Same.l0 k r r (i : Int) = some true := by
  induction d with
  | zero =>
    intro k i hi hk
    obtain ⟨k, rfl⟩ : ∃ m, k = m + 1 := ⟨k - 1, by omega⟩
    rw [shackleref01_Same.l0]
    rw [if_neg (by omega)]
  | succ d ih =>
    intro k i hi hk
    obtain ⟨k, rfl⟩ : ∃ m, k = m + 1 := ⟨k - 1, by omega⟩
    rw [shackleref01_Same.l0]
    have hwr : wrap64 ((i : Int) + 1) = ((i + 1 : Nat) : Int) := by rw [w64_id (by omega) (by omega)]; omega
    rw [if_pos (by omega), if_pos (by omega), if_pos (by omega), if_pos rfl, hwr]
    exact ih k (i + 1) (by omega) (by omega)

theorem SpanJoins : shacklelaw01_SpanJoins.Pure := by
  intro n l hn hg hz
  have hl := hz.1
  have key : ∃ r e c, span_Join.f (20 * l.length + 101) n l = some (r, e) ∧ shackleref01_Join.f (20 * l.length + 101) n l = some (r, c) ∧ shacklelaw00_Code.f e = some c ∧ r.length ≤ 8 * l.length := by
    have wide : (n = 1 ∨ n = 2 ∨ n = 4 ∨ n = 8) ∨ ¬ (n = 1 ∨ n = 2 ∨ n = 4 ∨ n = 8) := Classical.em _
    rcases wide with h | h
    · obtain ⟨m, rfl⟩ : ∃ m : Nat, n = (m : Int) := ⟨n.toNat, by omega⟩
      have hm : m = 1 ∨ m = 2 ∨ m = 4 ∨ m = 8 := by omega
      have hk : l.length * (m + 2) < 20 * l.length + 101 := by
        have : l.length * (m + 2) ≤ l.length * 10 := Nat.mul_le_mul_left _ (by omega)
        omega
      obtain ⟨r, e, c, p1, p2, p3, p4⟩ := joins m hm l hl hg.2 l.length (20 * l.length + 101) 0 [] (by omega) hk (by simp)
      refine ⟨r, e, c, ?_, ?_, p3, p4⟩
      · unfold span_Join.f
        have : span_wide.f (m : Int) = some true := by rcases hm with rfl | rfl | rfl | rfl <;> rfl
        rw [this]
        simp only [Option.bind_some, if_true]
        exact p1
      · unfold shackleref01_Join.f
        have : shackleref01_widths.f (m : Int) = some true := by rcases hm with rfl | rfl | rfl | rfl <;> rfl
        rw [this]
        simp only [Option.bind_some, if_true]
        exact p2
    · refine ⟨[], some 1, 1, ?_, ?_, code1, by simp⟩
      · unfold span_Join.f span_wide.f
        rw [if_neg (by omega), if_neg (by omega), if_neg (by omega), if_neg (by omega)]
        rfl
      · unfold shackleref01_Join.f shackleref01_widths.f
        rw [if_neg (by omega), if_neg (by omega), if_neg (by omega), show (n == 8) = false by simp; omega]
        rfl
  obtain ⟨r, e, c, p1, p2, p3, p4⟩ := key
  refine ⟨20 * l.length + 101, ?_⟩
  have hshown := at_rounds (g := shacklelaw01_shown.f) shacklelaw01_shown.mono (k := 100) (k' := 20 * l.length + 101) (by omega) shown_holds
  have hsame : shackleref01_Same.f (20 * l.length + 101) r r = some true := by
    unfold shackleref01_Same.f
    rw [if_pos rfl]
    exact same_self r (by omega) r.length _ 0 (by omega) (by omega)
  unfold shacklelaw01_SpanJoins.f
  rw [hshown, p1, p2]
  simp [hsame, p3]
end Go.Proofs.Ythhlnhbmjkjmlaa.Pure
