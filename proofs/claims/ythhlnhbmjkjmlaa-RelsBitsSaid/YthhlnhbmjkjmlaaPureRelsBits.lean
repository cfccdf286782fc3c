/- shacklelaw09.RelsBits: the pure statement: an odd number behind an address stands for the addresses of its bits alone. No condition beyond the arguments' own bounds. -/
import Derived.Test.YthhlnhbmjkjmlaaPRelsBitsx3
import Derived.Test.YthhlnhbmjkjmlaaXPure
import Derived.Laws.BitsLemmas
set_option linter.unusedSimpArgs false
set_option linter.unusedVariables false
namespace Go.Proofs.Ythhlnhbmjkjmlaa.Pure
open Go.RowKit Go.Proofs.Ythhlnhbmjkjmlaa.PRelsBits Go.Proofs.YthhlnhbmjkjmlaaW.PrintWords Go.Proofs.YthhlnhbmjkjmlaaW.PrintLast Go.Proofs.YthhlnhbmjkjmlaaW.PrintMore Go.Proofs.YthhlnhbmjkjmlaaX

theorem up_holds : shacklelaw09_up.f 100 = some true := by decide +kernel

theorem and1 (x : Int) (h0 : 0 ≤ x) (h1 : x < 18446744073709551616) : Go.bits .and .u64 x 1 = x % 2 :=
  bits_mask .u64 64 (by decide) (fun n h0 h1 => uwrap_id h0 h1) 1 (by decide) x h0 h1

theorem shr_nat (W : Nat) (i : Nat) (h : i ≤ 64) : shr .u64 (W : Int) (i : Int) = ((W / 2 ^ i : Nat) : Int) := by
  unfold shr
  have : min ((i : Int).toNat) IntKind.u64.bits = i := by
    have : IntKind.u64.bits = 64 := rfl
    rw [this, Int.toNat_natCast]
    omega
  rw [this]
  have h2 : ((2 ^ i : Nat) : Int) = (2 : Int) ^ i := by simp
  rw [← h2]
  exact (Int.natCast_ediv W (2 ^ i)).symm

/-- the addresses of the bits from place i on, d of them -/
def taken (nx : Int) (W : Nat) : Nat → Nat → List Int
  | _, 0 => []
  | i, d + 1 => (if W / 2 ^ (i + 1) % 2 = 1 then [IntKind.u64.wrap (nx + 8 * (i : Int))] else []) ++ taken nx W (i + 1) d
theorem taken_length (nx : Int) (W : Nat) : ∀ d i, (taken nx W i d).length ≤ d := by
  intro d
  induction d with
  | zero => intro i; simp [taken]
  | succ d ih =>
    intro i
    have := ih (i + 1)
    simp only [taken, List.length_append]
    split <;> simp <;> omega

theorem unpack_bits (A nx : Int) (W : Nat) (hW : W < 18446744073709551616) (d : Nat) : ∀ (k i K : Nat) (acc : List Int), K = k + d + 2 → i + d = 63 → acc.length ≤ i + 1 →
    rels_Unpack.l1 K acc nx (W : Int) [A, (W : Int)] 2 1 (i : Int) = some (acc ++ taken nx W i d, none) := by
  induction d with
  | zero =>
    intro k i K acc hK hi ha
    obtain rfl : i = 63 := by omega
    have hw : wrap64 (1 + 1) = 2 := w64_id (by omega) (by omega)
    rw [show K = (k + 1) + 1 by omega, rels_Unpack.l1, if_neg (by omega), if_neg (by omega), hw, rels_Unpack.l0, if_neg (by omega)]
    simp [taken]
  | succ d ih =>
    intro k i K acc hK hi ha
    have hi1 : IntKind.u64.wrap ((i : Int) + 1) = ((i + 1 : Nat) : Int) := by rw [uwrap_id (by omega) (by omega)]; omega
    have hlt : W / 2 ^ (i + 1) < 18446744073709551616 := Nat.lt_of_le_of_lt (Nat.div_le_self _ _) hW
    have h8 : IntKind.u64.wrap (8 * (i : Int)) = 8 * (i : Int) := uwrap_id (by omega) (by omega)
    rw [show K = (k + d + 2) + 1 by omega, rels_Unpack.l1, if_pos (by omega), hi1, if_pos (by omega), shr_nat W (i + 1) (by omega), and1 _ (Int.natCast_nonneg _) (Int.ofNat_lt.2 hlt), h8]
    by_cases hb : W / 2 ^ (i + 1) % 2 = 1
    · rw [if_pos (by omega), if_pos (by omega), ih k (i + 1) (k + d + 2) _ rfl (by omega) (by simp; omega)]
      simp [taken, hb]
    · rw [if_neg (by omega), ih k (i + 1) (k + d + 2) _ rfl (by omega) (by omega)]
      simp [taken, hb]

theorem law_bits (A nx : Int) (W : Nat) (hW : W < 18446744073709551616) (hnx : nx = IntKind.u64.wrap (A + 8)) (l : List Int) (hl : l.length ≤ 1000) (d : Nat) : ∀ (k i : Nat) (pre : List Int), i + d = 63 → d < k → l = pre ++ taken nx W i d →
    shacklelaw09_RelsBits.l0 k A ((W / 2 ^ i : Nat) : Int) true l (pre.length : Int) ((i + 1 : Nat) : Int) = some true := by
  induction d with
  | zero =>
    intro k i pre hi hk he
    obtain ⟨k, rfl⟩ : ∃ m, k = m + 1 := ⟨k - 1, by omega⟩
    rw [shacklelaw09_RelsBits.l0, if_neg (by omega)]
    simp [taken] at he
    rw [he]
    simp
  | succ d ih =>
    intro k i pre hi hk he
    obtain ⟨k, rfl⟩ : ∃ m, k = m + 1 := ⟨k - 1, by omega⟩
    have hlt : W / 2 ^ i < 18446744073709551616 := Nat.lt_of_le_of_lt (Nat.div_le_self _ _) hW
    have hlt1 : W / 2 ^ (i + 1) < 18446744073709551616 := Nat.lt_of_le_of_lt (Nat.div_le_self _ _) hW
    have hhalf : IntKind.u64.wrap (Int.tdiv ((W / 2 ^ i : Nat) : Int) 2) = ((W / 2 ^ (i + 1) : Nat) : Int) := by
      rw [Nat.pow_succ, ← Nat.div_div_eq_div_mul]
      generalize W / 2 ^ i = q at *
      rw [Int.tdiv_eq_ediv_of_nonneg (by omega), uwrap_id (by omega) (by omega)]
      omega
    have hi1 : IntKind.u64.wrap (((i + 1 : Nat) : Int) + 1) = ((i + 1 + 1 : Nat) : Int) := by rw [uwrap_id (by omega) (by omega)]; omega
    have hmod : Int.tmod ((W / 2 ^ (i + 1) : Nat) : Int) 2 = ((W / 2 ^ (i + 1) % 2 : Nat) : Int) := by
      generalize W / 2 ^ (i + 1) = q at *
      rw [Int.tmod_eq_emod_of_nonneg (by omega)]
      omega
    have hll : l.length = pre.length + (taken nx W i (d + 1)).length := by rw [he, List.length_append]
    rw [shacklelaw09_RelsBits.l0, if_pos (by omega), hhalf, hmod]
    by_cases hb : W / 2 ^ (i + 1) % 2 = 1
    · have ht : taken nx W i (d + 1) = IntKind.u64.wrap (nx + 8 * (i : Int)) :: taken nx W (i + 1) d := by simp [taken, hb]
      rw [ht] at he hll
      simp only [List.length_cons] at hll
      have hr : rd l (pre.length : Int) = IntKind.u64.wrap (A + IntKind.u64.wrap (8 * ((i + 1 : Nat) : Int))) := by
        rw [rd_nat, he]
        simp only [List.getD_eq_getElem?_getD, List.getElem?_append_right (Nat.le_refl _), Nat.sub_self, List.getElem?_cons_zero, Option.getD_some]
        rw [hnx]
        simp only [uwrap]
        omega
      have hw1 : wrap64 ((pre.length : Int) + 1) = ((pre ++ [IntKind.u64.wrap (nx + 8 * (i : Int))]).length : Int) := by rw [w64_id (by omega) (by omega)]; simp
      rw [if_pos (by omega), if_neg (by omega), if_pos (by omega), if_pos (by omega), if_pos hr, hi1, hw1]
      exact ih k (i + 1) _ (by omega) (by omega) (by rw [he]; simp)
    · have ht : taken nx W i (d + 1) = taken nx W (i + 1) d := by simp [taken, hb]
      rw [ht] at he
      rw [if_neg (by omega), hi1]
      exact ih k (i + 1) pre (by omega) (by omega) he

theorem unpack_two (k A W : Nat) (hA : A < 18446744073709551616) (hAe : A % 2 = 0) (hW : W < 18446744073709551616) (hWo : W % 2 = 1) :
    rels_Unpack.f (k + 67) [(A : Int), (W : Int)] = some ((A : Int) :: taken (IntKind.u64.wrap ((A : Int) + 8)) W 0 63, none) := by
  have hl : (([(A : Int), (W : Int)] : List Int).length : Int) = 2 := rfl
  have r0 : rd [(A : Int), (W : Int)] 0 = A := rfl
  have r1 : rd [(A : Int), (W : Int)] 1 = W := rfl
  have w1 : wrap64 (0 + 1) = 1 := w64_id (by omega) (by omega)
  have hlen : ([] : List Int).length < 17592186044416 := by decide
  have h := unpack_bits (A : Int) (IntKind.u64.wrap ((A : Int) + 8)) W hW 63 k 0 (k + 65) [(A : Int)] (by omega) (by omega) (by simp)
  rw [List.singleton_append] at h
  have c0 : ((0 : Nat) : Int) = 0 := rfl
  rw [c0] at h
  unfold rels_Unpack.f
  rw [hl, show k + 67 = (k + 66) + 1 by omega, rels_Unpack.l0, hl, if_pos (by omega), if_pos (by omega), if_pos (by omega), r0, and1 _ (by omega) (by omega), if_pos (by omega), if_pos hlen, Option.bind_some, List.nil_append, List.length_singleton]
  rw [if_neg (by omega), w1, show k + 66 = (k + 65) + 1 by omega, rels_Unpack.l0, hl, if_pos (by omega), if_pos (by omega), if_pos (by omega), r1, and1 _ (by omega) (by omega), if_neg (by omega), if_neg (by omega)]
  exact h

theorem RelsBits : shacklelaw09_RelsBits.Pure := by
  intro addr word ha hw
  have ha := lit_u64 ha
  have hw := lit_u64 hw
  obtain ⟨a, rfl⟩ := Int.eq_ofNat_of_zero_le ha.1
  obtain ⟨v, rfl⟩ := Int.eq_ofNat_of_zero_le hw.1
  refine ⟨100, ?_⟩
  unfold shacklelaw09_RelsBits.f
  have eA : IntKind.u64.wrap ((IntKind.u64.wrap (Int.tdiv (a : Int) 2)) * 2) = ((a / 2 * 2 : Nat) : Int) := by
    rw [Int.tdiv_eq_ediv_of_nonneg (by omega), uwrap_id (show (0 : Int) ≤ (a : Int) / 2 by omega) (by omega), uwrap_id (by omega) (by omega)]
    omega
  have eW : IntKind.u64.wrap ((IntKind.u64.wrap ((IntKind.u64.wrap (Int.tdiv (v : Int) 2)) * 2)) + 1) = ((v / 2 * 2 + 1 : Nat) : Int) := by
    rw [Int.tdiv_eq_ediv_of_nonneg (by omega), uwrap_id (show (0 : Int) ≤ (v : Int) / 2 by omega) (by omega), uwrap_id (show (0 : Int) ≤ (v : Int) / 2 * 2 by omega) (by omega), uwrap_id (by omega) (by omega)]
    omega
  rw [up_holds, eA, eW]
  have hA : a / 2 * 2 < 18446744073709551616 := by omega
  have hAe : a / 2 * 2 % 2 = 0 := by omega
  have hW : v / 2 * 2 + 1 < 18446744073709551616 := by omega
  have hWo : (v / 2 * 2 + 1) % 2 = 1 := by omega
  generalize a / 2 * 2 = A at *
  generalize v / 2 * 2 + 1 = W at *
  have hun : rels_Unpack.f 100 [(A : Int), (W : Int)] = _ := unpack_two 33 A W hA hAe hW hWo
  have htl := taken_length (IntKind.u64.wrap ((A : Int) + 8)) W 63 0
  rw [hun]
  simp only [Option.bind_some, Option.isNone_none, if_true, List.length_cons]
  rw [if_neg (by omega), if_pos (by omega)]
  have hr0 : (rd ((A : Int) :: taken (IntKind.u64.wrap ((A : Int) + 8)) W 0 63) 0 != (A : Int)) = false := by
    have : rd ((A : Int) :: taken (IntKind.u64.wrap ((A : Int) + 8)) W 0 63) 0 = A := rfl
    rw [this]
    simp
  rw [hr0, shacklelaw09_RelsBits.j0, if_neg (by decide)]
  have := law_bits (A : Int) (IntKind.u64.wrap ((A : Int) + 8)) W hW rfl ((A : Int) :: taken (IntKind.u64.wrap ((A : Int) + 8)) W 0 63) (by simp; omega) 63 99 0 [(A : Int)] (by omega) (by omega) (List.singleton_append).symm
  rw [Nat.pow_zero, Nat.div_one] at this
  exact this
end Go.Proofs.Ythhlnhbmjkjmlaa.Pure
