/- shacklelaw09.RelsMade: the pure statement: relocations that were laid one behind the other are read again, in their order, whatever they are. No condition beyond the arguments' own bounds. -/
import Derived.Test.YthhlnhbmjkjmlaaPRelsMadex9
import Derived.Test.YthhlnhbmjkjmlaaXPure
set_option linter.unusedSimpArgs false
set_option linter.unusedVariables false
namespace Go.Proofs.Ythhlnhbmjkjmlaa.Pure
open Go.RowKit Go.Proofs.Ythhlnhbmjkjmlaa.PRelsMade Go.Proofs.YthhlnhbmjkjmlaaW.PrintWords Go.Proofs.YthhlnhbmjkjmlaaW.PrintLast Go.Proofs.YthhlnhbmjkjmlaaW.PrintMore Go.Proofs.YthhlnhbmjkjmlaaX

theorem up_holds : shacklelaw09_up.f 100 = some true := by decide +kernel

/-! ### bytes of a number, and back -/
def bytesLE : Nat → Int → List Int
  | 0, _ => []
  | n + 1, v => v % 256 :: bytesLE n (v / 256)
theorem bytesLE_length (n : Nat) : ∀ v, (bytesLE n v).length = n := by
  induction n with
  | zero => intro v; rfl
  | succ n ih => intro v; simp [bytesLE, ih]
theorem bytesLE_byte (n : Nat) : ∀ v, ∀ x ∈ bytesLE n v, 0 ≤ x ∧ x < 256 := by
  induction n with
  | zero => intro v x hx; cases hx
  | succ n ih =>
    intro v x hx
    rcases List.mem_cons.1 hx with rfl | hx
    · omega
    · exact ih _ x hx

def decode : List Int → Nat
  | [] => 0
  | x :: l => x.toNat + 256 * decode l
theorem decode_bytes (n : Nat) : ∀ (v : Nat), decode (bytesLE n (v : Int)) = v % 256 ^ n := by
  induction n with
  | zero => intro v; simp [bytesLE, decode, Nat.mod_one]
  | succ n ih =>
    intro v
    have hc : (v : Int) / 256 = ((v / 256 : Nat) : Int) := by omega
    rw [bytesLE, hc, decode, ih, Nat.pow_succ, Nat.mul_comm (256 ^ n), Nat.mod_mul]
    have : ((v : Int) % 256).toNat = v % 256 := by omega
    rw [this]

theorem or_high (a y s : Nat) (ha : a < 2 ^ s) (hs : a < 18446744073709551616) (hy : y * 2 ^ s < 18446744073709551616) : Go.bits .or .u64 (a : Int) ((y * 2 ^ s : Nat) : Int) = ((a + y * 2 ^ s : Nat) : Int) := by
  have h1 : a ||| (y * 2 ^ s) = a + y * 2 ^ s := by
    rw [Nat.or_comm, Nat.mul_comm y, ← Nat.two_pow_add_eq_or_of_lt ha, Nat.add_comm]
  have e1 : (BitVec.ofInt 64 ((a : Nat) : Int)).toNat = a := by
    rw [BitVec.ofInt_natCast, BitVec.toNat_ofNat]
    exact Nat.mod_eq_of_lt (by omega)
  have e2 : (BitVec.ofInt 64 ((y * 2 ^ s : Nat) : Int)).toNat = y * 2 ^ s := by
    rw [BitVec.ofInt_natCast, BitVec.toNat_ofNat]
    exact Nat.mod_eq_of_lt (by omega)
  have hlt : a ||| (y * 2 ^ s) < 2 ^ 64 := Nat.or_lt_two_pow (by omega) (by omega)
  show IntKind.u64.wrap (((BitVec.ofInt 64 ((a : Nat) : Int)) ||| (BitVec.ofInt 64 ((y * 2 ^ s : Nat) : Int))).toNat : Int) = _
  rw [BitVec.toNat_or, e1, e2, ← h1]
  exact uwrap_id (Int.natCast_nonneg _) (by omega)

theorem and_bound (x : Int) : 0 ≤ Go.bits .and .i64 x 2147483647 ∧ Go.bits .and .i64 x 2147483647 < 2147483648 := by
  have e2 : (BitVec.ofInt 64 (2147483647 : Int)).toNat = 2147483647 := by decide
  have h : Go.bits .and .i64 x 2147483647 = IntKind.i64.wrap (((BitVec.ofInt 64 x) &&& (BitVec.ofInt 64 (2147483647 : Int))).toNat : Int) := rfl
  have h2 : ((BitVec.ofInt 64 x) &&& (BitVec.ofInt 64 (2147483647 : Int))).toNat ≤ 2147483647 := by
    rw [BitVec.toNat_and, e2]
    exact Nat.and_le_right
  rw [h]
  generalize ((BitVec.ofInt 64 x) &&& (BitVec.ofInt 64 (2147483647 : Int))).toNat = q at h2
  rw [IntKind.wrap_i64]
  omega

theorem number_loop (bs : List Int) (h8 : bs.length ≤ 8) (hb : ∀ x ∈ bs, 0 ≤ x ∧ x < 256) (d : Nat) : ∀ (k i a : Nat), i + d = bs.length → a < 2 ^ (8 * i) →
    rels_number.l0 (k + d + 1) (a : Int) bs (bs.length : Int) (i : Int) = some ((a + 2 ^ (8 * i) * decode (bs.drop i) : Nat) : Int) := by
  induction d with
  | zero =>
    intro k i a hi ha
    rw [rels_number.l0, if_neg (by omega), List.drop_of_length_le (by omega), decode, Nat.mul_zero, Nat.add_zero]
  | succ d ih =>
    intro k i a hi ha
    have hil : i < bs.length := by omega
    have hx := hb _ (rd_mem bs i hil)
    obtain ⟨y, hy⟩ := Int.eq_ofNat_of_zero_le hx.1
    have hy2 : y < 256 := by omega
    have hw1 : wrap64 (8 * (i : Int)) = ((8 * i : Nat) : Int) := by rw [w64_id (by omega) (by omega)]; omega
    have hwi : wrap64 ((i : Int) + 1) = ((i + 1 : Nat) : Int) := by rw [w64_id (by omega) (by omega)]; omega
    have hwy : IntKind.u64.wrap (y : Int) = (y : Int) := uwrap_id (by omega) (by omega)
    have hi8 : 8 * i ≤ 56 := by omega
    have hp : 2 ^ (8 * i) ≤ 2 ^ 56 := Nat.pow_le_pow_right (by decide) hi8
    have hp56 : (2 : Nat) ^ 56 = 72057594037927936 := by decide
    have hyp : y * 2 ^ (8 * i) < 18446744073709551616 := by
      have : y * 2 ^ (8 * i) ≤ 255 * 2 ^ 56 := Nat.mul_le_mul (by omega) hp
      omega
    have hshl : shl .u64 (y : Int) ((8 * i : Nat) : Int) = ((y * 2 ^ (8 * i) : Nat) : Int) := by
      unfold shl
      have h1 : min (((8 * i : Nat) : Int).toNat) IntKind.u64.bits = 8 * i := by
        have h2 : IntKind.u64.bits = 64 := rfl
        rw [h2, Int.toNat_natCast]
        omega
      have h2 : (2 : Int) ^ (8 * i) = ((2 ^ (8 * i) : Nat) : Int) := by simp
      rw [h1, h2]
      have h3 : (y : Int) * ((2 ^ (8 * i) : Nat) : Int) = ((y * 2 ^ (8 * i) : Nat) : Int) := by simp
      rw [h3]
      exact uwrap_id (Int.natCast_nonneg _) (Int.ofNat_lt.2 hyp)
    have hnext : a + y * 2 ^ (8 * i) < 2 ^ (8 * (i + 1)) := by
      have e : 2 ^ (8 * (i + 1)) = 2 ^ (8 * i) * 256 := by rw [Nat.mul_add, Nat.pow_add]
      rw [e]
      have : (y + 1) * 2 ^ (8 * i) ≤ 256 * 2 ^ (8 * i) := Nat.mul_le_mul_right _ (by omega)
      rw [Nat.add_mul, Nat.one_mul] at this
      generalize 2 ^ (8 * i) = P at *
      generalize y * P = Q at *
      omega
    rw [show k + (d + 1) + 1 = (k + d + 1) + 1 by omega, rels_number.l0, if_pos (by omega), if_pos (Int.natCast_nonneg _), if_pos (by omega), hw1, if_pos (Int.natCast_nonneg _), hy, hwy, hshl, or_high a y _ ha (by omega) hyp, hwi,
      ih k (i + 1) _ (by omega) hnext, drop_at bs i hil, decode, hy]
    have e : 2 ^ (8 * (i + 1)) = 2 ^ (8 * i) * 256 := by rw [Nat.mul_add, Nat.pow_add]
    rw [e, Int.toNat_natCast]
    congr 2
    rw [Nat.mul_add, Nat.mul_assoc, Nat.mul_comm y]
    omega

theorem number_of (m : Nat) (hm : m ≤ 8) (v k : Nat) (hk : 9 ≤ k) : rels_number.f k (bytesLE m (v : Int)) = some ((v % 256 ^ m : Nat) : Int) := by
  obtain ⟨k, rfl⟩ : ∃ q, k = q + m + 1 := ⟨k - m - 1, by omega⟩
  have hl := bytesLE_length m (v : Int)
  have := number_loop (bytesLE m (v : Int)) (by omega) (bytesLE_byte m _) m k 0 0 (by omega) (by simp)
  unfold rels_number.f
  rw [← decode_bytes]
  simpa using this

/-! ### a relocation's bytes -/
def conv (n : Int) (r : S24) : S24 := ⟨r.f0, Go.bits .and .i64 r.f1 2147483647, Int.tmod (Go.bits .and .i64 r.f2 2147483647) n, r.f3⟩
def word1 (n : Int) (r : S24) : Int := IntKind.u64.wrap (IntKind.u64.wrap (IntKind.u64.wrap (Int.tmod (Go.bits .and .i64 r.f2 2147483647) n) * 4294967296) + IntKind.u64.wrap (Go.bits .and .i64 r.f1 2147483647))
def word2 (r : S24) : Int := IntKind.u64.wrap r.f3
def enc (n : Int) (r : S24) : List Int := bytesLE 8 r.f0 ++ (bytesLE 8 (word1 n r) ++ bytesLE 8 (word2 r))
theorem enc_length (n : Int) (r : S24) : (enc n r).length = 24 := by simp [enc, bytesLE_length]

theorem rd_set_ne (v : List Int) (j i : Nat) (y : Int) (h : i ≠ j) : rd (v.set j y) (i : Int) = rd v (i : Int) := by
  rw [rd_nat, rd_nat, List.getD_eq_getElem?_getD, List.getD_eq_getElem?_getD, List.getElem?_set_ne (Ne.symm h)]
theorem rd_set_eq (v : List Int) (j : Nat) (y : Int) (h : j < v.length) : rd (v.set j y) (j : Int) = y := by
  rw [rd_at _ j (by rw [List.length_set]; exact h), List.getElem_set_self]

theorem room1 {acc : List Int} {d : Nat} (y : Int) (h : acc.length + (d + 1) < 140737488355328) : (acc ++ [y]).length + d < 140737488355328 := by
  rw [List.length_append, List.length_singleton, Nat.add_assoc, Nat.add_comm 1 d]
  exact h

theorem word_loop (X : List S24) (n : Int) (s : Bool) (want : List S24) (i : Int) (j : Nat) (hj3 : j < 3) (d : Nat) : ∀ (c : Nat) (acc v : List Int) (x : Nat), c + d = 8 → acc.length + d < 140737488355328 → v.length = 3 → rd v (j : Int) = (x : Int) → x < 18446744073709551616 →
    ∃ v' : List Int, v'.length = 3 ∧ (∀ t : Nat, t ≠ j → rd v' (t : Int) = rd v (t : Int)) ∧ ∀ k, shacklelaw09_RelsMade.l2 (k + d + 1) X n s acc want i v (j : Int) (c : Int) = shacklelaw09_RelsMade.l1 k X n s (acc ++ bytesLE d (x : Int)) want i v' ((j + 1 : Nat) : Int) := by
  have hwj : wrap64 ((j : Int) + 1) = ((j + 1 : Nat) : Int) := by rw [w64_id (by omega) (by omega)]; omega
  induction d with
  | zero =>
    intro c acc v x hc hl hv hr hx
    refine ⟨v, hv, fun _ _ => rfl, fun k => ?_⟩
    rw [shacklelaw09_RelsMade.l2, if_neg (by omega), hwj]
    simp [bytesLE]
  | succ d ih =>
    intro c acc v x hc hl hv hr hx
    have hq : IntKind.u64.wrap (Int.tdiv (x : Int) 256) = ((x / 256 : Nat) : Int) := by
      rw [Int.tdiv_eq_ediv_of_nonneg (by omega), uwrap_id (by omega) (by omega)]
      omega
    have hm : Int.tmod (x : Int) 256 % 256 = (x : Int) % 256 := by rw [Int.tmod_eq_emod_of_nonneg (by omega)]; omega
    have hwc : wrap64 ((c : Int) + 1) = ((c + 1 : Nat) : Int) := by rw [w64_id (by omega) (by omega)]; omega
    obtain ⟨v', h1, h2, h3⟩ := ih (c + 1) (acc ++ [(x : Int) % 256]) (v.set j ((x / 256 : Nat) : Int)) (x / 256) (by clear hx hl hq hm hwc hr; omega) (room1 _ hl) (by rw [List.length_set]; exact hv) (rd_set_eq v j _ (by rw [hv]; exact hj3)) (Nat.lt_of_le_of_lt (Nat.div_le_self _ _) hx)
    refine ⟨v', h1, fun t ht => by rw [h2 t ht, rd_set_ne v j t _ ht], fun k => ?_⟩
    rw [show k + (d + 1) + 1 = (k + d + 1) + 1 from rfl, shacklelaw09_RelsMade.l2, if_pos (by clear hx hl hq hm hwc hr; omega), if_pos (Int.natCast_nonneg _), if_pos (by rw [hv]; clear hx hl hq hm hwc hr; omega), if_pos (Nat.lt_of_le_of_lt (Nat.le_add_right _ _) hl), hr, hm, hq, hwc, Int.toNat_natCast, h3 k, List.append_assoc]
    have hc2 : (x : Int) / 256 = ((x / 256 : Nat) : Int) := by omega
    rw [bytesLE, hc2]
    rfl

theorem room8 {acc : List Int} (h : acc.length < 100000) (b c : List Int) (hb : b.length = 8) (hc : c.length = 8) : acc.length + 8 < 140737488355328 ∧ (acc ++ b).length + 8 < 140737488355328 ∧ (acc ++ b ++ c).length + 8 < 140737488355328 := by
  simp only [List.length_append]
  omega

theorem rel_step (X : List S24) (n : Int) (s : Bool) (acc : List Int) (want : List S24) (i : Nat) (hi : i < X.length) (hn : ¬ n = 0) (hX : X.length < 1000) (hacc : acc.length < 100000) (hw : want.length < 1000) (h0 : 0 ≤ (rd_T24 X (i : Int)).f0 ∧ (rd_T24 X (i : Int)).f0 < 18446744073709551616) (k : Nat) :
    shacklelaw09_RelsMade.l0 (k + 32) X n s acc want (i : Int) = shacklelaw09_RelsMade.l0 k X n s (acc ++ enc n (rd_T24 X (i : Int))) (want ++ [conv n (rd_T24 X (i : Int))]) ((i + 1 : Nat) : Int) := by
  have hwi : wrap64 ((i : Int) + 1) = ((i + 1 : Nat) : Int) := by rw [w64_id (by omega) (by omega)]; omega
  generalize hr : rd_T24 X (i : Int) = r at *
  obtain ⟨a0, ha0⟩ := Int.eq_ofNat_of_zero_le h0.1
  have u1 : ∃ a1 : Nat, word1 n r = (a1 : Int) ∧ a1 < 18446744073709551616 := ⟨(word1 n r).toNat, by unfold word1; rw [uwrap]; omega, by unfold word1; rw [uwrap]; omega⟩
  have u2 : ∃ a2 : Nat, word2 r = (a2 : Int) ∧ a2 < 18446744073709551616 := ⟨(word2 r).toNat, by unfold word2; rw [uwrap]; omega, by unfold word2; rw [uwrap]; omega⟩
  obtain ⟨a1, ha1, hb1⟩ := u1
  obtain ⟨a2, ha2, hb2⟩ := u2
  obtain ⟨m1, m2, m3⟩ := room8 hacc (bytesLE 8 (a0 : Int)) (bytesLE 8 (a1 : Int)) (bytesLE_length _ _) (bytesLE_length _ _)
  have ha0b : a0 < 18446744073709551616 := by rw [ha0] at h0; exact Int.ofNat_lt.1 h0.2
  obtain ⟨v1, l1, r1, s1⟩ := word_loop X n s (want ++ [conv n r]) (i : Int) 0 (by decide) 8 0 acc [r.f0, word1 n r, word2 r] a0 rfl m1 rfl (by rw [← ha0]; rfl) ha0b
  obtain ⟨v2, l2, r2, s2⟩ := word_loop X n s (want ++ [conv n r]) (i : Int) 1 (by decide) 8 0 (acc ++ bytesLE 8 (a0 : Int)) v1 a1 rfl m2 l1 (by rw [r1 1 (by decide), ← ha1]; rfl) hb1
  obtain ⟨v3, l3, r3, s3⟩ := word_loop X n s (want ++ [conv n r]) (i : Int) 2 (by decide) 8 0 (acc ++ bytesLE 8 (a0 : Int) ++ bytesLE 8 (a1 : Int)) v2 a2 rfl m3 l2 (by rw [r2 2 (by decide), r1 2 (by decide), ← ha2]; rfl) hb2
  rw [shacklelaw09_RelsMade.l0, if_pos (by omega), if_pos (Int.natCast_nonneg _), if_neg hn, if_pos (by omega), hr]
  show shacklelaw09_RelsMade.l1 (k + 30 + 1) X n s acc (want ++ [conv n r]) (i : Int) [r.f0, word1 n r, word2 r] ((0 : Nat) : Int) = _
  rw [shacklelaw09_RelsMade.l1, if_pos (by decide)]
  have t1 := s1 (k + 21)
  rw [show k + 30 = k + 21 + 8 + 1 by omega]
  refine t1.trans ?_
  rw [show k + 21 = (k + 20) + 1 by omega, shacklelaw09_RelsMade.l1, if_pos (by decide)]
  have t2 := s2 (k + 11)
  rw [show k + 20 = k + 11 + 8 + 1 by omega]
  refine t2.trans ?_
  rw [show k + 11 = (k + 10) + 1 by omega, shacklelaw09_RelsMade.l1, if_pos (by decide)]
  have t3 := s3 (k + 1)
  rw [show k + 10 = k + 1 + 8 + 1 by omega]
  refine t3.trans ?_
  rw [shacklelaw09_RelsMade.l1, if_neg (by decide), hwi]
  unfold enc
  rw [ha0, ha1, ha2, List.append_assoc, List.append_assoc]

/-! ### what is read -/
theorem rd_drop (X : List S24) (i : Nat) (h : i < X.length) : X.drop i = rd_T24 X (i : Int) :: X.drop (i + 1) := by
  unfold rd_T24
  rw [Int.toNat_natCast, List.getD_eq_getElem?_getD, List.getElem?_eq_getElem h]
  exact List.drop_eq_getElem_cons h
theorem rd_mem24 (X : List S24) (i : Nat) (h : i < X.length) : rd_T24 X (i : Int) ∈ X := by
  unfold rd_T24
  rw [Int.toNat_natCast, List.getD_eq_getElem?_getD, List.getElem?_eq_getElem h]
  exact List.getElem_mem h

def good (n : Int) (r : S24) : Prop := (0 ≤ r.f0 ∧ r.f0 < 18446744073709551616) ∧ (-9223372036854775808 ≤ r.f3 ∧ r.f3 < 9223372036854775808)

theorem shift_down (s t : Nat) (ht : t < 2147483648) : (s : Int) = ((s * 4294967296 + t : Nat) : Int) / 256 / 256 / 256 / 256 := by
  have h1 : (s * 4294967296 + t) / 256 / 256 / 256 / 256 = s := by
    rw [Nat.div_div_eq_div_mul, Nat.div_div_eq_div_mul, Nat.div_div_eq_div_mul]
    exact Nat.div_eq_of_lt_le (by omega) (by omega)
  have h2 : ((s * 4294967296 + t : Nat) : Int) / 256 / 256 / 256 / 256 = (((s * 4294967296 + t) / 256 / 256 / 256 / 256 : Nat) : Int) := by
    rw [Int.natCast_ediv, Int.natCast_ediv, Int.natCast_ediv, Int.natCast_ediv]
    rfl
  rw [h2, h1]

theorem back_signed (x : Int) (a : Nat) (h0 : -9223372036854775808 ≤ x) (h1 : x < 9223372036854775808) (h : IntKind.u64.wrap x = (a : Int)) : a < 18446744073709551616 ∧ wrap64 (a : Int) = x := by
  rw [uwrap] at h
  unfold wrap64
  omega
theorem low_half (s t : Nat) (ht : t < 2147483648) : (s * 4294967296 + t) % 4294967296 = t := by omega

theorem enc_read (n : Int) (hn : 1 ≤ n ∧ n ≤ 1000) (r : S24) (hg : good n r) (rest : List Int) (acc : List S24) (hacc : acc.length < 4398046511104) (k : Nat) (hk : 9 ≤ k) :
    rels_list.l0 (k + 1) n (enc n r ++ rest) acc = rels_list.l0 k n rest (acc ++ [conv n r]) := by
  obtain ⟨⟨h0, h0'⟩, h3, h3'⟩ := hg
  obtain ⟨a0, ha0⟩ := Int.eq_ofNat_of_zero_le h0
  have b1 := and_bound r.f1
  have b2 := and_bound r.f2
  obtain ⟨t, ht⟩ := Int.eq_ofNat_of_zero_le b1.1
  have hs0 : 0 ≤ Int.tmod (Go.bits .and .i64 r.f2 2147483647) n := by
    rw [Int.tmod_eq_emod_of_nonneg b2.1]
    exact Int.emod_nonneg _ (by omega)
  have hs1 : Int.tmod (Go.bits .and .i64 r.f2 2147483647) n < n := by
    rw [Int.tmod_eq_emod_of_nonneg b2.1]
    exact Int.emod_lt_of_pos _ (by omega)
  obtain ⟨s, hs⟩ := Int.eq_ofNat_of_zero_le hs0
  have hsb : s < 1000 := by rw [hs] at hs1; clear b1 b2 h3 h3' h0' hs0 hs ht ha0; omega
  have htb : t < 2147483648 := by rw [ht] at b1; clear b2 h3 h3' h0' hs0 hs1 hs ht ha0; omega
  have ha0b : a0 < 18446744073709551616 := by rw [ha0] at h0'; exact Int.ofNat_lt.1 h0'
  have hs1c := hs1
  clear b1 b2 hs0 hs1 h0'
  have e1 : word1 n r = ((s * 4294967296 + t : Nat) : Int) := by
    unfold word1
    rw [hs, ht]
    clear h3 h3' hs ht ha0 ha0b h0
    rw [uwrap_id (n := (s : Int)) (by omega) (by omega), uwrap_id (n := (s : Int) * 4294967296) (by omega) (by omega), uwrap_id (n := (t : Int)) (by omega) (by omega), uwrap_id (by omega) (by omega)]
    omega
  obtain ⟨a2, ha2⟩ : ∃ a2 : Nat, word2 r = (a2 : Int) := ⟨(word2 r).toNat, by unfold word2; rw [uwrap]; omega⟩
  have ha2' : a2 < 18446744073709551616 ∧ wrap64 (a2 : Int) = r.f3 := by
    unfold word2 at ha2
    exact back_signed r.f3 a2 h3 h3' ha2
  have p256 : (256 : Nat) ^ 8 = 18446744073709551616 := by decide
  have p4 : (256 : Nat) ^ 4 = 4294967296 := by decide
  have hlen : ((enc n r ++ rest).length : Int) = 24 + (rest.length : Int) := by rw [List.length_append, enc_length]; omega
  have c1 : (enc n r ++ rest).take 8 = bytesLE 8 (a0 : Int) := by rw [← ha0]; rfl
  have c2 : ((enc n r ++ rest).take 12).drop 8 = bytesLE 4 ((s * 4294967296 + t : Nat) : Int) := by rw [← e1]; rfl
  have c3 : ((enc n r ++ rest).take 16).drop 12 = bytesLE 4 ((s : Nat) : Int) := by
    have e : (s : Int) = word1 n r / 256 / 256 / 256 / 256 := by rw [e1]; exact shift_down s t htb
    rw [e]
    rfl
  have c4 : ((enc n r ++ rest).take 24).drop 16 = bytesLE 8 (a2 : Int) := by rw [← ha2]; rfl
  have c5 : (enc n r ++ rest).drop (24 : Int).toNat = rest := rfl
  have n1 := number_of 8 (by decide) a0 k hk
  have n2 := number_of 4 (by decide) (s * 4294967296 + t) k hk
  have n3 := number_of 4 (by decide) s k hk
  have n4 := number_of 8 (by decide) a2 k hk
  rw [p256, Nat.mod_eq_of_lt ha0b] at n1
  rw [p4, low_half s t htb] at n2
  rw [p4, Nat.mod_eq_of_lt (Nat.lt_trans hsb (by decide))] at n3
  rw [p256, Nat.mod_eq_of_lt ha2'.1] at n4
  have w1 : wrap64 (t : Int) = (t : Int) := w64_id (by clear n1 n2 n3 n4 e1 ha2 h3 h3'; omega) (by clear n1 n2 n3 n4 e1 ha2 h3 h3'; omega)
  have w2 : wrap64 (s : Int) = (s : Int) := w64_id (by clear n1 n2 n3 n4 e1 ha2 h3 h3'; omega) (by clear n1 n2 n3 n4 e1 ha2 h3 h3'; omega)
  have hsn : ¬ (s : Int) ≥ n := by have : Int.tmod (Go.bits .and .i64 r.f2 2147483647) n < n := hs1c; rw [hs] at this; exact Int.not_le.2 this
  have g8 : (24 + (rest.length : Int)) > 0 ∧ 8 ≤ 24 + (rest.length : Int) ∧ 12 ≤ 24 + (rest.length : Int) ∧ 16 ≤ 24 + (rest.length : Int) ∧ 24 ≤ 24 + (rest.length : Int) := by clear n1 n2 n3 n4 e1 ha2 ha2' h3 h3' w1 w2 hsn hs ht ha0 p256 p4; omega
  have hconv : conv n r = (⟨(a0 : Int), (t : Int), (s : Int), r.f3⟩ : S24) := by unfold conv; rw [ha0, ht, hs]
  rw [rels_list.l0, hlen, if_pos g8.1, if_pos g8.2.1, c1, n1, Option.bind_some, if_pos (by decide), if_pos g8.2.2.1, c2, n2, Option.bind_some, if_pos (by decide), if_pos g8.2.2.2.1, c3, n3, Option.bind_some, if_pos (by decide), if_pos g8.2.2.2.2, c4, n4, Option.bind_some, w1, w2, ha2'.2, c5, hconv]
  by_cases hz : (s : Int) = 0
  · rw [if_pos hz, if_pos hacc]
  · rw [if_neg hz, if_neg hsn, if_pos hacc]

theorem list_read (n : Int) (hn : 1 ≤ n ∧ n ≤ 1000) : ∀ (X : List S24) (acc : List S24) (k : Nat), (∀ r ∈ X, good n r) → acc.length + X.length < 100000 → 10 + X.length ≤ k →
    rels_list.l0 k n (X.flatMap (enc n)) acc = some (acc ++ X.map (conv n), none) := by
  intro X
  induction X with
  | nil =>
    intro acc k hg ha hk
    obtain ⟨k, rfl⟩ : ∃ q, k = q + 1 := ⟨k - 1, by omega⟩
    rw [rels_list.l0]
    simp
  | cons r X ih =>
    intro acc k hg ha hk
    obtain ⟨k, rfl⟩ : ∃ q, k = q + 1 := ⟨k - 1, by omega⟩
    simp only [List.length_cons] at ha hk
    have hf : (r :: X).flatMap (enc n) = enc n r ++ X.flatMap (enc n) := by simp
    rw [hf, enc_read n hn r (hg r List.mem_cons_self) _ acc (by omega) k (by omega), ih _ k (fun q hq => hg q (List.mem_cons_of_mem _ hq)) (by rw [List.length_append]; simp; omega) (by omega)]
    simp

theorem flat_length (n : Int) (X : List S24) : (X.flatMap (enc n)).length = 24 * X.length := by
  induction X with
  | nil => rfl
  | cons r X ih =>
    have hf : (r :: X).flatMap (enc n) = enc n r ++ X.flatMap (enc n) := by simp
    rw [hf, List.length_append, enc_length, ih, List.length_cons]
    omega

def progs (L : Int) : List S61 := [(⟨1, 0, 0, 4096, IntKind.u64.wrap L, 0, 0⟩ : S61)]

theorem table_zero (k : Nat) (B : List Int) (h : List S61) (z : Int) (hz : z = 24 ∨ z = 8) : rels_table.f k B 0 0 h 0 0 z = some (([] : List Int), none) := by
  have h0 : IntKind.u64.wrap 0 = 0 := by rw [uwrap]; rfl
  unfold rels_table.f
  rcases hz with rfl | rfl
  · rw [if_neg (by decide), if_pos (by decide), show Int.tdiv 0 24 = 0 by decide, h0, if_neg (by decide), if_pos rfl]
  · rw [if_neg (by decide), if_pos (by decide), show Int.tdiv 0 8 = 0 by decide, h0, if_neg (by decide), if_pos rfl]

theorem offset_ok (L : Nat) (hL : L < 100000) (k : Nat) : dyn_Offset.f (k + 3) 0 0 (progs (L : Int)) 4096 (L : Int) = some (0, none) := by
  have hw : IntKind.u64.wrap (L : Int) = (L : Int) := uwrap_id (by omega) (by omega)
  have h0 : IntKind.u64.wrap 0 = 0 := by rw [uwrap]; rfl
  have hp : rd_T61 (progs (L : Int)) 0 = (⟨1, 0, 0, 4096, (L : Int), 0, 0⟩ : S61) := by unfold progs; rw [hw]; rfl
  have h1 : IntKind.u64.wrap ((4096 : Int) - 4096) = 0 := by rw [uwrap]; rfl
  have h2 : IntKind.u64.wrap ((L : Int) - 0) = (L : Int) := by rw [Int.sub_zero]; exact hw
  have h3 : IntKind.u64.wrap (18446744073709551615 - 0) = 18446744073709551615 := by rw [uwrap]; rfl
  have h4 : IntKind.u64.wrap (0 + 0) = 0 := by rw [uwrap]; rfl
  have hl : ((progs (L : Int)).length : Int) = 1 := rfl
  unfold dyn_Offset.f
  rw [hl, dyn_Offset.l0, hl, if_pos (by decide), if_pos (by decide), if_pos (by decide), hp]
  dsimp only
  rw [if_pos rfl, dyn_Offset.j1, show decide ((4096 : Int) < 4096) = false by decide, if_neg (by decide), h1, if_neg (by omega), h2, dyn_Offset.j2]
  have hd : decide ((L : Int) > (L : Int)) = false := by simp
  rw [hd, if_neg (by decide), h3, if_neg (by decide), h4]

theorem table_ok (n : Int) (X : List S24) (hX : X.length ≤ 100) (k : Nat) :
    rels_table.f (k + 3) (X.flatMap (enc n)) 0 0 (progs ((X.flatMap (enc n)).length : Int)) 4096 (IntKind.u64.wrap ((X.flatMap (enc n)).length : Int)) 24 = some (X.flatMap (enc n), none) := by
  have hB := flat_length n X
  generalize hBe : X.flatMap (enc n) = B at *
  have hw : IntKind.u64.wrap (B.length : Int) = (B.length : Int) := uwrap_id (by omega) (by omega)
  have hw0 : IntKind.u64.wrap ((B.length : Int) - 0) = (B.length : Int) := by rw [Int.sub_zero]; exact hw
  have hwz : IntKind.u64.wrap (0 + (B.length : Int)) = (B.length : Int) := by rw [Int.zero_add]; exact hw
  have ht : Int.tmod (B.length : Int) 24 = 0 := by rw [Int.tmod_eq_emod_of_nonneg (by omega)]; omega
  have hd : IntKind.u64.wrap (Int.tdiv (B.length : Int) 24) = (X.length : Int) := by
    rw [Int.tdiv_eq_ediv_of_nonneg (by omega), uwrap_id (by omega) (by omega)]
    omega
  unfold rels_table.f
  rw [if_neg (by decide), hw, if_pos ht, hd, if_neg (by omega)]
  by_cases h0 : (B.length : Int) = 0
  · rw [if_pos h0]
    have : B = [] := List.eq_nil_of_length_eq_zero (by omega)
    rw [this]
  · rw [if_neg h0]
    unfold dyn_Slice.f
    rw [offset_ok B.length (by omega) k, Option.bind_some, if_pos (by simp)]
    unfold dyn_cut.f
    simp only []
    rw [hw, if_neg (by omega), hw0, if_neg (by omega), Option.bind_some, if_pos (by decide), hwz, if_pos (by omega), if_pos (by omega)]
    have ht2 : (B.take ((B.length : Int)).toNat).drop ((0 : Int)).toNat = B := by rw [Int.toNat_natCast]; simp
    rw [ht2, if_pos (by simp; omega)]
    rfl

theorem list_zero (k : Nat) (B : List Int) (h : List S61) (n : Int) : rels_list.f (k + 1) B 0 0 h 0 0 n = some (([] : List S24), none) := by
  unfold rels_list.f
  rw [table_zero _ _ _ _ (.inl rfl), Option.bind_some, if_pos (by simp), rels_list.l0]
  rfl

theorem list_ok (n : Int) (hn : 1 ≤ n ∧ n ≤ 1000) (X : List S24) (hX : X.length ≤ 100) (hg : ∀ r ∈ X, good n r) (k : Nat) :
    rels_list.f (k + 200) (X.flatMap (enc n)) 0 0 (progs ((X.flatMap (enc n)).length : Int)) 4096 (IntKind.u64.wrap ((X.flatMap (enc n)).length : Int)) n = some (X.map (conv n), none) := by
  unfold rels_list.f
  rw [show k + 200 = (k + 197) + 3 by omega, table_ok n X hX, Option.bind_some, if_pos (by simp), list_read n hn X [] _ hg (by simp; omega) (by omega), List.nil_append]

theorem unpack_nil (k : Nat) : rels_Unpack.f (k + 1) [] = some ([], none) := by
  unfold rels_Unpack.f
  rw [rels_Unpack.l0]
  rfl

theorem same_self (r : List S24) (hl : r.length < 1000) (d : Nat) : ∀ (k i : Nat), i + d = r.length → shackleref09_Same.l0 (k + d + 1) r r (i : Int) = some true := by
  induction d with
  | zero =>
    intro k i hi
    rw [shackleref09_Same.l0, if_neg (by omega)]
  | succ d ih =>
    intro k i hi
    have hwr : wrap64 ((i : Int) + 1) = ((i + 1 : Nat) : Int) := by rw [w64_id (by omega) (by omega)]; omega
    rw [show k + (d + 1) + 1 = (k + d + 1) + 1 by omega, shackleref09_Same.l0, if_pos (by omega), if_pos (Int.natCast_nonneg _), if_pos (by omega), if_neg (by simp), hwr]
    exact ih k (i + 1) (by omega)
theorem same_refl (r : List S24) (hl : r.length < 1000) (k : Nat) (hk : r.length < k) : shackleref09_Same.f k r r = some true := by
  obtain ⟨k, rfl⟩ : ∃ q, k = q + r.length + 1 := ⟨k - r.length - 1, by omega⟩
  unfold shackleref09_Same.f
  rw [if_pos rfl]
  exact same_self r hl r.length k 0 (Nat.zero_add _)

/-- What is done with the bytes. -/
theorem ends (n : Int) (hn : 1 ≤ n ∧ n ≤ 1000) (X0 : List S24) (X : List S24) (hX : X.length ≤ 100) (hg : ∀ r ∈ X, good n r) (i : Int) (hi : ¬ i < (X0.length : Int)) (k : Nat) :
    shacklelaw09_RelsMade.l0 (k + 300 + 1) X0 n true (X.flatMap (enc n)) (X.map (conv n)) i = some true := by
  have h1 := list_ok n hn X hX hg (k + 100)
  have h2 := list_zero (k + 299) (X.flatMap (enc n)) (progs ((X.flatMap (enc n)).length : Int)) n
  have h3 := table_zero (k + 300) (X.flatMap (enc n)) (progs ((X.flatMap (enc n)).length : Int)) 8 (.inr rfl)
  have h4 := same_refl (X.map (conv n)) (by rw [List.length_map]; omega) (k + 300) (by rw [List.length_map]; omega)
  have h5 := unpack_nil (k + 298)
  rw [show k + 100 + 200 = k + 300 by omega] at h1
  rw [show k + 299 + 1 = k + 300 by omega] at h2
  rw [show k + 298 + 1 = k + 299 by omega] at h5
  have hl0 : ∀ A B : List S24, rels_Read.l0 (k + 300) A B [] [] = some (A, B, [], none) := by
    intro A B
    rw [show k + 300 = (k + 299) + 1 by omega, rels_Read.l0, if_neg (by decide), h5, Option.bind_some, if_pos (by simp)]
  unfold progs at h1 h2 h3
  rw [shacklelaw09_RelsMade.l0, if_neg hi, Option.bind_some]
  unfold rels_Read.f
  rw [h1, Option.bind_some, if_pos (by simp), h2, Option.bind_some, if_pos (by simp), h3, Option.bind_some, if_pos (by simp), hl0, Option.bind_some]
  simp only [Option.bind_some, Option.isNone_none, if_true]
  rw [hl0]
  simp [h4]

theorem all_loop (n : Int) (hn : 1 ≤ n ∧ n ≤ 1000) (X : List S24) (hX : X.length ≤ 100) (hg : ∀ r ∈ X, good n r) (d : Nat) : ∀ (k i : Nat) (acc : List Int) (want : List S24), i + d = X.length → acc = (X.take i).flatMap (enc n) → want = (X.take i).map (conv n) →
    shacklelaw09_RelsMade.l0 (k + 300 + 1 + 32 * d) X n true acc want (i : Int) = some true := by
  induction d with
  | zero =>
    intro k i acc want hi ha hw
    rw [List.take_of_length_le (by omega)] at ha hw
    rw [ha, hw, Nat.mul_zero, Nat.add_zero]
    exact ends n hn X X hX hg _ (by omega) k
  | succ d ih =>
    intro k i acc want hi ha hw
    have hil : i < X.length := by omega
    have hal : acc.length < 100000 := by rw [ha, flat_length, List.length_take]; omega
    have hwl : want.length < 1000 := by rw [hw, List.length_map, List.length_take]; omega
    have hr := hg _ (rd_mem24 X i hil)
    have ht : X.take (i + 1) = X.take i ++ [rd_T24 X (i : Int)] := by
      unfold rd_T24
      rw [Int.toNat_natCast, List.getD_eq_getElem?_getD, List.take_add_one, List.getElem?_eq_getElem hil]
      rfl
    rw [show k + 300 + 1 + 32 * (d + 1) = (k + 300 + 1 + 32 * d) + 32 by omega, rel_step X n true acc want i hil (by omega) (by omega) hal hwl hr.1]
    exact ih k (i + 1) _ _ (by omega) (by rw [ht, ha]; simp) (by rw [ht, hw]; simp)

theorem RelsMade : shacklelaw09_RelsMade.Pure := by
  intro X n hg hz hn
  have hn := lit_i64 hn
  have hgood : ∀ r ∈ X, good n r := fun r hr => ⟨lit_u64 (hg.2 r hr).1, lit_i64 (hg.2 r hr).2.2.2⟩
  clear hg hz
  refine ⟨3600 + 300 + 1 + 32 * X.length + 1, ?_⟩
  have hup := at_rounds (g := shacklelaw09_up.f) shacklelaw09_up.mono (k := 100) (k' := 3600 + 300 + 1 + 32 * X.length + 1) (by omega) up_holds
  unfold shacklelaw09_RelsMade.f
  rw [hup, Option.bind_some]
  have hj : ∀ k, shacklelaw09_RelsMade.j0 (k + 1) X n true true = some true := fun k => by rw [shacklelaw09_RelsMade.j0, if_pos rfl]
  by_cases h1 : (X.length : Int) > 100
  · rw [if_pos h1]
    exact hj _
  · rw [if_neg h1]
    by_cases h2 : n < 1
    · rw [if_pos h2]
      exact hj _
    · rw [if_neg h2]
      by_cases h3 : n > 1000
      · rw [decide_eq_true h3]
        exact hj _
      · rw [decide_eq_false h3, shacklelaw09_RelsMade.j0, if_neg (by decide)]
        exact all_loop n (by omega) X (by omega) hgood X.length 3600 0 [] [] (by omega) (by simp) (by simp)
end Go.Proofs.Ythhlnhbmjkjmlaa.Pure
