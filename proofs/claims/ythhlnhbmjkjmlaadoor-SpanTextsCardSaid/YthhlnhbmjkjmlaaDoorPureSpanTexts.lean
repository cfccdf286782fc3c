/- shacklelaw01.SpanTexts: the pure statement: a text is what stands up to the next byte 0, or it is refused at its place. No condition beyond the arguments' own bounds. -/
import Derived.Test.YthhlnhbmjkjmlaaDoorPSpanTextsx3
import Derived.Test.YthhlnhbmjkjmlaaDoorXPure
set_option linter.unusedSimpArgs false
set_option linter.unusedVariables false
namespace Go.Proofs.YthhlnhbmjkjmlaaDoor.Pure
open Go.RowKit Go.Proofs.YthhlnhbmjkjmlaaDoor.PSpanTexts Go.Proofs.YthhlnhbmjkjmlaaDoorW.PrintWords Go.Proofs.YthhlnhbmjkjmlaaDoorW.PrintLast Go.Proofs.YthhlnhbmjkjmlaaDoorX

theorem shown_holds : shacklelaw01_shown.f 100 = some true := by decide +kernel

theorem byte_zero {x : Int} (h0 : 0 ≤ x) (h1 : x < 256) : (x.toNat.toUInt8 == (0 : Int).toNat.toUInt8) = decide (x = 0) := by
  obtain ⟨n, rfl⟩ := Int.eq_ofNat_of_zero_le h0
  have hn : n < 256 := by omega
  have h : ∀ n : Fin 256, ((n.val.toUInt8 == (0 : Int).toNat.toUInt8) = decide ((n.val : Int) = 0)) := by decide +kernel
  exact h ⟨n, hn⟩

theorem index_cons (x : Int) (l : List Int) (h0 : 0 ≤ x) (h1 : x < 256) :
    Go.Lib.indexByte (Go.Lib.bytesOf (x :: l)) (0 : Int).toNat.toUInt8 = if x = 0 then 0 else if Go.Lib.indexByte (Go.Lib.bytesOf l) (0 : Int).toNat.toUInt8 = -1 then -1 else Go.Lib.indexByte (Go.Lib.bytesOf l) (0 : Int).toNat.toUInt8 + 1 := by
  show Go.Lib.indexByte (x.toNat.toUInt8 :: Go.Lib.bytesOf l) _ = _
  rw [Go.Lib.indexByte, byte_zero h0 h1]
  by_cases hx : x = 0
  · simp [hx]
  · simp [hx]

theorem loop_ref (l : List Int) (a : Int) (hl : l.length < 140737488355328) (hb : ∀ x ∈ l, 0 ≤ x ∧ x < 256) (ha0 : 0 ≤ a) (d : Nat) : ∀ (k i : Nat), i + d = l.length → a ≤ (i : Int) →
    shackleref01_Text.l0 (k + d + 1) l a (i : Int) = some (if Go.Lib.indexByte (Go.Lib.bytesOf (l.drop i)) (0 : Int).toNat.toUInt8 = -1 then ((⟨#[]⟩ : ByteArray), 29)
      else (strOfNums ((l.take ((i : Int) + Go.Lib.indexByte (Go.Lib.bytesOf (l.drop i)) (0 : Int).toNat.toUInt8).toNat).drop a.toNat), 0)) := by
  induction d with
  | zero =>
    intro k i hi ha
    rw [shackleref01_Text.l0, if_neg (by omega), List.drop_of_length_le (by omega)]
    rfl
  | succ d ih =>
    intro k i hi ha
    have hil : i < l.length := by omega
    rw [show k + (d + 1) + 1 = (k + d + 1) + 1 by omega, shackleref01_Text.l0, if_pos (by omega), if_pos (by omega), drop_at l i hil]
    have hx := hb _ (rd_mem l i hil)
    rw [index_cons _ _ hx.1 hx.2]
    by_cases h0 : rd l (i : Int) = 0
    · rw [if_pos h0, if_pos h0, if_pos (by omega), if_pos ha, if_pos (by omega)]
      simp
    · rw [if_neg h0, if_neg h0]
      have hw : wrap64 ((i : Int) + 1) = ((i + 1 : Nat) : Int) := by rw [w64_id (by omega) (by omega)]; omega
      rw [hw, ih k (i + 1) (by omega) (by omega)]
      have hge := Go.Lib.indexByte_ge (Go.Lib.bytesOf (l.drop (i + 1))) (0 : Int).toNat.toUInt8
      generalize Go.Lib.indexByte (Go.Lib.bytesOf (l.drop (i + 1))) (0 : Int).toNat.toUInt8 = z at *
      by_cases hz : z = -1
      · rw [if_pos hz, if_pos hz]
        simp
      · rw [if_neg hz, if_neg hz, if_neg (by omega)]
        rw [show (((i + 1 : Nat) : Int) + z) = ((i : Int) + (z + 1)) by omega]

theorem index_lt (l : List UInt8) (c : UInt8) : Go.Lib.indexByte l c < l.length ∨ Go.Lib.indexByte l c = -1 := by
  induction l with
  | nil => right; rfl
  | cons b l ih =>
    rw [Go.Lib.indexByte]
    split
    · left; simp
    · split
      · right; rfl
      · rcases ih with h | h
        · left; simp; omega
        · simp [h] at *

theorem right_spot (k : Nat) (a c : Int) (h0 : 0 ≤ a) (h1 : a < 18446744073709551616) (hc : c = 4 ∨ c = 29) :
    shacklelaw01_right.f k (some (spZ a c)) c a = some true := by
  have hc0 : 0 ≤ c := by omega
  have hn := spZ_neg (a := a) (c := c) h0 hc0
  have hi : shacklelaw00_Is.f (some (spZ a c)) a c = some true := by
    simp [shacklelaw00_Is.f, isF, hn, spAt_spZ h0 h1, spCode_spZ h0 h1]
  unfold shacklelaw01_right.f
  rw [if_neg (by simp)]
  simp only [Option.getD_some]
  rw [if_pos hn]
  rcases hc with rfl | rfl
  · rw [if_pos rfl, hi]; rfl
  · rw [if_neg (by decide), if_pos rfl, hi]; rfl

theorem right_none (k : Nat) (a : Int) : shacklelaw01_right.f (k + 1) none 0 a = some true := by
  simp [shacklelaw01_right.f, shacklelaw01_right.j0, shacklelaw00_Code.f]

theorem text_far (l : List Int) (a : Int) (hlen : IntKind.u64.wrap ((l.length : Nat) : Int) = (l.length : Int)) (ha : 0 ≤ a ∧ a < 18446744073709551616) (hla : a ≥ (l.length : Int)) (K : Nat) :
    span_Text.f l a = some ((⟨#[]⟩ : ByteArray), some (spZ a 4)) ∧ shackleref01_Text.f K l a = some ((⟨#[]⟩ : ByteArray), 4) := by
  constructor
  · unfold span_Text.f
    rw [hlen, if_pos hla, if_pos ha.1, if_pos ha.2]
  · unfold shackleref01_Text.f
    rw [hlen, if_pos hla]

theorem text_near (l : List Int) (i : Nat) (z : Int) (hlen : IntKind.u64.wrap ((l.length : Nat) : Int) = (l.length : Int)) (hil : i < l.length) (hla : ¬ (i : Int) ≥ (l.length : Int)) (hi : (i : Int) < 18446744073709551616)
    (hx : bytes_IndexByte.f (l.drop ((i : Int)).toNat) 0 = some z) (hz : z < 0 ∨ (0 ≤ z ∧ IntKind.u64.wrap ((i : Int) + IntKind.u64.wrap z) = (i : Int) + z ∧ (i : Int) + z ≤ (l.length : Int))) :
    span_Text.f l (i : Int) = some (if z < 0 then ((⟨#[]⟩ : ByteArray), some (spZ i 29)) else (strOfNums ((l.take ((i : Int) + z).toNat).drop ((i : Int)).toNat), none)) := by
  have h0 : 0 ≤ (i : Int) := Int.natCast_nonneg _
  unfold span_Text.f
  rw [hlen, if_neg hla, if_pos h0, if_pos (by omega), hx, Option.bind_some]
  rcases hz with hz | ⟨hz, hu, hle⟩
  · rw [if_pos hz, if_pos hi, if_pos hz]
  · rw [if_neg (by omega), hu, if_pos (by omega), if_pos hle, if_neg (by omega)]

theorem near_of (n i : Nat) (z : Int) (hn : n < 140737488355328) (hil : i < n) (hlt : z < ((n - i : Nat) : Int) ∨ z = -1) (hge : -1 ≤ z) :
    z < 0 ∨ (0 ≤ z ∧ IntKind.u64.wrap ((i : Int) + IntKind.u64.wrap z) = (i : Int) + z ∧ (i : Int) + z ≤ (n : Int)) := by
  rcases Int.lt_or_le z 0 with h | h
  · exact .inl h
  · refine .inr ⟨h, ?_, by omega⟩
    rw [uwrap_id (n := z) h (by omega), uwrap_id (by omega) (by omega)]

theorem far_true (l : List Int) (a : Int) (K : Nat) (hs : shacklelaw01_shown.f K = some true) (ha : 0 ≤ a ∧ a < 18446744073709551616)
    (ht : span_Text.f l a = some ((⟨#[]⟩ : ByteArray), some (spZ a 4))) (hr : shackleref01_Text.f K l a = some ((⟨#[]⟩ : ByteArray), 4)) : shacklelaw01_SpanTexts.f K l a = some true := by
  unfold shacklelaw01_SpanTexts.f
  rw [hs, Option.bind_some, ht, Option.bind_some, if_neg (by simp)]
  simp only [Option.getD_some]
  rw [if_pos (spZ_neg ha.1 (by decide)), hr, Option.bind_some, right_spot _ a 4 ha.1 ha.2 (.inl rfl), Option.bind_some, if_pos rfl]
  simp

theorem spot_true (l : List Int) (a : Int) (K : Nat) (hs : shacklelaw01_shown.f K = some true) (ha : 0 ≤ a ∧ a < 18446744073709551616)
    (ht : span_Text.f l a = some ((⟨#[]⟩ : ByteArray), some (spZ a 29))) (hr : shackleref01_Text.f K l a = some ((⟨#[]⟩ : ByteArray), 29)) : shacklelaw01_SpanTexts.f K l a = some true := by
  unfold shacklelaw01_SpanTexts.f
  rw [hs, Option.bind_some, ht, Option.bind_some, if_neg (by simp)]
  simp only [Option.getD_some]
  rw [if_pos (spZ_neg ha.1 (by decide)), hr, Option.bind_some, right_spot _ a 29 ha.1 ha.2 (.inr rfl), Option.bind_some, if_pos rfl]
  simp

theorem near_true (l : List Int) (a : Int) (K : Nat) (b : ByteArray) (hs : shacklelaw01_shown.f (K + 1) = some true)
    (ht : span_Text.f l a = some (b, none)) (hr : shackleref01_Text.f (K + 1) l a = some (b, 0)) : shacklelaw01_SpanTexts.f (K + 1) l a = some true := by
  unfold shacklelaw01_SpanTexts.f
  rw [hs, Option.bind_some, ht, Option.bind_some, if_pos (by simp), hr, Option.bind_some, right_none, Option.bind_some, if_pos rfl, if_pos rfl]

theorem neg_of {z : Int} (h : z = -1) : z < 0 := by omega
theorem not_neg_of {z : Int} (h : -1 ≤ z) (h0 : ¬ z = -1) : ¬ z < 0 := by omega

theorem near_all (l : List Int) (i k : Nat) (hs : shacklelaw01_shown.f (k + (l.length - i) + 1) = some true) (ha : (0 : Int) ≤ i ∧ (i : Int) < 18446744073709551616)
    (hil : i < l.length) (hla : ¬ (i : Int) ≥ (l.length : Int)) (hl : l.length < 140737488355328)
    (hlen : IntKind.u64.wrap ((l.length : Nat) : Int) = (l.length : Int)) (z : Int) (hlt : z < ((l.length - i : Nat) : Int) ∨ z = -1) (hge : -1 ≤ z)
    (hx : bytes_IndexByte.f (l.drop ((i : Int)).toNat) 0 = some z)
    (hr : shackleref01_Text.f (k + (l.length - i) + 1) l (i : Int) = some (if z = -1 then ((⟨#[]⟩ : ByteArray), 29)
      else (strOfNums ((l.take ((i : Int) + z).toNat).drop ((i : Int)).toNat), 0))) : shacklelaw01_SpanTexts.f (k + (l.length - i) + 1) l (i : Int) = some true := by
  have ht := text_near l i z hlen hil hla ha.2 hx (near_of _ i z hl hil hlt hge)
  by_cases hz0 : z = -1
  · rw [if_pos (neg_of hz0)] at ht
    rw [if_pos hz0] at hr
    exact spot_true l _ _ hs ha ht hr
  · rw [if_neg (not_neg_of hge hz0)] at ht
    rw [if_neg hz0] at hr
    exact near_true l _ _ _ hs ht hr

theorem ref_near (l : List Int) (i k : Nat) (ha : (0 : Int) ≤ i) (hil : i < l.length) (hla : ¬ (i : Int) ≥ (l.length : Int)) (hl : l.length < 140737488355328)
    (hlen : IntKind.u64.wrap ((l.length : Nat) : Int) = (l.length : Int)) (hw : wrap64 (i : Int) = (i : Int)) (hb : ∀ x ∈ l, 0 ≤ x ∧ x < 256) :
    shackleref01_Text.f (k + (l.length - i) + 1) l (i : Int) = some (if Go.Lib.indexByte (Go.Lib.bytesOf (l.drop i)) (0 : Int).toNat.toUInt8 = -1 then ((⟨#[]⟩ : ByteArray), 29)
      else (strOfNums ((l.take ((i : Int) + Go.Lib.indexByte (Go.Lib.bytesOf (l.drop i)) (0 : Int).toNat.toUInt8).toNat).drop ((i : Int)).toNat), 0)) := by
  unfold shackleref01_Text.f
  rw [hlen, if_neg hla, hw]
  exact loop_ref l (i : Int) hl hb ha (l.length - i) k i (Nat.add_sub_cancel' (Nat.le_of_lt hil)) (Int.le_refl _)

theorem rounds_of (n i : Nat) (h : i < n) : ∃ k, n + 100 = k + (n - i) + 1 := ⟨n + 100 - (n - i) - 1, by omega⟩

theorem SpanTexts : shacklelaw01_SpanTexts.Pure := by
  intro l a hg hz ha
  have ha := lit_u64 ha
  have hl : l.length < 140737488355328 := by have := hz.1; omega
  have hb : ∀ x ∈ l, 0 ≤ x ∧ x < 256 := fun x hx => lit_u8 (hg.2 x hx)
  have hlen : IntKind.u64.wrap ((l.length : Nat) : Int) = (l.length : Int) := by clear hg hz ha hb; exact uwrap_id (Int.natCast_nonneg _) (by omega)
  have hs : shacklelaw01_shown.f (l.length + 100) = some true := at_rounds (g := shacklelaw01_shown.f) shacklelaw01_shown.mono (k := 100) (k' := l.length + 100) (Nat.le_add_left _ _) shown_holds
  refine ⟨l.length + 100, ?_⟩
  by_cases hla : a ≥ (l.length : Int)
  · obtain ⟨ht, hr⟩ := text_far l a hlen ha hla (l.length + 100)
    exact far_true l a _ hs ha ht hr
  · obtain ⟨i, rfl⟩ := Int.eq_ofNat_of_zero_le ha.1
    have hil : i < l.length := by clear hg hz hb hlen hs; omega
    obtain ⟨k, hk⟩ := rounds_of l.length i hil
    rw [hk] at hs ⊢
    have hbl : (Go.Lib.bytesOf (l.drop i)).length = l.length - i := by simp [Go.Lib.bytesOf]
    have hlt := index_lt (Go.Lib.bytesOf (l.drop i)) (0 : Int).toNat.toUInt8
    rw [hbl] at hlt
    have hge := Go.Lib.indexByte_ge (Go.Lib.bytesOf (l.drop i)) (0 : Int).toNat.toUInt8
    have hx : bytes_IndexByte.f (l.drop ((i : Int)).toNat) 0 = some (Go.Lib.indexByte (Go.Lib.bytesOf (l.drop i)) (0 : Int).toNat.toUInt8) := by
      rw [Int.toNat_natCast]; rfl
    have hw : wrap64 (i : Int) = (i : Int) := w64_id (by clear hg hz hb hlen hs hk; omega) (by clear hg hz hb hlen hs hk; omega)
    exact near_all l i k hs ha hil hla hl hlen _ hlt hge hx (ref_near l i k ha.1 hil hla hl hlen hw hb)
end Go.Proofs.YthhlnhbmjkjmlaaDoor.Pure
