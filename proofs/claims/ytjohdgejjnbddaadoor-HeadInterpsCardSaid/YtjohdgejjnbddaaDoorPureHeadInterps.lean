/- shacklelaw04.HeadInterps: the pure statement: the interpreter's name is the text that the first program header of type 3 tells of, or it is refused at that header's offset. No condition beyond the arguments' own bounds. -/
import Derived.Test.YtjohdgejjnbddaaDoorPHeadInterpsx8
import Derived.Test.YtjohdgejjnbddaaDoorXPure
set_option linter.unusedSimpArgs false
set_option linter.unusedVariables false
namespace Go.Proofs.YtjohdgejjnbddaaDoor.Pure
open Go.RowKit Go.Proofs.YtjohdgejjnbddaaDoor.PHeadInterps Go.Proofs.YtjohdgejjnbddaaDoorW.PrintWords Go.Proofs.YtjohdgejjnbddaaDoorW.PrintLast Go.Proofs.YtjohdgejjnbddaaDoorX

theorem byte_zero {x : Int} (h0 : 0 ≤ x) (h1 : x < 256) : (x.toNat.toUInt8 == (0 : Int).toNat.toUInt8) = decide (x = 0) := by
  obtain ⟨n, rfl⟩ := Int.eq_ofNat_of_zero_le h0
  have hn : n < 256 := by omega
  have h : ∀ n : Fin 256, ((n.val.toUInt8 == (0 : Int).toNat.toUInt8) = decide ((n.val : Int) = 0)) := by decide +kernel
  exact h ⟨n, hn⟩

theorem index_cons (x : Int) (l : List Int) (h0 : 0 ≤ x) (h1 : x < 256) :
    Go.Lib.indexByte (Go.Lib.bytesOf (x :: l)) (0 : Int).toNat.toUInt8 = if x = 0 then 0 else if Go.Lib.indexByte (Go.Lib.bytesOf l) (0 : Int).toNat.toUInt8 = -1 then -1 else Go.Lib.indexByte (Go.Lib.bytesOf l) (0 : Int).toNat.toUInt8 + 1 := by
  show Go.Lib.indexByte (x.toNat.toUInt8 :: Go.Lib.bytesOf l) _ = _
  rw [Go.Lib.indexByte, byte_zero h0 h1]
  by_cases hx : x = 0
  · simp [hx]
  · simp [hx]

theorem loop_ref (l : List Int) (a : Int) (hl : l.length < 140737488355328) (hb : ∀ x ∈ l, 0 ≤ x ∧ x < 256) (ha0 : 0 ≤ a) (d : Nat) : ∀ (k i : Nat), i + d = l.length → a ≤ (i : Int) →
    shackleref01_Text.l0 (k + d + 1) l a (i : Int) = some (if Go.Lib.indexByte (Go.Lib.bytesOf (l.drop i)) (0 : Int).toNat.toUInt8 = -1 then ((⟨#[]⟩ : ByteArray), 29)
      else (strOfNums ((l.take ((i : Int) + Go.Lib.indexByte (Go.Lib.bytesOf (l.drop i)) (0 : Int).toNat.toUInt8).toNat).drop a.toNat), 0)) := by
  induction d with
  | zero =>
    intro k i hi ha
    rw [shackleref01_Text.l0, if_neg (by omega), List.drop_of_length_le (by omega)]
    rfl
  | succ d ih =>
    intro k i hi ha
    have hil : i < l.length := by omega
    rw [show k + (d + 1) + 1 = (k + d + 1) + 1 by omega, shackleref01_Text.l0, if_pos (by omega), if_pos (by omega), drop_at l i hil]
    have hx := hb _ (rd_mem l i hil)
    rw [index_cons _ _ hx.1 hx.2]
    by_cases h0 : rd l (i : Int) = 0
    · rw [if_pos h0, if_pos h0, if_pos (by omega), if_pos ha, if_pos (by omega)]
      simp
    · rw [if_neg h0, if_neg h0]
      have hw : wrap64 ((i : Int) + 1) = ((i + 1 : Nat) : Int) := by rw [w64_id (by omega) (by omega)]; omega
      rw [hw, ih k (i + 1) (by omega) (by omega)]
      have hge := Go.Lib.indexByte_ge (Go.Lib.bytesOf (l.drop (i + 1))) (0 : Int).toNat.toUInt8
      generalize Go.Lib.indexByte (Go.Lib.bytesOf (l.drop (i + 1))) (0 : Int).toNat.toUInt8 = z at *
      by_cases hz : z = -1
      · rw [if_pos hz, if_pos hz]
        simp
      · rw [if_neg hz, if_neg hz, if_neg (by omega)]
        rw [show (((i + 1 : Nat) : Int) + z) = ((i : Int) + (z + 1)) by omega]

theorem index_lt (l : List UInt8) (c : UInt8) : Go.Lib.indexByte l c < l.length ∨ Go.Lib.indexByte l c = -1 := by
  induction l with
  | nil => right; rfl
  | cons b l ih =>
    rw [Go.Lib.indexByte]
    split
    · left; simp
    · split
      · right; rfl
      · rcases ih with h | h
        · left; simp; omega
        · simp [h] at *

/-- The text at the place 0: the same, or both refuse it. -/
theorem text_both (c : List Int) (hl : c.length < 140737488355328) (hb : ∀ x ∈ c, 0 ≤ x ∧ x < 256) :
    (∃ s, span_Text.f c 0 = some (s, none) ∧ ∀ k, c.length + 1 ≤ k → shackleref01_Text.f k c 0 = some (s, 0)) ∨
    (∃ t q t' cd, span_Text.f c 0 = some (t, some q) ∧ cd ≠ (0 : Int) ∧ ∀ k, c.length + 1 ≤ k → shackleref01_Text.f k c 0 = some (t', cd)) := by
  have hlen : IntKind.u64.wrap ((c.length : Nat) : Int) = (c.length : Int) := uwrap_id (Int.natCast_nonneg _) (by omega)
  by_cases h0 : c.length = 0
  · refine .inr ⟨⟨#[]⟩, spZ 0 4, ⟨#[]⟩, 4, ?_, by decide, fun k hk => ?_⟩
    · unfold span_Text.f
      rw [hlen, if_pos (by omega), if_pos (by decide), if_pos (by decide)]
    · unfold shackleref01_Text.f
      rw [hlen, if_pos (by omega)]
  have hbl : (Go.Lib.bytesOf c).length = c.length := by simp [Go.Lib.bytesOf]
  have hlt := index_lt (Go.Lib.bytesOf c) (0 : Int).toNat.toUInt8
  rw [hbl] at hlt
  have hge := Go.Lib.indexByte_ge (Go.Lib.bytesOf c) (0 : Int).toNat.toUInt8
  have hw : wrap64 (0 : Int) = ((0 : Nat) : Int) := w64_id (by decide) (by decide)
  have href : ∀ k, c.length + 1 ≤ k → shackleref01_Text.f k c 0 = some (if Go.Lib.indexByte (Go.Lib.bytesOf c) (0 : Int).toNat.toUInt8 = -1 then ((⟨#[]⟩ : ByteArray), 29)
      else (strOfNums ((c.take (Go.Lib.indexByte (Go.Lib.bytesOf c) (0 : Int).toNat.toUInt8).toNat).drop (0 : Int).toNat), 0)) := by
    intro k hk
    unfold shackleref01_Text.f
    rw [hlen, if_neg (by omega), hw]
    obtain ⟨m, rfl⟩ : ∃ m, k = m + c.length + 1 := ⟨k - c.length - 1, by omega⟩
    have h := loop_ref c 0 hl hb (Int.le_refl _) c.length m 0 (Nat.zero_add _) (Int.le_refl _)
    rw [List.drop_zero] at h
    rw [h, show ((0 : Nat) : Int) + Go.Lib.indexByte (Go.Lib.bytesOf c) (0 : Int).toNat.toUInt8 = Go.Lib.indexByte (Go.Lib.bytesOf c) (0 : Int).toNat.toUInt8 by omega]
  have hspan : span_Text.f c 0 = some (if Go.Lib.indexByte (Go.Lib.bytesOf c) (0 : Int).toNat.toUInt8 < 0 then ((⟨#[]⟩ : ByteArray), some (spZ 0 29))
      else (strOfNums ((c.take (Go.Lib.indexByte (Go.Lib.bytesOf c) (0 : Int).toNat.toUInt8).toNat).drop (0 : Int).toNat), none)) := by
    unfold span_Text.f
    rw [hlen, if_neg (by omega), if_pos (by decide), if_pos (by omega), show bytes_IndexByte.f (c.drop (0 : Int).toNat) 0 = some (Go.Lib.indexByte (Go.Lib.bytesOf c) (0 : Int).toNat.toUInt8) by rfl, Option.bind_some]
    generalize Go.Lib.indexByte (Go.Lib.bytesOf c) (0 : Int).toNat.toUInt8 = z at *
    by_cases hz : z < 0
    · rw [if_pos hz, if_pos hz, if_pos (by decide)]
    · have hu : IntKind.u64.wrap ((0 : Int) + IntKind.u64.wrap z) = z := by rw [uwrap_id (n := z) (by omega) (by omega), Int.zero_add, uwrap_id (by omega) (by omega)]
      rw [if_neg hz, if_neg hz, hu, if_pos (by omega), if_pos (by omega)]
  generalize Go.Lib.indexByte (Go.Lib.bytesOf c) (0 : Int).toNat.toUInt8 = z at *
  by_cases hz : z < 0
  · rw [if_pos hz] at hspan
    have hz1 : z = -1 := by omega
    rw [if_pos hz1] at href
    exact .inr ⟨_, _, _, 29, hspan, by decide, href⟩
  · rw [if_neg hz] at hspan
    rw [if_neg (by omega)] at href
    exact .inl ⟨_, hspan, href⟩

/-- They lie there. -/
def lies (n : Nat) (a b : Int) : Prop := a ≤ (n : Int) ∧ b ≤ (n : Int) - a
instance (n : Nat) (a b : Int) : Decidable (lies n a b) := inferInstanceAs (Decidable (_ ∧ _))

theorem in_of (n : Nat) (a b : Int) (hn : n < 140737488355328) (ha : 0 ≤ a) : span_In.f (IntKind.u64.wrap (n : Int)) a b = some (decide (lies n a b)) := by
  have hw : IntKind.u64.wrap (n : Int) = (n : Int) := uwrap_id (Int.natCast_nonneg _) (by omega)
  unfold span_In.f
  rw [hw]
  by_cases h : a ≤ (n : Int)
  · have hw2 : IntKind.u64.wrap ((n : Int) - a) = (n : Int) - a := uwrap_id (by omega) (by omega)
    rw [if_pos h, hw2]
    simp [lies, h]
  · rw [if_neg h]
    simp [lies, h]

theorem ref_in_of (n : Nat) (a b : Int) (hn : n < 140737488355328) (ha : 0 ≤ a) : shackleref01_In.f (IntKind.u64.wrap (n : Int)) a b = some (decide (lies n a b)) := in_of n a b hn ha

theorem cut_in (l : List Int) (a b : Int) (hn : l.length < 140737488355328) (ha : 0 ≤ a) (hb : 0 ≤ b) (h : lies l.length a b) :
    span_Cut.f l a b = some ((l.take (a + b).toNat).drop a.toNat, none) := by
  have hw : IntKind.u64.wrap (a + b) = a + b := by
    obtain ⟨h1, h2⟩ := h
    exact uwrap_id (by omega) (by omega)
  have hle : a + b ≤ (l.length : Int) := by have := h.2; omega
  have hlen : ((l.take (a + b).toNat).drop a.toNat).length < 140737488355328 := by
    rw [List.length_drop, List.length_take]; omega
  unfold span_Cut.f
  rw [in_of _ _ _ hn ha, Option.bind_some, if_pos (decide_eq_true h), if_pos ha, hw, if_pos (by omega), if_pos hle]
  unfold bytes_Clone.f
  rw [if_pos hlen, Option.bind_some]

theorem cut_out (l : List Int) (a b : Int) (hn : l.length < 140737488355328) (ha : 0 ≤ a) (ha2 : a < 18446744073709551616) (h : ¬ lies l.length a b) :
    span_Cut.f l a b = some (([] : List Int), some (spZ a 4)) := by
  unfold span_Cut.f
  rw [in_of _ _ _ hn ha, Option.bind_some, decide_eq_false h, if_neg (by simp), if_pos ha, if_pos ha2]

theorem take_snoc (l : List Int) (a i : Nat) (h : a + i < l.length) : (l.take (a + i)).drop a ++ [rd l ((a + i : Nat) : Int)] = (l.take (a + (i + 1))).drop a := by
  rw [show a + (i + 1) = (a + i) + 1 by omega, List.take_add_one, rd_at l (a + i) h, List.getElem?_eq_getElem h]
  rw [List.drop_append_of_le_length (by rw [List.length_take]; omega)]
  rfl

theorem ref_loop (l : List Int) (a b : Nat) (hn : l.length < 140737488355328) (hle : a + b ≤ l.length) (d : Nat) : ∀ (k i : Nat), i + d = b →
    shackleref01_Cut.l0 (k + d + 1) l (a : Int) (b : Int) ((l.take (a + i)).drop a) (i : Int) = some ((l.take (a + b)).drop a, true) := by
  induction d with
  | zero =>
    intro k i hi
    obtain rfl : i = b := by omega
    rw [shackleref01_Cut.l0, if_neg (by omega)]
  | succ d ih =>
    intro k i hi
    have hil : a + i < l.length := by omega
    have hw : IntKind.u64.wrap ((a : Int) + (i : Int)) = ((a + i : Nat) : Int) := by rw [uwrap_id (by omega) (by omega)]; omega
    have hw2 : IntKind.u64.wrap ((i : Int) + 1) = ((i + 1 : Nat) : Int) := by rw [uwrap_id (by omega) (by omega)]; omega
    have hlen : ((l.take (a + i)).drop a).length < 140737488355328 := by rw [List.length_drop, List.length_take]; omega
    rw [show k + (d + 1) + 1 = (k + d + 1) + 1 by omega, shackleref01_Cut.l0, if_pos (by omega), hw, if_pos (Int.natCast_nonneg _), if_pos (by omega), if_pos hlen, take_snoc l a i hil, hw2]
    exact ih k (i + 1) (by omega)

/-- The bytes that are cut: the same, or both refuse it. -/
theorem cut_both (l : List Int) (a b : Int) (hn : l.length < 140737488355328) (hb : ∀ x ∈ l, 0 ≤ x ∧ x < 256) (ha : 0 ≤ a ∧ a < 18446744073709551616) (hb0 : 0 ≤ b) :
    (∃ c, span_Cut.f l a b = some (c, none) ∧ c.length ≤ l.length ∧ (∀ x ∈ c, 0 ≤ x ∧ x < 256) ∧ ∀ k, l.length + 1 ≤ k → shackleref01_Cut.f k l a b = some (c, true)) ∨
    (span_Cut.f l a b = some ([], some (spZ a 4)) ∧ ∀ k, shackleref01_Cut.f k l a b = some ([], false)) := by
  by_cases h : lies l.length a b
  · left
    obtain ⟨i, rfl⟩ := Int.eq_ofNat_of_zero_le ha.1
    obtain ⟨j, rfl⟩ := Int.eq_ofNat_of_zero_le hb0
    have h1 := h.1
    have h2 := h.2
    have hle : i + j ≤ l.length := by clear ha; omega
    refine ⟨(l.take (i + j)).drop i, ?_, ?_, ?_, ?_⟩
    · rw [cut_in l _ _ hn ha.1 hb0 h]
      rfl
    · rw [List.length_drop, List.length_take]
      omega
    · intro x hx
      exact hb x (List.mem_of_mem_take (List.mem_of_mem_drop hx))
    · intro k hk
      obtain ⟨m, rfl⟩ : ∃ m, k = m + j + 1 := ⟨k - j - 1, by omega⟩
      unfold shackleref01_Cut.f
      rw [ref_in_of _ _ _ hn ha.1, Option.bind_some, if_pos (decide_eq_true h)]
      have := ref_loop l i j hn hle j m 0 (by omega)
      rw [show (l.take (i + 0)).drop i = ([] : List Int) by apply List.drop_eq_nil_of_le; rw [List.length_take]; omega] at this
      exact this
  · right
    refine ⟨cut_out l a b hn ha.1 ha.2 h, fun k => ?_⟩
    unfold shackleref01_Cut.f
    rw [ref_in_of _ _ _ hn ha.1, Option.bind_some, decide_eq_false h, if_neg (by simp)]

theorem right_spot (a c : Int) (h0 : 0 ≤ a) (h1 : a < 18446744073709551616) (hc0 : 0 ≤ c) : shacklelaw04_right.f (some (spZ a c)) c true a = some true := by
  have hn := spZ_neg (a := a) (c := c) h0 hc0
  have hi : shacklelaw00_Is.f (some (spZ a c)) a c = some true := by
    simp [shacklelaw00_Is.f, isF, hn, spAt_spZ h0 h1, spCode_spZ h0 h1]
  unfold shacklelaw04_right.f
  rw [if_pos rfl, hi]
  rfl
theorem right_none : shacklelaw04_right.f none 0 false 0 = some true := by decide +kernel
theorem right_six : shacklelaw04_right.f (some 6) 6 false 0 = some true := by decide +kernel

/-- What the reference says of the header. -/
def bodyR (k : Nat) (l : List Int) (x : S50) : Option (ByteArray × Int × Bool × Int) :=
  (shackleref01_Cut.f k l (x.f2) (x.f4)).bind fun bt172 => (if bt172.2 = true then ((shackleref01_Text.f k bt172.1 0).bind fun bt179 => (if bt179.2 = 0 then (if (bt179.1.size : Int) > 255 then ((shackleref04_at.f 2 (x.f2)).bind fun bt181 => (some ((⟨#[]⟩ : ByteArray), bt181.1, bt181.2.1, bt181.2.2))) else (some (bt179.1, 0, false, 0))) else ((shackleref04_at.f 29 (x.f2)).bind fun bt184 => (some ((⟨#[]⟩ : ByteArray), bt184.1, bt184.2.1, bt184.2.2))))) else ((shackleref04_at.f 4 (x.f2)).bind fun bt176 => (some ((⟨#[]⟩ : ByteArray), bt176.1, bt176.2.1, bt176.2.2))))
/-- What head.Interp says of it. -/
def bodyI (l : List Int) (x : S50) : Option (ByteArray × Option Int) :=
  (span_Cut.f l x.f2 x.f4).bind fun c => match c.2 with
      | some q => some (⟨#[]⟩, some q)
      | none => (span_Text.f c.1 0).bind fun s => match s.2 with
        | some _ => if 0 ≤ x.f2 ∧ x.f2 < 18446744073709551616 then some (⟨#[]⟩, some (spZ x.f2 29)) else none
        | none => if 255 < s.1.size then (if 0 ≤ x.f2 ∧ x.f2 < 18446744073709551616 then some (⟨#[]⟩, some (spZ x.f2 2)) else none) else some (s.1, none)

theorem body_both (l : List Int) (x : S50) (hn : l.length < 140737488355328) (hb : ∀ x ∈ l, 0 ≤ x ∧ x < 256) (ha : 0 ≤ x.f2 ∧ x.f2 < 18446744073709551616) (hb0 : 0 ≤ x.f4) :
    ∃ s e cd sp at_, bodyI l x = some (s, e) ∧ (∀ k, l.length + 1 ≤ k → bodyR k l x = some (s, cd, sp, at_)) ∧ shacklelaw04_right.f e cd sp at_ = some true := by
  rcases cut_both l x.f2 x.f4 hn hb ha hb0 with ⟨c, h1, h2, h3, h4⟩ | ⟨h1, h4⟩
  · rcases text_both c (Nat.lt_of_le_of_lt h2 hn) h3 with ⟨s, t1, t2⟩ | ⟨t, q, t', cd, t1, t0, t2⟩
    · by_cases hs : 255 < s.size
      · refine ⟨⟨#[]⟩, some (spZ x.f2 2), 2, true, x.f2, ?_, fun k hk => ?_, right_spot _ _ ha.1 ha.2 (by decide)⟩
        · unfold bodyI
          rw [h1, Option.bind_some]
          dsimp only
          rw [t1, Option.bind_some]
          dsimp only
          rw [if_pos hs, if_pos ha]
        · unfold bodyR
          rw [h4 k hk, Option.bind_some, if_pos rfl, t2 k (by omega), Option.bind_some, if_pos rfl, if_pos (by show (s.size : Int) > 255; omega)]
          rfl
      · refine ⟨s, none, 0, false, 0, ?_, fun k hk => ?_, right_none⟩
        · unfold bodyI
          rw [h1, Option.bind_some]
          dsimp only
          rw [t1, Option.bind_some]
          dsimp only
          rw [if_neg hs]
        · unfold bodyR
          rw [h4 k hk, Option.bind_some, if_pos rfl, t2 k (by omega), Option.bind_some, if_pos rfl, if_neg (by show ¬ (s.size : Int) > 255; omega)]
    · refine ⟨⟨#[]⟩, some (spZ x.f2 29), 29, true, x.f2, ?_, fun k hk => ?_, right_spot _ _ ha.1 ha.2 (by decide)⟩
      · unfold bodyI
        rw [h1, Option.bind_some]
        dsimp only
        rw [t1, Option.bind_some]
        dsimp only
        rw [if_pos ha]
      · unfold bodyR
        rw [h4 k hk, Option.bind_some, if_pos rfl, t2 k (by omega), Option.bind_some, if_neg t0]
        rfl
  · refine ⟨⟨#[]⟩, some (spZ x.f2 4), 4, true, x.f2, ?_, fun k hk => ?_, right_spot _ _ ha.1 ha.2 (by decide)⟩
    · unfold bodyI
      rw [h1, Option.bind_some]
    · unfold bodyR
      rw [h4 k, Option.bind_some, if_neg (by decide)]
      rfl

def Q3 (x : S50) : Bool := x.f0 == 3

/-- The reference's search. -/
theorem search (l : List Int) (ps : List S50) (a0 a1 : Int) (R : Nat) (res : S50 → ByteArray × Int × Bool × Int) (hps : ps.length < 140737488355328)
    (hB : ∀ i : Nat, i < ps.length → ∀ k, R ≤ k → bodyR k l (rd_T50 ps (i : Int)) = some (res (rd_T50 ps (i : Int)))) (d : Nat) : ∀ (K i : Nat), R ≤ K → i + d = ps.length →
    shackleref04_Interp.l0 (K + d + 1) l (i : Int) a0 a1 ps = some (if idxP Q3 (ps.drop i) (i : Int) < 0 then ((⟨#[]⟩ : ByteArray), 6, false, 0) else res (rd_T50 ps (idxP Q3 (ps.drop i) (i : Int)))) := by
  induction d with
  | zero =>
    intro K i hK hi
    rw [shackleref04_Interp.l0, if_neg (by omega), List.drop_of_length_le (by omega)]
    rfl
  | succ d ih =>
    intro K i hK hi
    have hil : i < ps.length := by omega
    rw [show K + (d + 1) + 1 = (K + d + 1) + 1 by omega, shackleref04_Interp.l0, if_pos (by omega), if_pos (by omega), idxP_drop Q3 ps i hil]
    by_cases h3 : (rd_T50 ps (i : Int)).f0 = 3
    · have hq : Q3 (rd_T50 ps (i : Int)) = true := beq_iff_eq.mpr h3
      rw [if_pos h3, if_pos hq, if_neg (by omega)]
      exact hB i hil (K + d + 1) (by omega)
    · have hq : ¬ Q3 (rd_T50 ps (i : Int)) = true := fun h => h3 (beq_iff_eq.mp h)
      have hw : wrap64 ((i : Int) + 1) = ((i + 1 : Nat) : Int) := by rw [w64_id (by omega) (by omega)]; omega
      rw [if_neg h3, if_neg hq, hw]
      exact ih K (i + 1) hK (by omega)

theorem law_true (k : Nat) (l : List Int) (a0 a1 : Int) (ps : List S50) (s : ByteArray) (e : Option Int) (cd : Int) (sp : Bool) (at_ : Int) (hi : interpF l ps = some (s, e))
    (hr : shackleref04_Interp.f k l a0 a1 ps = some (s, cd, sp, at_)) (ht : shacklelaw04_right.f e cd sp at_ = some true) : shacklelaw04_HeadInterps.f k l a0 a1 ps = some true := by
  unfold shacklelaw04_HeadInterps.f
  rw [show shacklelaw04_shown.f = some true from rfl, Option.bind_some, show head_Interp.f l a0 a1 ps = some (s, e) from hi, Option.bind_some, hr, Option.bind_some, if_pos rfl, if_pos rfl, ht, Option.bind_some]

theorem HeadInterps : shacklelaw04_HeadInterps.Pure := by
  intro l a0 a1 ps hg hz h0 h1 hgp hzp
  have hl : l.length < 140737488355328 := by have := hz.1; clear h0 h1 hgp hzp hg hz; omega
  have hps : ps.length < 140737488355328 := by have := hzp.1; clear h0 h1 hgp hzp hg hz; omega
  have hb : ∀ x ∈ l, 0 ≤ x ∧ x < 256 := fun x hx => lit_u8 (hg.2 x hx)
  have hx : ∀ x ∈ ps, (0 ≤ x.f2 ∧ x.f2 < 18446744073709551616) ∧ 0 ≤ x.f4 := fun x hx => by
    obtain ⟨-, -, h2, -, h4, -⟩ := hgp.2 x hx
    exact ⟨lit_u64 h2, (lit_u64 h4).1⟩
  have hmem : ∀ i : Nat, i < ps.length → rd_T50 ps (i : Int) ∈ ps := fun i hi => by
    have e : rd_T50 ps (i : Int) = ps[i] := by simp [rd_T50, List.getD_eq_getElem?_getD, List.getElem?_eq_getElem hi]
    rw [e]
    exact List.getElem_mem hi
  clear hg hz h0 h1 hgp hzp
  have hbody : ∀ i : Nat, i < ps.length → ∃ r : (ByteArray × Option Int) × Int × Bool × Int, bodyI l (rd_T50 ps (i : Int)) = some r.1 ∧ (∀ k, l.length + 1 ≤ k → bodyR k l (rd_T50 ps (i : Int)) = some (r.1.1, r.2)) ∧ shacklelaw04_right.f r.1.2 r.2.1 r.2.2.1 r.2.2.2 = some true := fun i hi => by
    obtain ⟨s, e, cd, sp, at_, h1, h2, h3⟩ := body_both l (rd_T50 ps (i : Int)) hl hb (hx _ (hmem i hi)).1 (hx _ (hmem i hi)).2
    exact ⟨((s, e), cd, sp, at_), h1, h2, h3⟩
  have hres : ∀ i : Nat, i < ps.length → ∀ k, l.length + 1 ≤ k → bodyR k l (rd_T50 ps (i : Int)) = some ((bodyR (l.length + 1) l (rd_T50 ps (i : Int))).getD (⟨#[]⟩, 0, false, 0)) := fun i hi k hk => by
    obtain ⟨r, -, h2, -⟩ := hbody i hi
    rw [h2 k hk, h2 _ (Nat.le_refl _)]
    rfl
  have hs := search l ps a0 a1 (l.length + 1) (fun x => (bodyR (l.length + 1) l x).getD (⟨#[]⟩, 0, false, 0)) hps hres ps.length (l.length + 1) 0 (Nat.le_refl _) (Nat.zero_add _)
  rw [List.drop_zero] at hs
  have hs : shackleref04_Interp.f (l.length + 1 + ps.length + 1) l a0 a1 ps = _ := hs
  refine ⟨l.length + 1 + ps.length + 1, ?_⟩
  have hrange := idxP_range Q3 ps 0
  have hI : interpF l ps = if idxP Q3 ps ((0 : Nat) : Int) < 0 then some (⟨#[]⟩, some 6) else bodyI l (rd_T50 ps (idxP Q3 ps ((0 : Nat) : Int))) := by
    unfold interpF
    rw [if_pos hps]
    rfl
  have h00 : ((0 : Nat) : Int) = 0 := rfl
  rw [h00] at hs hI
  generalize idxP Q3 ps 0 = j at *
  by_cases hj : j < 0
  · rw [if_pos hj] at hs hI
    exact law_true _ l a0 a1 ps _ _ _ _ _ hI hs right_six
  · rw [if_neg hj] at hs hI
    obtain ⟨i, rfl⟩ := Int.eq_ofNat_of_zero_le (Int.not_lt.mp hj)
    have hi : i < ps.length := by omega
    obtain ⟨⟨⟨s, e⟩, cd, sp, at_⟩, h1, h2, h3⟩ := hbody i hi
    rw [h1] at hI
    rw [h2 _ (Nat.le_refl _)] at hs
    exact law_true _ l a0 a1 ps s e cd sp at_ hI hs h3
end Go.Proofs.YtjohdgejjnbddaaDoor.Pure
