/- shacklelaw01.SpanCuts: the pure statement: bytes lie within others without overflow, and are cut as copies. No condition beyond the arguments' own bounds. -/
import Derived.Test.YthhlnhbmjkjmlaaDoorPSpanCutsx3
import Derived.Test.YthhlnhbmjkjmlaaDoorXPure
set_option linter.unusedSimpArgs false
set_option linter.unusedVariables false
namespace Go.Proofs.YthhlnhbmjkjmlaaDoor.Pure
open Go.RowKit Go.Proofs.YthhlnhbmjkjmlaaDoor.PSpanCuts Go.Proofs.YthhlnhbmjkjmlaaDoorW.PrintWords Go.Proofs.YthhlnhbmjkjmlaaDoorW.PrintLast Go.Proofs.YthhlnhbmjkjmlaaDoorX

theorem shown_holds : shacklelaw01_shown.f 100 = some true := by decide +kernel

/-- They lie there. -/
def lies (n : Nat) (a b : Int) : Prop := a ≤ (n : Int) ∧ b ≤ (n : Int) - a
instance (n : Nat) (a b : Int) : Decidable (lies n a b) := inferInstanceAs (Decidable (_ ∧ _))

theorem in_of (n : Nat) (a b : Int) (hn : n < 140737488355328) (ha : 0 ≤ a) : span_In.f (IntKind.u64.wrap (n : Int)) a b = some (decide (lies n a b)) := by
  have hw : IntKind.u64.wrap (n : Int) = (n : Int) := uwrap_id (Int.natCast_nonneg _) (by omega)
  unfold span_In.f
  rw [hw]
  by_cases h : a ≤ (n : Int)
  · have hw2 : IntKind.u64.wrap ((n : Int) - a) = (n : Int) - a := uwrap_id (by omega) (by omega)
    rw [if_pos h, hw2]
    simp [lies, h]
  · rw [if_neg h]
    simp [lies, h]

theorem ref_in_of (n : Nat) (a b : Int) (hn : n < 140737488355328) (ha : 0 ≤ a) : shackleref01_In.f (IntKind.u64.wrap (n : Int)) a b = some (decide (lies n a b)) := in_of n a b hn ha

theorem cut_in (l : List Int) (a b : Int) (hn : l.length < 140737488355328) (ha : 0 ≤ a) (hb : 0 ≤ b) (h : lies l.length a b) :
    span_Cut.f l a b = some ((l.take (a + b).toNat).drop a.toNat, none) := by
  have hw : IntKind.u64.wrap (a + b) = a + b := by
    obtain ⟨h1, h2⟩ := h
    exact uwrap_id (by omega) (by omega)
  have hle : a + b ≤ (l.length : Int) := by have := h.2; omega
  have hlen : ((l.take (a + b).toNat).drop a.toNat).length < 140737488355328 := by
    rw [List.length_drop, List.length_take]; omega
  unfold span_Cut.f
  rw [in_of _ _ _ hn ha, Option.bind_some, if_pos (decide_eq_true h), if_pos ha, hw, if_pos (by omega), if_pos hle]
  unfold bytes_Clone.f
  rw [if_pos hlen, Option.bind_some]

theorem cut_out (l : List Int) (a b : Int) (hn : l.length < 140737488355328) (ha : 0 ≤ a) (ha2 : a < 18446744073709551616) (h : ¬ lies l.length a b) :
    span_Cut.f l a b = some (([] : List Int), some (spZ a 4)) := by
  unfold span_Cut.f
  rw [in_of _ _ _ hn ha, Option.bind_some, decide_eq_false h, if_neg (by simp), if_pos ha, if_pos ha2]

theorem take_snoc (l : List Int) (a i : Nat) (h : a + i < l.length) : (l.take (a + i)).drop a ++ [rd l ((a + i : Nat) : Int)] = (l.take (a + (i + 1))).drop a := by
  rw [show a + (i + 1) = (a + i) + 1 by omega, List.take_add_one, rd_at l (a + i) h, List.getElem?_eq_getElem h]
  rw [List.drop_append_of_le_length (by rw [List.length_take]; omega)]
  rfl

theorem ref_loop (l : List Int) (a b : Nat) (hn : l.length < 140737488355328) (hle : a + b ≤ l.length) (d : Nat) : ∀ (k i : Nat), i + d = b →
    shackleref01_Cut.l0 (k + d + 1) l (a : Int) (b : Int) ((l.take (a + i)).drop a) (i : Int) = some ((l.take (a + b)).drop a, true) := by
  induction d with
  | zero =>
    intro k i hi
    obtain rfl : i = b := by omega
    rw [shackleref01_Cut.l0, if_neg (by omega)]
  | succ d ih =>
    intro k i hi
    have hil : a + i < l.length := by omega
    have hw : IntKind.u64.wrap ((a : Int) + (i : Int)) = ((a + i : Nat) : Int) := by rw [uwrap_id (by omega) (by omega)]; omega
    have hw2 : IntKind.u64.wrap ((i : Int) + 1) = ((i + 1 : Nat) : Int) := by rw [uwrap_id (by omega) (by omega)]; omega
    have hlen : ((l.take (a + i)).drop a).length < 140737488355328 := by rw [List.length_drop, List.length_take]; omega
    rw [show k + (d + 1) + 1 = (k + d + 1) + 1 by omega, shackleref01_Cut.l0, if_pos (by omega), hw, if_pos (Int.natCast_nonneg _), if_pos (by omega), if_pos hlen, take_snoc l a i hil, hw2]
    exact ih k (i + 1) (by omega)

theorem ref_cut_in (l : List Int) (a b : Nat) (hn : l.length < 140737488355328) (h : lies l.length (a : Int) (b : Int)) (k : Nat) :
    shackleref01_Cut.f (k + b + 1) l (a : Int) (b : Int) = some ((l.take (a + b)).drop a, true) := by
  unfold shackleref01_Cut.f
  rw [ref_in_of _ _ _ hn (Int.natCast_nonneg _), Option.bind_some, if_pos (decide_eq_true h)]
  have h1 := h.1
  have h2 := h.2
  have := ref_loop l a b hn (by omega) b k 0 (by omega)
  rw [show (l.take (a + 0)).drop a = ([] : List Int) by apply List.drop_eq_nil_of_le; rw [List.length_take]; omega] at this
  exact this

theorem ref_cut_out (l : List Int) (a b : Int) (hn : l.length < 140737488355328) (ha : 0 ≤ a) (h : ¬ lies l.length a b) (k : Nat) :
    shackleref01_Cut.f k l a b = some (([] : List Int), false) := by
  unfold shackleref01_Cut.f
  rw [ref_in_of _ _ _ hn ha, Option.bind_some, decide_eq_false h, if_neg (by simp)]

theorem same_self (r : List Int) (hl : r.length < 140737488355328) (d : Nat) : ∀ (k i : Nat), i + d = r.length → shackleref01_Same.l0 (k + d + 1) r r (i : Int) = some true := by
  induction d with
  | zero =>
    intro k i hi
    rw [shackleref01_Same.l0]
    rw [if_neg (by omega)]
  | succ d ih =>
    intro k i hi
    rw [show k + (d + 1) + 1 = (k + d + 1) + 1 by omega, shackleref01_Same.l0]
    have hwr : wrap64 ((i : Int) + 1) = ((i + 1 : Nat) : Int) := by rw [w64_id (by omega) (by omega)]; omega
    rw [if_pos (by omega), if_pos (by omega), if_pos (by omega), if_pos rfl, hwr]
    exact ih k (i + 1) (by omega)
theorem same_refl (r : List Int) (hl : r.length < 140737488355328) (k : Nat) : shackleref01_Same.f (k + r.length + 1) r r = some true := by
  unfold shackleref01_Same.f
  rw [if_pos rfl]
  exact same_self r hl r.length k 0 (Nat.zero_add _)

theorem bump (l o : List Int) (hs : ∀ k, shackleref01_Same.f (k + l.length + 1) o l = some true) (d : Nat) : ∀ (k i : Nat) (m : List Int), m.length < 140737488355328 → i + d = m.length →
    shacklelaw01_SpanCuts.l0 (k + l.length + 1 + d + 1) l true none o m none (i : Int) = some true := by
  induction d with
  | zero =>
    intro k i m hm hi
    rw [shacklelaw01_SpanCuts.l0, if_neg (by omega), Nat.add_zero, hs, Option.bind_some, if_pos rfl]
    rfl
  | succ d ih =>
    intro k i m hm hi
    have hwr : wrap64 ((i : Int) + 1) = ((i + 1 : Nat) : Int) := by rw [w64_id (by omega) (by omega)]; omega
    rw [show k + l.length + 1 + (d + 1) + 1 = (k + l.length + 1 + d + 1) + 1 by omega, shacklelaw01_SpanCuts.l0, if_pos (by omega), if_pos (Int.natCast_nonneg _), hwr]
    exact ih k (i + 1) _ (by rw [List.length_set]; exact hm) (by rw [List.length_set]; omega)

theorem out_true (l : List Int) (a b : Int) (k : Nat) (hs : shacklelaw01_shown.f (k + 1) = some true) (hn : l.length < 140737488355328) (ha : 0 ≤ a) (ha2 : a < 18446744073709551616) (h : ¬ lies l.length a b) :
    shacklelaw01_SpanCuts.f (k + 1) l a b = some true := by
  have hsame : shackleref01_Same.f (k + 1) ([] : List Int) [] = some true := same_refl [] (by decide) k
  have hc0 : (0 : Int) ≤ 4 := by decide
  have hneg := spZ_neg (a := a) (c := 4) ha hc0
  have his : shacklelaw00_Is.f (some (spZ a 4)) a 4 = some true := by
    simp [shacklelaw00_Is.f, isF, hneg, spAt_spZ ha ha2, spCode_spZ ha ha2]
  unfold shacklelaw01_SpanCuts.f
  rw [hs, Option.bind_some, in_of _ _ _ hn ha, Option.bind_some, cut_out l a b hn ha ha2 h, Option.bind_some, if_neg (by simp)]
  simp only [Option.getD_some]
  rw [if_pos hneg, ref_cut_out l a b hn ha h, Option.bind_some, hsame, Option.bind_some, decide_eq_false h, if_neg (by decide), if_pos rfl, if_neg (by decide), his, Option.bind_some]
  simp

theorem in_true (l : List Int) (a b : Nat) (k : Nat) (c : List Int) (hc : (l.take (a + b)).drop a = c) (hcl : c.length < 140737488355328) (hs : shacklelaw01_shown.f (k + l.length + 1 + c.length + 1 + 1) = some true) (hn : l.length < 140737488355328) (h : lies l.length (a : Int) (b : Int))
    (href : shackleref01_Cut.f (k + l.length + 1 + c.length + 1 + 1) l (a : Int) (b : Int) = some (c, true)) :
    shacklelaw01_SpanCuts.f (k + l.length + 1 + c.length + 1 + 1) l (a : Int) (b : Int) = some true := by
  have hcut : span_Cut.f l (a : Int) (b : Int) = some (c, none) := by
    rw [cut_in l _ _ hn (Int.natCast_nonneg _) (Int.natCast_nonneg _) h, ← hc]
    rfl
  have hsame : shackleref01_Same.f (k + l.length + 1 + c.length + 1 + 1) c c = some true := by
    have := same_refl c hcl (k + l.length + 2)
    rw [show k + l.length + 1 + c.length + 1 + 1 = k + l.length + 2 + c.length + 1 by omega]
    exact this
  have hj : shacklelaw01_SpanCuts.j0 (k + l.length + 1 + c.length + 1 + 1) l (a : Int) (b : Int) true none true (!true) = some true := by
    rw [shacklelaw01_SpanCuts.j0, if_neg (by decide), if_pos rfl, if_pos (by simpa using hn), Option.bind_some, List.nil_append, hcut, Option.bind_some, if_pos (by simp)]
    exact bump l l (fun k => same_refl l hn k) c.length k 0 c hcl (by omega)
  unfold shacklelaw01_SpanCuts.f
  rw [hs, Option.bind_some, in_of _ _ _ hn (Int.natCast_nonneg _), Option.bind_some, hcut, Option.bind_some, if_pos (by simp), href, Option.bind_some, hsame, Option.bind_some, decide_eq_true h, if_neg (by simp)]
  exact hj

theorem SpanCuts : shacklelaw01_SpanCuts.Pure := by
  intro l a b hg hz ha hb
  have ha := lit_u64 ha
  have hb := lit_u64 hb
  have hl : l.length < 140737488355328 := by have := hz.1; clear hg hz ha hb; omega
  clear hg hz
  by_cases h : lies l.length a b
  · obtain ⟨i, rfl⟩ := Int.eq_ofNat_of_zero_le ha.1
    obtain ⟨j, rfl⟩ := Int.eq_ofNat_of_zero_le hb.1
    have hcl : ((l.take (i + j)).drop i).length = j := by
      obtain ⟨h1, h2⟩ := h
      rw [List.length_drop, List.length_take]
      clear ha hb hl
      omega
    have hjn : j ≤ l.length := by rw [← hcl, List.length_drop, List.length_take]; clear ha hb hl h hcl; omega
    refine ⟨100 + l.length + 1 + ((l.take (i + j)).drop i).length + 1 + 1, ?_⟩
    refine in_true l i j 100 _ rfl (by rw [hcl]; exact Nat.lt_of_le_of_lt hjn hl) ?_ hl h ?_
    · exact at_rounds (g := shacklelaw01_shown.f) shacklelaw01_shown.mono (k := 100) (by clear ha hb hl h hcl hjn; omega) shown_holds
    · have := ref_cut_in l i j hl h (100 + l.length + 1 + 1)
      rw [hcl]
      rw [show 100 + l.length + 1 + j + 1 + 1 = 100 + l.length + 1 + 1 + j + 1 by clear ha hb hl h hcl hjn; omega]
      exact this
  · exact ⟨99 + 1, out_true l a b 99 shown_holds hl ha.1 ha.2 h⟩
end Go.Proofs.YthhlnhbmjkjmlaaDoor.Pure
