/- shacklelaw19.RelocValues: the pure statement: what reloc.Value comes to is what the document's answer says, of any relocation, base and bound. No condition beyond the numbers' own bounds. -/
import Derived.Test.YthhlnhbmjkjmlaaPRelocValuesx4
import Derived.Laws.BitsAllLaws
set_option linter.unusedSimpArgs false
set_option linter.unusedVariables false
namespace Go.Proofs.Ythhlnhbmjkjmlaa.Pure
open Go.RowKit Go.Proofs.Ythhlnhbmjkjmlaa.PRelocValues Go.Proofs.YthhlnhbmjkjmlaaW.PrintWords Go.Proofs.YthhlnhbmjkjmlaaW.PrintLast Go.Proofs.YthhlnhbmjkjmlaaX

theorem wrap_u64 (n : Int) : IntKind.u64.wrap n = n % 18446744073709551616 := by simp [IntKind.wrap, IntKind.bits, IntKind.signed]

theorem and32 (v : Int) (h0 : 0 ≤ v) (h1 : v < 18446744073709551616) : Go.bits .and .u64 v 4294967295 = v % 4294967296 := by
  rw [u64_and v 4294967295 h0 h1 (by omega) (by omega)]
  have : (4294967295 : Int).toNat = 2 ^ 32 - 1 := by decide
  rw [this, Nat.and_two_pow_sub_one_eq_mod]
  omega

theorem short_tells (v : Int) (h0 : 0 ≤ v) (h1 : v < 18446744073709551616) : reloc_short.f v = some (decide (v < 2147483648 ∨ v ≥ 18446744071562067968)) := by
  unfold reloc_short.f
  rw [wrap_u64]
  unfold wrap64 wrap32
  congr 1
  rw [Bool.eq_iff_iff, beq_iff_eq, decide_eq_true_eq]
  omega

theorem up_holds : shacklelaw19_up.f 40 = some true := by decide +kernel


def Alike (p : Option (Int × Int × Option Int)) (q : Option (Int × Int × Int)) : Prop :=
  ∃ v n e c, p = some (v, n, e) ∧ q = some (v, n, c) ∧ shacklelaw00_Code.f e = some c

theorem four_tells (v : Int) (b : Bool) : reloc_four.f v b = if b = true then some (Go.bits .and .u64 v 4294967295, 4, none) else some (0, 0, some 20) := rfl

theorem code_none : shacklelaw00_Code.f none = some 0 := rfl
theorem code_20 : shacklelaw00_Code.f (some 20) = some 20 := by decide +kernel
theorem code_21 : shacklelaw00_Code.f (some 21) = some 21 := by decide +kernel

theorem tmod32 (v : Int) (h0 : 0 ≤ v) : Int.tmod v 4294967296 = v % 4294967296 := Int.tmod_eq_emod_of_nonneg h0

theorem values (off typ sym add base addr size mod offset : Int) (static : Bool) (below : Int) :
    Alike (reloc_Value.f 40 off typ sym add base addr size mod offset static below) (shackleref19_Value.f 40 off typ sym add base addr size mod offset static below) := by
  by_cases c0 : typ = 0
  · subst c0
    (simp [Alike, reloc_Value.f, reloc_Value.j0, reloc_Value.j1, shackleref19_Value.f, shackleref19_Value.l0, shackleref19_Value.j1, shackleref19_Value.j2, shackleref19_Value.j3, shackleref19_Value.j4, rd, wrap64]; exact ⟨_, _, _, ⟨rfl, rfl, rfl⟩, _, ⟨rfl, rfl, rfl⟩, code_none⟩)
  by_cases c1 : typ = 1
  · subst c1
    (simp [Alike, reloc_Value.f, reloc_Value.j0, reloc_Value.j1, shackleref19_Value.f, shackleref19_Value.l0, shackleref19_Value.j1, shackleref19_Value.j2, shackleref19_Value.j3, shackleref19_Value.j4, rd, wrap64]; exact ⟨_, _, _, ⟨rfl, rfl, rfl⟩, _, ⟨rfl, rfl, rfl⟩, code_none⟩)
  by_cases c2 : typ = 2
  · subst c2
    obtain ⟨v, hv⟩ : ∃ v, v = IntKind.u64.wrap (IntKind.u64.wrap (addr + IntKind.u64.wrap add) - IntKind.u64.wrap (base + off)) := ⟨_, rfl⟩
    have hr : 0 ≤ v ∧ v < 18446744073709551616 := by rw [hv, wrap_u64]; omega
    have hs := short_tells v hr.1 hr.2
    have ha := and32 v hr.1 hr.2
    have hm := tmod32 v hr.1
    by_cases h1 : v < 2147483648 ∨ v ≥ 18446744071562067968
    · refine ⟨v % 4294967296, 4, none, 0, ?_, ?_, code_none⟩
      · simp [reloc_Value.f, reloc_Value.j0, reloc_Value.j1, ← hv, hs, four_tells, h1, ha]
      · rcases h1 with h1 | h1
        · simp [shackleref19_Value.f, shackleref19_Value.l0, shackleref19_Value.j1, shackleref19_Value.j2, shackleref19_Value.j3, shackleref19_Value.j4, rd, wrap64, ← hv, h1, hm]
        · have h2 : ¬ v < 2147483648 := by omega
          simp [shackleref19_Value.f, shackleref19_Value.l0, shackleref19_Value.j1, shackleref19_Value.j2, shackleref19_Value.j3, shackleref19_Value.j4, rd, wrap64, ← hv, h1, h2, hm]
    · have h2 : ¬ v < 2147483648 := by omega
      have h3 : ¬ 18446744071562067968 ≤ v := by omega
      refine ⟨0, 0, some 20, 20, ?_, ?_, code_20⟩
      · simp [reloc_Value.f, reloc_Value.j0, reloc_Value.j1, ← hv, hs, four_tells, h2, h3]
      · simp [shackleref19_Value.f, shackleref19_Value.l0, shackleref19_Value.j1, shackleref19_Value.j2, shackleref19_Value.j3, shackleref19_Value.j4, rd, wrap64, ← hv, h2, h3]
  by_cases c6 : typ = 6
  · subst c6
    (simp [Alike, reloc_Value.f, reloc_Value.j0, reloc_Value.j1, shackleref19_Value.f, shackleref19_Value.l0, shackleref19_Value.j1, shackleref19_Value.j2, shackleref19_Value.j3, shackleref19_Value.j4, rd, wrap64]; exact ⟨_, _, _, ⟨rfl, rfl, rfl⟩, _, ⟨rfl, rfl, rfl⟩, code_none⟩)
  by_cases c7 : typ = 7
  · subst c7
    (simp [Alike, reloc_Value.f, reloc_Value.j0, reloc_Value.j1, shackleref19_Value.f, shackleref19_Value.l0, shackleref19_Value.j1, shackleref19_Value.j2, shackleref19_Value.j3, shackleref19_Value.j4, rd, wrap64]; exact ⟨_, _, _, ⟨rfl, rfl, rfl⟩, _, ⟨rfl, rfl, rfl⟩, code_none⟩)
  by_cases c8 : typ = 8
  · subst c8
    (simp [Alike, reloc_Value.f, reloc_Value.j0, reloc_Value.j1, shackleref19_Value.f, shackleref19_Value.l0, shackleref19_Value.j1, shackleref19_Value.j2, shackleref19_Value.j3, shackleref19_Value.j4, rd, wrap64]; exact ⟨_, _, _, ⟨rfl, rfl, rfl⟩, _, ⟨rfl, rfl, rfl⟩, code_none⟩)
  by_cases c10 : typ = 10
  · subst c10
    obtain ⟨v, hv⟩ : ∃ v, v = IntKind.u64.wrap (addr + IntKind.u64.wrap add) := ⟨_, rfl⟩
    have hr : 0 ≤ v ∧ v < 18446744073709551616 := by rw [hv, wrap_u64]; omega
    have ha := and32 v hr.1 hr.2
    have hm := tmod32 v hr.1
    by_cases h1 : v < 4294967296
    · have h2 : v / 4294967296 = 0 := by omega
      have h3 : ¬ 4294967296 ≤ v := by omega
      refine ⟨v % 4294967296, 4, none, 0, ?_, ?_, code_none⟩
      · simp [reloc_Value.f, reloc_Value.j0, reloc_Value.j1, ← hv, four_tells, h2, ha]
      · simp [shackleref19_Value.f, shackleref19_Value.l0, shackleref19_Value.j1, shackleref19_Value.j2, shackleref19_Value.j3, shackleref19_Value.j4, rd, wrap64, ← hv, h3, hm]
    · have h2 : ¬ v / 4294967296 = 0 := by omega
      have h3 : 4294967296 ≤ v := by omega
      refine ⟨0, 0, some 20, 20, ?_, ?_, code_20⟩
      · simp [reloc_Value.f, reloc_Value.j0, reloc_Value.j1, ← hv, four_tells, h2]
      · simp [shackleref19_Value.f, shackleref19_Value.l0, shackleref19_Value.j1, shackleref19_Value.j2, shackleref19_Value.j3, shackleref19_Value.j4, rd, wrap64, ← hv, h3]
  by_cases c11 : typ = 11
  · subst c11
    obtain ⟨v, hv⟩ : ∃ v, v = IntKind.u64.wrap (addr + IntKind.u64.wrap add) := ⟨_, rfl⟩
    have hr : 0 ≤ v ∧ v < 18446744073709551616 := by rw [hv, wrap_u64]; omega
    have hs := short_tells v hr.1 hr.2
    have ha := and32 v hr.1 hr.2
    have hm := tmod32 v hr.1
    by_cases h1 : v < 2147483648 ∨ v ≥ 18446744071562067968
    · refine ⟨v % 4294967296, 4, none, 0, ?_, ?_, code_none⟩
      · simp [reloc_Value.f, reloc_Value.j0, reloc_Value.j1, ← hv, hs, four_tells, h1, ha]
      · rcases h1 with h1 | h1
        · simp [shackleref19_Value.f, shackleref19_Value.l0, shackleref19_Value.j1, shackleref19_Value.j2, shackleref19_Value.j3, shackleref19_Value.j4, rd, wrap64, ← hv, h1, hm]
        · have h2 : ¬ v < 2147483648 := by omega
          simp [shackleref19_Value.f, shackleref19_Value.l0, shackleref19_Value.j1, shackleref19_Value.j2, shackleref19_Value.j3, shackleref19_Value.j4, rd, wrap64, ← hv, h1, h2, hm]
    · have h2 : ¬ v < 2147483648 := by omega
      have h3 : ¬ 18446744071562067968 ≤ v := by omega
      refine ⟨0, 0, some 20, 20, ?_, ?_, code_20⟩
      · simp [reloc_Value.f, reloc_Value.j0, reloc_Value.j1, ← hv, hs, four_tells, h2, h3]
      · simp [shackleref19_Value.f, shackleref19_Value.l0, shackleref19_Value.j1, shackleref19_Value.j2, shackleref19_Value.j3, shackleref19_Value.j4, rd, wrap64, ← hv, h2, h3]
  by_cases c16 : typ = 16
  · subst c16
    (simp [Alike, reloc_Value.f, reloc_Value.j0, reloc_Value.j1, shackleref19_Value.f, shackleref19_Value.l0, shackleref19_Value.j1, shackleref19_Value.j2, shackleref19_Value.j3, shackleref19_Value.j4, rd, wrap64]; exact ⟨_, _, _, ⟨rfl, rfl, rfl⟩, _, ⟨rfl, rfl, rfl⟩, code_none⟩)
  by_cases c17 : typ = 17
  · subst c17
    (simp [Alike, reloc_Value.f, reloc_Value.j0, reloc_Value.j1, shackleref19_Value.f, shackleref19_Value.l0, shackleref19_Value.j1, shackleref19_Value.j2, shackleref19_Value.j3, shackleref19_Value.j4, rd, wrap64]; exact ⟨_, _, _, ⟨rfl, rfl, rfl⟩, _, ⟨rfl, rfl, rfl⟩, code_none⟩)
  by_cases c18 : typ = 18
  · subst c18
    by_cases h1 : mod = 0
    · (simp [Alike, reloc_Value.f, reloc_Value.j0, reloc_Value.j1, h1, shackleref19_Value.f, shackleref19_Value.l0, shackleref19_Value.j1, shackleref19_Value.j2, shackleref19_Value.j3, shackleref19_Value.j4, rd, wrap64]; exact ⟨_, _, _, ⟨rfl, rfl, rfl⟩, _, ⟨rfl, rfl, rfl⟩, code_none⟩)
    · cases static with
      | true => (simp [Alike, reloc_Value.f, reloc_Value.j0, reloc_Value.j1, h1, shackleref19_Value.f, shackleref19_Value.l0, shackleref19_Value.j1, shackleref19_Value.j2, shackleref19_Value.j3, shackleref19_Value.j4, rd, wrap64]; exact ⟨_, _, _, ⟨rfl, rfl, rfl⟩, _, ⟨rfl, rfl, rfl⟩, code_none⟩)
      | false => (simp [Alike, reloc_Value.f, reloc_Value.j0, reloc_Value.j1, h1, shackleref19_Value.f, shackleref19_Value.l0, shackleref19_Value.j1, shackleref19_Value.j2, shackleref19_Value.j3, shackleref19_Value.j4, rd, wrap64]; exact ⟨_, _, _, ⟨rfl, rfl, rfl⟩, _, ⟨rfl, rfl, rfl⟩, code_21⟩)
  by_cases c24 : typ = 24
  · subst c24
    (simp [Alike, reloc_Value.f, reloc_Value.j0, reloc_Value.j1, shackleref19_Value.f, shackleref19_Value.l0, shackleref19_Value.j1, shackleref19_Value.j2, shackleref19_Value.j3, shackleref19_Value.j4, rd, wrap64]; exact ⟨_, _, _, ⟨rfl, rfl, rfl⟩, _, ⟨rfl, rfl, rfl⟩, code_none⟩)
  by_cases c32 : typ = 32
  · subst c32
    obtain ⟨v, hv⟩ : ∃ v, v = IntKind.u64.wrap (size + IntKind.u64.wrap add) := ⟨_, rfl⟩
    have hr : 0 ≤ v ∧ v < 18446744073709551616 := by rw [hv, wrap_u64]; omega
    have ha := and32 v hr.1 hr.2
    have hm := tmod32 v hr.1
    by_cases h1 : v < 4294967296
    · have h2 : v / 4294967296 = 0 := by omega
      have h3 : ¬ 4294967296 ≤ v := by omega
      refine ⟨v % 4294967296, 4, none, 0, ?_, ?_, code_none⟩
      · simp [reloc_Value.f, reloc_Value.j0, reloc_Value.j1, ← hv, four_tells, h2, ha]
      · simp [shackleref19_Value.f, shackleref19_Value.l0, shackleref19_Value.j1, shackleref19_Value.j2, shackleref19_Value.j3, shackleref19_Value.j4, rd, wrap64, ← hv, h3, hm]
    · have h2 : ¬ v / 4294967296 = 0 := by omega
      have h3 : 4294967296 ≤ v := by omega
      refine ⟨0, 0, some 20, 20, ?_, ?_, code_20⟩
      · simp [reloc_Value.f, reloc_Value.j0, reloc_Value.j1, ← hv, four_tells, h2]
      · simp [shackleref19_Value.f, shackleref19_Value.l0, shackleref19_Value.j1, shackleref19_Value.j2, shackleref19_Value.j3, shackleref19_Value.j4, rd, wrap64, ← hv, h3]
  by_cases c33 : typ = 33
  · subst c33
    (simp [Alike, reloc_Value.f, reloc_Value.j0, reloc_Value.j1, shackleref19_Value.f, shackleref19_Value.l0, shackleref19_Value.j1, shackleref19_Value.j2, shackleref19_Value.j3, shackleref19_Value.j4, rd, wrap64]; exact ⟨_, _, _, ⟨rfl, rfl, rfl⟩, _, ⟨rfl, rfl, rfl⟩, code_none⟩)
  by_cases c37 : typ = 37
  · subst c37
    (simp [Alike, reloc_Value.f, reloc_Value.j0, reloc_Value.j1, shackleref19_Value.f, shackleref19_Value.l0, shackleref19_Value.j1, shackleref19_Value.j2, shackleref19_Value.j3, shackleref19_Value.j4, rd, wrap64]; exact ⟨_, _, _, ⟨rfl, rfl, rfl⟩, _, ⟨rfl, rfl, rfl⟩, code_none⟩)
  exact ⟨0, 0, some 20, 20, by simp [reloc_Value.f, reloc_Value.j0, reloc_Value.j1, c0, c1, c2, c6, c7, c8, c10, c11, c16, c17, c18, c24, c32, c33, c37], by simp [shackleref19_Value.f, shackleref19_Value.l0, shackleref19_Value.j1, shackleref19_Value.j2, shackleref19_Value.j3, shackleref19_Value.j4, rd, wrap64, Ne.symm c0, Ne.symm c1, Ne.symm c2, Ne.symm c6, Ne.symm c7, Ne.symm c8, Ne.symm c10, Ne.symm c11, Ne.symm c16, Ne.symm c17, Ne.symm c18, Ne.symm c24, Ne.symm c32, Ne.symm c33, Ne.symm c37], code_20⟩

theorem RelocValues : shacklelaw19_RelocValues.Pure := by
  intro off typ sym add base addr size mod offset static below h0 h1 h2 h3 h4 h5 h6 h7 h8 h9
  refine ⟨40, ?_⟩
  unfold shacklelaw19_RelocValues.f
  obtain ⟨v, n, e, c, hp, hq, hc⟩ := values off typ sym add base addr size mod offset static below
  rw [up_holds, hp, hq]
  simp [hc]

end Go.Proofs.Ythhlnhbmjkjmlaa.Pure
