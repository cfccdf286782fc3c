/- shacklelaw19.RelocMoves: the pure statement: an object that is laid elsewhere has the same relative values, and others that are as far away. No condition beyond the numbers' own bounds. -/
import Derived.Test.YthhlnhbmjkjmlaaPRelocMovesx3
set_option linter.unusedSimpArgs false
set_option linter.unusedVariables false
namespace Go.Proofs.Ythhlnhbmjkjmlaa.Pure
open Go.RowKit Go.Proofs.Ythhlnhbmjkjmlaa.PRelocMoves Go.Proofs.YthhlnhbmjkjmlaaW.PrintWords Go.Proofs.YthhlnhbmjkjmlaaW.PrintLast Go.Proofs.YthhlnhbmjkjmlaaX

theorem wrap_u64 (n : Int) : IntKind.u64.wrap n = n % 18446744073709551616 := by simp [IntKind.wrap, IntKind.bits, IntKind.signed]

theorem up_holds : shacklelaw19_up.f 40 = some true := by decide +kernel
theorem code_none : shacklelaw00_Code.f none = some 0 := rfl
theorem code_20 : shacklelaw00_Code.f (some 20) = some 20 := by decide +kernel
theorem code_21 : shacklelaw00_Code.f (some 21) = some 21 := by decide +kernel
theorem short_some (v : Int) : ∃ b, reloc_short.f v = some b := ⟨_, rfl⟩
theorem four_tells (v : Int) (b : Bool) : reloc_four.f v b = if b = true then some (Go.bits .and .u64 v 4294967295, 4, none) else some (0, 0, some 20) := rfl

theorem RelocMoves : shacklelaw19_RelocMoves.Pure := by
  intro off typ sym add base addr size mod offset static below b h0 h1 h2 h3 h4 h5 h6 h7 h8 h9 h10
  have r4 : 0 ≤ base ∧ base < 18446744073709551616 := by simp [Lit.wf, IntKind.min, IntKind.max, IntKind.signed, IntKind.bits] at h4; omega
  have r5 : 0 ≤ addr ∧ addr < 18446744073709551616 := by simp [Lit.wf, IntKind.min, IntKind.max, IntKind.signed, IntKind.bits] at h5; omega
  refine ⟨40, ?_⟩
  unfold shacklelaw19_RelocMoves.f
  rw [up_holds]
  have e1 : ∀ A, IntKind.u64.wrap (IntKind.u64.wrap (addr + b) + A) = IntKind.u64.wrap (IntKind.u64.wrap (addr + A) + b) := by intro A; simp only [wrap_u64]; omega
  have e2 : ∀ A, IntKind.u64.wrap (IntKind.u64.wrap (base + b) + A) = IntKind.u64.wrap (IntKind.u64.wrap (base + A) + b) := by intro A; simp only [wrap_u64]; omega
  have e3 : ∀ A, IntKind.u64.wrap (IntKind.u64.wrap (IntKind.u64.wrap (addr + A) + b) - IntKind.u64.wrap (IntKind.u64.wrap (base + off) + b)) = IntKind.u64.wrap (IntKind.u64.wrap (addr + A) - IntKind.u64.wrap (base + off)) := by intro A; simp only [wrap_u64]; omega
  by_cases c0 : typ = 0
  · subst c0
    simp [reloc_Value.f, reloc_Value.j0, reloc_Value.j1, shacklelaw19_RelocMoves.j0, e1, e2, e3, code_none]
  by_cases c1 : typ = 1
  · subst c1
    simp [reloc_Value.f, reloc_Value.j0, reloc_Value.j1, shacklelaw19_RelocMoves.j0, e1, e2, e3, code_none]
  by_cases c2 : typ = 2
  · subst c2
    obtain ⟨s, hs⟩ := short_some (IntKind.u64.wrap (IntKind.u64.wrap (addr + IntKind.u64.wrap add) - IntKind.u64.wrap (base + off)))
    cases s <;> simp [reloc_Value.f, reloc_Value.j0, reloc_Value.j1, shacklelaw19_RelocMoves.j0, e1, e2, e3, code_none, hs, four_tells, code_20]
  by_cases c6 : typ = 6
  · subst c6
    simp [reloc_Value.f, reloc_Value.j0, reloc_Value.j1, shacklelaw19_RelocMoves.j0, e1, e2, e3, code_none]
  by_cases c7 : typ = 7
  · subst c7
    simp [reloc_Value.f, reloc_Value.j0, reloc_Value.j1, shacklelaw19_RelocMoves.j0, e1, e2, e3, code_none]
  by_cases c8 : typ = 8
  · subst c8
    simp [reloc_Value.f, reloc_Value.j0, reloc_Value.j1, shacklelaw19_RelocMoves.j0, e1, e2, e3, code_none]
  by_cases c10 : typ = 10
  · subst c10
    simp only [reloc_Value.f, reloc_Value.j0, reloc_Value.j1, shacklelaw19_RelocMoves.j0, e1, e2, e3, code_none, four_tells]
    by_cases g1 : IntKind.u64.wrap (addr + IntKind.u64.wrap add) / 4294967296 = 0 <;> by_cases g2 : IntKind.u64.wrap (IntKind.u64.wrap (addr + IntKind.u64.wrap add) + b) / 4294967296 = 0 <;> simp [g1, g2]
  by_cases c11 : typ = 11
  · subst c11
    obtain ⟨s, hs⟩ := short_some (IntKind.u64.wrap (addr + IntKind.u64.wrap add))
    obtain ⟨s2, hs2⟩ := short_some (IntKind.u64.wrap (IntKind.u64.wrap (addr + IntKind.u64.wrap add) + b))
    cases s <;> cases s2 <;> simp [reloc_Value.f, reloc_Value.j0, reloc_Value.j1, shacklelaw19_RelocMoves.j0, e1, e2, e3, code_none, hs, hs2, four_tells]
  by_cases c16 : typ = 16
  · subst c16
    simp [reloc_Value.f, reloc_Value.j0, reloc_Value.j1, shacklelaw19_RelocMoves.j0, e1, e2, e3, code_none]
  by_cases c17 : typ = 17
  · subst c17
    simp [reloc_Value.f, reloc_Value.j0, reloc_Value.j1, shacklelaw19_RelocMoves.j0, e1, e2, e3, code_none]
  by_cases c18 : typ = 18
  · subst c18
    by_cases g1 : mod = 0
    · simp [reloc_Value.f, reloc_Value.j0, reloc_Value.j1, shacklelaw19_RelocMoves.j0, e1, e2, e3, code_none, g1]
    · cases static <;> simp [reloc_Value.f, reloc_Value.j0, reloc_Value.j1, shacklelaw19_RelocMoves.j0, e1, e2, e3, code_none, g1, code_21]
  by_cases c24 : typ = 24
  · subst c24
    simp [reloc_Value.f, reloc_Value.j0, reloc_Value.j1, shacklelaw19_RelocMoves.j0, e1, e2, e3, code_none]
  by_cases c32 : typ = 32
  · subst c32
    by_cases g1 : IntKind.u64.wrap (size + IntKind.u64.wrap add) / 4294967296 = 0 <;> simp [reloc_Value.f, reloc_Value.j0, reloc_Value.j1, shacklelaw19_RelocMoves.j0, e1, e2, e3, code_none, four_tells, code_20, g1]
  by_cases c33 : typ = 33
  · subst c33
    simp [reloc_Value.f, reloc_Value.j0, reloc_Value.j1, shacklelaw19_RelocMoves.j0, e1, e2, e3, code_none]
  by_cases c37 : typ = 37
  · subst c37
    simp [reloc_Value.f, reloc_Value.j0, reloc_Value.j1, shacklelaw19_RelocMoves.j0, e1, e2, e3, code_none]
  simp [reloc_Value.f, reloc_Value.j0, reloc_Value.j1, shacklelaw19_RelocMoves.j0, e1, e2, e3, code_none, c0, c1, c2, c6, c7, c8, c10, c11, c16, c17, c18, c24, c32, c33, c37]

end Go.Proofs.Ythhlnhbmjkjmlaa.Pure
