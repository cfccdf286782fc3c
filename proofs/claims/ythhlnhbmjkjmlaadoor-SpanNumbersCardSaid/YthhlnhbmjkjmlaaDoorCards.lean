/-
  DERIVED. GIVEN WITH THE SEED: THE CARDS: each row of YthhlnhbmjkjmlaaDoorRows.lean that lists a variable, with what it lists TIED to the program's text (the seventh form; the later family's looks); each row that meets fmt, with fmt's text TOLD by the authors' own Lean function (tested against real Go, not proved from fmt's source: count such statements apart). THE CARD IS WHAT COUNTS. Prove the row's statement (the work); the ties are given (YthhlnhbmjkjmlaaDoorTie.lean); close each card by the builder's one call (the guide's Derived/Test/ToyasCard.lean, 'card_holds'). Laid BY PROGRAM, IN A SANDBOX (cutbox-door.mjs). By AI agents, Wed Nov 11 2026. No macro, syntax, notation, axiom, sorry.
-/
import Derived.Test.YthhlnhbmjkjmlaaDoorRows
import GoSem.ClaimSeven
namespace Go.Proofs.YthhlnhbmjkjmlaaDoor
namespace Rows

/-- THE TIED CARD OF 'shacklelaw01.SpanTexts'. -/
def spanTextsCard : Claim7 := { stood := { row := spanTextsRow, standIns := [], harness := (true, "97f01108d5dab4491b4856afe10e8cb914ad979b9c06565e12a6d1d74c334dd6"), looks := true }, kinds := [], alts := [], laidByText := true, laidKinds := [.handle], laidTests := true, laidLooks := .later }
def SpanTextsCardSaid : Prop := Claim7.holds Tryd.pinned (.plain (OpenSpec.ofChange spanTextsSpec)) spanTextsCard

/-- THE TIED CARD OF 'shacklelaw01.SpanCuts'. -/
def spanCutsCard : Claim7 := { stood := { row := spanCutsRow, standIns := [], harness := (true, "97f01108d5dab4491b4856afe10e8cb914ad979b9c06565e12a6d1d74c334dd6"), looks := true }, kinds := [], alts := [], laidByText := true, laidKinds := [.handle], laidTests := true, laidLooks := .later }
def SpanCutsCardSaid : Prop := Claim7.holds Tryd.pinned (.plain (OpenSpec.ofChange spanCutsSpec)) spanCutsCard

/-- THE TIED CARD OF 'shacklelaw01.SpanNumbers'. -/
def spanNumbersCard : Claim7 := { stood := { row := spanNumbersRow, standIns := [], harness := (true, "97f01108d5dab4491b4856afe10e8cb914ad979b9c06565e12a6d1d74c334dd6"), looks := true }, kinds := [], alts := [], laidByText := true, laidKinds := [.handle], laidTests := true, laidLooks := .later }
def SpanNumbersCardSaid : Prop := Claim7.holds Tryd.pinned (.plain (OpenSpec.ofChange spanNumbersSpec)) spanNumbersCard

/-- THE SECOND FORM's CARD OF 'shacklelaw01.SpanTexts'. -/
def spanTextsUptoCard : Claim7 := { stood := { row := spanTextsUptoRow, standIns := [], harness := (true, "97f01108d5dab4491b4856afe10e8cb914ad979b9c06565e12a6d1d74c334dd6"), looks := true }, kinds := [], alts := [], laidByText := true, laidKinds := [.handle], laidTests := true, laidLooks := .later }
def SpanTextsUptoCardSaid : Prop := Claim7.holds Tryd.pinned (.plain (OpenSpec.upto spanTextsSpec)) spanTextsUptoCard

/-- THE SECOND FORM's CARD OF 'shacklelaw01.SpanCuts'. -/
def spanCutsUptoCard : Claim7 := { stood := { row := spanCutsUptoRow, standIns := [], harness := (true, "97f01108d5dab4491b4856afe10e8cb914ad979b9c06565e12a6d1d74c334dd6"), looks := true }, kinds := [], alts := [], laidByText := true, laidKinds := [.handle], laidTests := true, laidLooks := .later }
def SpanCutsUptoCardSaid : Prop := Claim7.holds Tryd.pinned (.plain (OpenSpec.upto spanCutsSpec)) spanCutsUptoCard

/-- THE SECOND FORM's CARD OF 'shacklelaw01.SpanNumbers'. -/
def spanNumbersUptoCard : Claim7 := { stood := { row := spanNumbersUptoRow, standIns := [], harness := (true, "97f01108d5dab4491b4856afe10e8cb914ad979b9c06565e12a6d1d74c334dd6"), looks := true }, kinds := [], alts := [], laidByText := true, laidKinds := [.handle], laidTests := true, laidLooks := .later }
def SpanNumbersUptoCardSaid : Prop := Claim7.holds Tryd.pinned (.plain (OpenSpec.upto spanNumbersSpec)) spanNumbersUptoCard
end Rows
end Go.Proofs.YthhlnhbmjkjmlaaDoor
