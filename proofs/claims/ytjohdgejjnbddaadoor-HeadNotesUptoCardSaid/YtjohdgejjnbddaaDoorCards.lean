/-
  DERIVED. GIVEN WITH THE SEED: THE CARDS: each row of YtjohdgejjnbddaaDoorRows.lean that lists a variable, with what it lists TIED to the program's text (the seventh form; the later family's looks); each row that meets fmt, with fmt's text TOLD by the authors' own Lean function (tested against real Go, not proved from fmt's source: count such statements apart). THE CARD IS WHAT COUNTS. Prove the row's statement (the work); the ties are given (YtjohdgejjnbddaaDoorTie.lean); close each card by the builder's one call (the guide's Derived/Test/ToyasCard.lean, 'card_holds'). Laid BY PROGRAM, IN A SANDBOX (cutbox-door.mjs). By AI agents, Wed Nov 11 2026. No macro, syntax, notation, axiom, sorry.
-/
import Derived.Test.YtjohdgejjnbddaaDoorRows
import GoSem.ClaimSeven
namespace Go.Proofs.YtjohdgejjnbddaaDoor
namespace Rows

/-- THE TIED CARD OF 'shacklelaw04.HeadReads'. -/
def headReadsCard : Claim7 := { stood := { row := headReadsRow, standIns := [], harness := (true, "25d8ed7c2913a061bcfa6f58f24de149120174f3c99774ccfb8b6b3d9f623a91"), looks := true }, kinds := [], alts := [], laidByText := true, laidKinds := [.handle, .data], laidTests := true, laidLooks := .later }
def HeadReadsCardSaid : Prop := Claim7.holds Tryd.pinned (.plain (OpenSpec.ofChange headReadsSpec)) headReadsCard

/-- THE TIED CARD OF 'shacklelaw04.HeadInterps'. -/
def headInterpsCard : Claim7 := { stood := { row := headInterpsRow, standIns := [], harness := (true, "25d8ed7c2913a061bcfa6f58f24de149120174f3c99774ccfb8b6b3d9f623a91"), looks := true }, kinds := [], alts := [], laidByText := true, laidKinds := [.handle, .data], laidTests := true, laidLooks := .later }
def HeadInterpsCardSaid : Prop := Claim7.holds Tryd.pinned (.plain (OpenSpec.ofChange headInterpsSpec)) headInterpsCard

/-- THE TIED CARD OF 'shacklelaw04.HeadBack'. -/
def headBackCard : Claim7 := { stood := { row := headBackRow, standIns := [], harness := (true, "25d8ed7c2913a061bcfa6f58f24de149120174f3c99774ccfb8b6b3d9f623a91"), looks := true }, kinds := [], alts := [], laidByText := true, laidKinds := [.handle, .data], laidTests := true, laidLooks := .later }
def HeadBackCardSaid : Prop := Claim7.holds Tryd.pinned (.plain (OpenSpec.ofChange headBackSpec)) headBackCard

/-- THE TIED CARD OF 'shacklelaw04.HeadNotes'. -/
def headNotesCard : Claim7 := { stood := { row := headNotesRow, standIns := [], harness := (true, "25d8ed7c2913a061bcfa6f58f24de149120174f3c99774ccfb8b6b3d9f623a91"), looks := true }, kinds := [], alts := [], laidByText := true, laidKinds := [.handle, .data], laidTests := true, laidLooks := .later }
def HeadNotesCardSaid : Prop := Claim7.holds Tryd.pinned (.plain (OpenSpec.ofChange headNotesSpec)) headNotesCard

/-- THE TIED CARD OF 'shacklelaw12.DecodeJoins'. -/
def decodeJoinsCard : Claim7 := { stood := { row := decodeJoinsRow, standIns := [], harness := (true, "25d8ed7c2913a061bcfa6f58f24de149120174f3c99774ccfb8b6b3d9f623a91"), looks := true }, kinds := [], alts := [], laidByText := true, laidKinds := [.handle], laidTests := true, laidLooks := .later }
def DecodeJoinsCardSaid : Prop := Claim7.holds Tryd.pinned (.plain (OpenSpec.ofChange decodeJoinsSpec)) decodeJoinsCard

/-- THE SECOND FORM's CARD OF 'shacklelaw04.HeadReads'. -/
def headReadsUptoCard : Claim7 := { stood := { row := headReadsUptoRow, standIns := [], harness := (true, "25d8ed7c2913a061bcfa6f58f24de149120174f3c99774ccfb8b6b3d9f623a91"), looks := true }, kinds := [], alts := [], laidByText := true, laidKinds := [.handle, .data], laidTests := true, laidLooks := .later }
def HeadReadsUptoCardSaid : Prop := Claim7.holds Tryd.pinned (.plain (OpenSpec.upto headReadsSpec)) headReadsUptoCard

/-- THE SECOND FORM's CARD OF 'shacklelaw04.HeadInterps'. -/
def headInterpsUptoCard : Claim7 := { stood := { row := headInterpsUptoRow, standIns := [], harness := (true, "25d8ed7c2913a061bcfa6f58f24de149120174f3c99774ccfb8b6b3d9f623a91"), looks := true }, kinds := [], alts := [], laidByText := true, laidKinds := [.handle, .data], laidTests := true, laidLooks := .later }
def HeadInterpsUptoCardSaid : Prop := Claim7.holds Tryd.pinned (.plain (OpenSpec.upto headInterpsSpec)) headInterpsUptoCard

/-- THE SECOND FORM's CARD OF 'shacklelaw04.HeadBack'. -/
def headBackUptoCard : Claim7 := { stood := { row := headBackUptoRow, standIns := [], harness := (true, "25d8ed7c2913a061bcfa6f58f24de149120174f3c99774ccfb8b6b3d9f623a91"), looks := true }, kinds := [], alts := [], laidByText := true, laidKinds := [.handle, .data], laidTests := true, laidLooks := .later }
def HeadBackUptoCardSaid : Prop := Claim7.holds Tryd.pinned (.plain (OpenSpec.upto headBackSpec)) headBackUptoCard

/-- THE SECOND FORM's CARD OF 'shacklelaw04.HeadNotes'. -/
def headNotesUptoCard : Claim7 := { stood := { row := headNotesUptoRow, standIns := [], harness := (true, "25d8ed7c2913a061bcfa6f58f24de149120174f3c99774ccfb8b6b3d9f623a91"), looks := true }, kinds := [], alts := [], laidByText := true, laidKinds := [.handle, .data], laidTests := true, laidLooks := .later }
def HeadNotesUptoCardSaid : Prop := Claim7.holds Tryd.pinned (.plain (OpenSpec.upto headNotesSpec)) headNotesUptoCard

/-- THE SECOND FORM's CARD OF 'shacklelaw12.DecodeJoins'. -/
def decodeJoinsUptoCard : Claim7 := { stood := { row := decodeJoinsUptoRow, standIns := [], harness := (true, "25d8ed7c2913a061bcfa6f58f24de149120174f3c99774ccfb8b6b3d9f623a91"), looks := true }, kinds := [], alts := [], laidByText := true, laidKinds := [.handle], laidTests := true, laidLooks := .later }
def DecodeJoinsUptoCardSaid : Prop := Claim7.holds Tryd.pinned (.plain (OpenSpec.upto decodeJoinsSpec)) decodeJoinsUptoCard
end Rows
end Go.Proofs.YtjohdgejjnbddaaDoor
