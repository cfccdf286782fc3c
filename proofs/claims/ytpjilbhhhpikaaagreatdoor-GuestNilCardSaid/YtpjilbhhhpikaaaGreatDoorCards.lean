/-
  DERIVED. GIVEN WITH THE SEED: THE CARDS: each row of YtpjilbhhhpikaaaGreatDoorRows.lean that lists a variable, with what it lists TIED to the program's text (the seventh form; the later family's looks); each row that meets fmt, with fmt's text TOLD by the authors' own Lean function (tested against real Go, not proved from fmt's source: count such statements apart). THE CARD IS WHAT COUNTS. Prove the row's statement (the work); the ties are given (YtpjilbhhhpikaaaGreatDoorTie.lean); close each card by the builder's one call (the guide's Derived/Test/ToyasCard.lean, 'card_holds'). Laid BY PROGRAM, IN A SANDBOX (cutbox-door.mjs). By AI agents, Wed Nov 11 2026. No macro, syntax, notation, axiom, sorry.
-/
import Derived.Test.YtpjilbhhhpikaaaGreatDoorRows
import GoSem.ClaimSeven
namespace Go.Proofs.YtpjilbhhhpikaaaGreatDoor
namespace Rows

/-- THE TIED CARD OF 'shacklelaw20.GuestNil'. -/
def guestNilCard : Claim7 := { stood := { row := guestNilRow, standIns := [], harness := (true, "94acaffd7446de9be7ada55fd4c4a178da9cb95999f188cae131b8d53c38e9f9"), looks := true }, kinds := [], alts := [], laidByText := true, laidKinds := [.handle], laidTests := true, laidLooks := .later }
def GuestNilCardSaid : Prop := Claim7.holds Tryz.pinned (.plain (OpenSpec.ofChange guestNilSpec)) guestNilCard

/-- THE SECOND FORM's CARD OF 'shacklelaw20.GuestNil'. -/
def guestNilUptoCard : Claim7 := { stood := { row := guestNilUptoRow, standIns := [], harness := (true, "94acaffd7446de9be7ada55fd4c4a178da9cb95999f188cae131b8d53c38e9f9"), looks := true }, kinds := [], alts := [], laidByText := true, laidKinds := [.handle], laidTests := true, laidLooks := .later }
def GuestNilUptoCardSaid : Prop := Claim7.holds Tryz.pinned (.plain (OpenSpec.upto guestNilSpec)) guestNilUptoCard
end Rows
end Go.Proofs.YtpjilbhhhpikaaaGreatDoor
