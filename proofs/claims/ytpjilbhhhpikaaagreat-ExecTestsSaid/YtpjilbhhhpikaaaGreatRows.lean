/-
  No cell of these rows narrows 'for every input' (looked for: loops, veiled, ifaces, maps, wideKeys, modest, calm, conditions, laid).
  DERIVED. THE GIVEN ROWS OF THIS SEAT. 8 by the template 'for every input the law returns true; each argument reads behind the call as it read before'; 0 by the template 'total and deterministic' (their statements: YtpjilbhhhpikaaaGreatTotals.lean).
  GIVEN WITH THE SEED: the statements are not yours to turn. If you find one false, say at which input.
  Laid BY PROGRAM, IN A SANDBOX (cutbox-rows.mjs): the forced cells as the released guide's own fill.sh prints them over the translation 6f605ab11cca5e41… (all of the seat's roots in one cut). By AI agents, Wed Nov 11 2026. No macro, syntax, notation, axiom, sorry.
-/
import Derived.Test.YtpjilbhhhpikaaaGreatChecked
import GoSem.Claim
import GoSem.ClaimJoined
import GoSem.ClaimMapViews
import Derived.JoinedTies
import Derived.KernelRfl
namespace Go.Proofs.YtpjilbhhhpikaaaGreat
/- THE CELL 'sum', in the pinned program and in every row, IS THE sha256 OF THE DUMP (.gsa) THAT YtpjilbhhhpikaaaGreatProg.lean LOADS. Nothing in Lean hashes anything: it is a label: what it is worth is what the hold of that sum in a sandbox is worth. -/
noncomputable def Tryz.pinned : Pinned := { name := "ytpjilbhhhpikaaagreat", sum := "6f605ab11cca5e412fbc3293cdb4dded843ec316f3099de323daee12d2d60b9b", checked := Tryz.checked }
namespace Rows
def none {H : Type} : Left H := { results := [], args := [] }

/-- 'shacklelaw13.ExecTests': WHATEVER THE INPUT: true; the input reads as it did. -/
def execTestsSpec : ChangeSpec := { name := "execTests", fn := fun _ => fun
  | [d1, d2] => { results := [.lit (.bool true)], args := [d1, d2] }
  | _ => none }
def execTestsRow : OpenClaim := { program := "ytpjilbhhhpikaaagreat", sum := "6f605ab11cca5e412fbc3293cdb4dded843ec316f3099de323daee12d2d60b9b", func := "shackle/shacklelaw13.ExecTests", spec := "execTests", unfollowed := true, recurses := true, apart := false }
def ExecTestsSaid : Prop := execTestsRow.holds Tryz.pinned (OpenSpec.ofChange execTestsSpec)

/-- ITS FALSE NEIGHBOUR: 'it returns false'. Refute it at one input. -/
def execTestsWrong : ChangeSpec := { name := "execTests", fn := fun _ => fun
  | [d1, d2] => { results := [.lit (.bool false)], args := [d1, d2] }
  | _ => none }
def ExecTestsWrongFalsely : Prop := execTestsRow.holds Tryz.pinned (OpenSpec.ofChange execTestsWrong)

/-- 'shacklelaw13.ExecNil': WHATEVER THE INPUT: true; the input reads as it did. -/
def execNilSpec : ChangeSpec := { name := "execNil", fn := fun _ => fun
  | [d] => { results := [.lit (.bool true)], args := [d] }
  | _ => none }
def execNilRow : OpenClaim := { program := "ytpjilbhhhpikaaagreat", sum := "6f605ab11cca5e412fbc3293cdb4dded843ec316f3099de323daee12d2d60b9b", func := "shackle/shacklelaw13.ExecNil", spec := "execNil", unfollowed := true, recurses := true, apart := false }
def ExecNilSaid : Prop := execNilRow.holds Tryz.pinned (OpenSpec.ofChange execNilSpec)

/-- ITS FALSE NEIGHBOUR: 'it returns false'. Refute it at one input. -/
def execNilWrong : ChangeSpec := { name := "execNil", fn := fun _ => fun
  | [d] => { results := [.lit (.bool false)], args := [d] }
  | _ => none }
def ExecNilWrongFalsely : Prop := execNilRow.holds Tryz.pinned (OpenSpec.ofChange execNilWrong)

/-- 'shacklelaw20.GuestTraps': WHATEVER THE INPUT: true; the input reads as it did. -/
def guestTrapsSpec : ChangeSpec := { name := "guestTraps", fn := fun _ => fun
  | [d] => { results := [.lit (.bool true)], args := [d] }
  | _ => none }
def guestTrapsRow : OpenClaim := { program := "ytpjilbhhhpikaaagreat", sum := "6f605ab11cca5e412fbc3293cdb4dded843ec316f3099de323daee12d2d60b9b", func := "shackle/shacklelaw20.GuestTraps", spec := "guestTraps", unfollowed := true, recurses := true, apart := false }
def GuestTrapsSaid : Prop := guestTrapsRow.holds Tryz.pinned (OpenSpec.ofChange guestTrapsSpec)

/-- ITS FALSE NEIGHBOUR: 'it returns false'. Refute it at one input. -/
def guestTrapsWrong : ChangeSpec := { name := "guestTraps", fn := fun _ => fun
  | [d] => { results := [.lit (.bool false)], args := [d] }
  | _ => none }
def GuestTrapsWrongFalsely : Prop := guestTrapsRow.holds Tryz.pinned (OpenSpec.ofChange guestTrapsWrong)

/-- 'shacklelaw20.GuestArgs': WHATEVER THE INPUT: true; the input reads as it did. -/
def guestArgsSpec : ChangeSpec := { name := "guestArgs", fn := fun _ => fun
  | [d1, d2, d3] => { results := [.lit (.bool true)], args := [d1, d2, d3] }
  | _ => none }
def guestArgsRow : OpenClaim := { program := "ytpjilbhhhpikaaagreat", sum := "6f605ab11cca5e412fbc3293cdb4dded843ec316f3099de323daee12d2d60b9b", func := "shackle/shacklelaw20.GuestArgs", spec := "guestArgs", unfollowed := true, recurses := true, apart := false }
def GuestArgsSaid : Prop := guestArgsRow.holds Tryz.pinned (OpenSpec.ofChange guestArgsSpec)

/-- ITS FALSE NEIGHBOUR: 'it returns false'. Refute it at one input. -/
def guestArgsWrong : ChangeSpec := { name := "guestArgs", fn := fun _ => fun
  | [d1, d2, d3] => { results := [.lit (.bool false)], args := [d1, d2, d3] }
  | _ => none }
def GuestArgsWrongFalsely : Prop := guestArgsRow.holds Tryz.pinned (OpenSpec.ofChange guestArgsWrong)

/-- 'shacklelaw13.ExecSums': WHATEVER THE INPUT: true; the input reads as it did. -/
def execSumsSpec : ChangeSpec := { name := "execSums", fn := fun _ => fun
  | [d1, d2, d3] => { results := [.lit (.bool true)], args := [d1, d2, d3] }
  | _ => none }
def execSumsRow : OpenClaim := { program := "ytpjilbhhhpikaaagreat", sum := "6f605ab11cca5e412fbc3293cdb4dded843ec316f3099de323daee12d2d60b9b", func := "shackle/shacklelaw13.ExecSums", spec := "execSums", inPlace := ["internal/bytealg.Compare"], unfollowed := true, recurses := true, apart := false }
def ExecSumsSaid : Prop := execSumsRow.holds Tryz.pinned (OpenSpec.ofChange execSumsSpec)

/-- ITS FALSE NEIGHBOUR: 'it returns false'. Refute it at one input. -/
def execSumsWrong : ChangeSpec := { name := "execSums", fn := fun _ => fun
  | [d1, d2, d3] => { results := [.lit (.bool false)], args := [d1, d2, d3] }
  | _ => none }
def ExecSumsWrongFalsely : Prop := execSumsRow.holds Tryz.pinned (OpenSpec.ofChange execSumsWrong)

/-- 'shacklelaw13.ExecStack': WHATEVER THE INPUT: true; the input reads as it did. -/
def execStackSpec : ChangeSpec := { name := "execStack", fn := fun _ => fun
  | [d1, d2, d3] => { results := [.lit (.bool true)], args := [d1, d2, d3] }
  | _ => none }
def execStackRow : OpenClaim := { program := "ytpjilbhhhpikaaagreat", sum := "6f605ab11cca5e412fbc3293cdb4dded843ec316f3099de323daee12d2d60b9b", func := "shackle/shacklelaw13.ExecStack", spec := "execStack", inPlace := ["internal/bytealg.Compare"], unfollowed := true, recurses := true, apart := false }
def ExecStackSaid : Prop := execStackRow.holds Tryz.pinned (OpenSpec.ofChange execStackSpec)

/-- ITS FALSE NEIGHBOUR: 'it returns false'. Refute it at one input. -/
def execStackWrong : ChangeSpec := { name := "execStack", fn := fun _ => fun
  | [d1, d2, d3] => { results := [.lit (.bool false)], args := [d1, d2, d3] }
  | _ => none }
def ExecStackWrongFalsely : Prop := execStackRow.holds Tryz.pinned (OpenSpec.ofChange execStackWrong)

/-- 'shacklelaw13.ExecJumps': WHATEVER THE INPUT: true; the input reads as it did. -/
def execJumpsSpec : ChangeSpec := { name := "execJumps", fn := fun _ => fun
  | [d1, d2, d3] => { results := [.lit (.bool true)], args := [d1, d2, d3] }
  | _ => none }
def execJumpsRow : OpenClaim := { program := "ytpjilbhhhpikaaagreat", sum := "6f605ab11cca5e412fbc3293cdb4dded843ec316f3099de323daee12d2d60b9b", func := "shackle/shacklelaw13.ExecJumps", spec := "execJumps", inPlace := ["internal/bytealg.Compare"], unfollowed := true, recurses := true, apart := false }
def ExecJumpsSaid : Prop := execJumpsRow.holds Tryz.pinned (OpenSpec.ofChange execJumpsSpec)

/-- ITS FALSE NEIGHBOUR: 'it returns false'. Refute it at one input. -/
def execJumpsWrong : ChangeSpec := { name := "execJumps", fn := fun _ => fun
  | [d1, d2, d3] => { results := [.lit (.bool false)], args := [d1, d2, d3] }
  | _ => none }
def ExecJumpsWrongFalsely : Prop := execJumpsRow.holds Tryz.pinned (OpenSpec.ofChange execJumpsWrong)

/-- 'shacklelaw13.ExecMoves': WHATEVER THE INPUT: true; the input reads as it did. -/
def execMovesSpec : ChangeSpec := { name := "execMoves", fn := fun _ => fun
  | [d1, d2, d3, d4] => { results := [.lit (.bool true)], args := [d1, d2, d3, d4] }
  | _ => none }
def execMovesRow : OpenClaim := { program := "ytpjilbhhhpikaaagreat", sum := "6f605ab11cca5e412fbc3293cdb4dded843ec316f3099de323daee12d2d60b9b", func := "shackle/shacklelaw13.ExecMoves", spec := "execMoves", inPlace := ["internal/bytealg.Compare"], unfollowed := true, recurses := true, apart := false }
def ExecMovesSaid : Prop := execMovesRow.holds Tryz.pinned (OpenSpec.ofChange execMovesSpec)

/-- ITS FALSE NEIGHBOUR: 'it returns false'. Refute it at one input. -/
def execMovesWrong : ChangeSpec := { name := "execMoves", fn := fun _ => fun
  | [d1, d2, d3, d4] => { results := [.lit (.bool false)], args := [d1, d2, d3, d4] }
  | _ => none }
def ExecMovesWrongFalsely : Prop := execMovesRow.holds Tryz.pinned (OpenSpec.ofChange execMovesWrong)

/- THE SECOND FORM. 'bulk': how many values and letters a reading holds, each counted each time it is reached (what is shared counts as often as it is met; a slice's spare places count too). A statement '..UptoSaid' is the law's where the arguments, and the package variables that the reading takes, are together of bulk at most 1048576: NARROWER than '..Said'. Prove '..Said' where nothing that the law and all that it calls make is longer than what came in: it says more and counts as full. Else prove '..UptoSaid'. A law counts once. -/
mutual
def uptoBulk {H : Type} : DataW H → Nat
  | .lit (.string bytes) => bytes.length + 1
  | .lit _ => 1
  | .nil => 1
  | .ptr d => uptoBulk d + 1
  | .slice elems spare => uptoBulkAll elems + uptoBulkAll spare + 1
  | .agg parts => uptoBulkAll parts + 1
  | .iface _ d => uptoBulk d + 1
  | .map entries => uptoBulkEntries entries + 1
  | .held _ => 1
def uptoBulkAll {H : Type} : List (DataW H) → Nat
  | [] => 0
  | d :: r => uptoBulk d + uptoBulkAll r
def uptoBulkEntries {H : Type} : List (Lit × DataW H) → Nat
  | [] => 0
  | x :: r => uptoBulkEntry x + uptoBulkEntries r
def uptoBulkEntry {H : Type} : Lit × DataW H → Nat
  | (.string bytes, d) => bytes.length + uptoBulk d + 1
  | (_, d) => uptoBulk d + 1
 end
def uptoSmall : (H : Type) → List (DataW H) → Bool := fun _ ds => decide (uptoBulkAll ds ≤ 1048576)
def OpenSpec.upto (s : _root_.Go.ChangeSpec) : _root_.Go.OpenSpec := { _root_.Go.OpenSpec.ofChange s with cond := some uptoSmall }

/-- 'shacklelaw13.ExecTests', WHERE WHAT IT READS IS OF BULK AT MOST 1048576: true; the input reads as it did. -/
def execTestsUptoRow : OpenClaim := { program := "ytpjilbhhhpikaaagreat", sum := "6f605ab11cca5e412fbc3293cdb4dded843ec316f3099de323daee12d2d60b9b", func := "shackle/shacklelaw13.ExecTests", spec := "execTests", unfollowed := true, recurses := true, apart := false, narrowed := true }
def ExecTestsUptoSaid : Prop := execTestsUptoRow.holds Tryz.pinned (OpenSpec.upto execTestsSpec)

/-- 'shacklelaw13.ExecNil', WHERE WHAT IT READS IS OF BULK AT MOST 1048576: true; the input reads as it did. -/
def execNilUptoRow : OpenClaim := { program := "ytpjilbhhhpikaaagreat", sum := "6f605ab11cca5e412fbc3293cdb4dded843ec316f3099de323daee12d2d60b9b", func := "shackle/shacklelaw13.ExecNil", spec := "execNil", unfollowed := true, recurses := true, apart := false, narrowed := true }
def ExecNilUptoSaid : Prop := execNilUptoRow.holds Tryz.pinned (OpenSpec.upto execNilSpec)

/-- 'shacklelaw20.GuestTraps', WHERE WHAT IT READS IS OF BULK AT MOST 1048576: true; the input reads as it did. -/
def guestTrapsUptoRow : OpenClaim := { program := "ytpjilbhhhpikaaagreat", sum := "6f605ab11cca5e412fbc3293cdb4dded843ec316f3099de323daee12d2d60b9b", func := "shackle/shacklelaw20.GuestTraps", spec := "guestTraps", unfollowed := true, recurses := true, apart := false, narrowed := true }
def GuestTrapsUptoSaid : Prop := guestTrapsUptoRow.holds Tryz.pinned (OpenSpec.upto guestTrapsSpec)

/-- 'shacklelaw20.GuestArgs', WHERE WHAT IT READS IS OF BULK AT MOST 1048576: true; the input reads as it did. -/
def guestArgsUptoRow : OpenClaim := { program := "ytpjilbhhhpikaaagreat", sum := "6f605ab11cca5e412fbc3293cdb4dded843ec316f3099de323daee12d2d60b9b", func := "shackle/shacklelaw20.GuestArgs", spec := "guestArgs", unfollowed := true, recurses := true, apart := false, narrowed := true }
def GuestArgsUptoSaid : Prop := guestArgsUptoRow.holds Tryz.pinned (OpenSpec.upto guestArgsSpec)

/-- 'shacklelaw13.ExecSums', WHERE WHAT IT READS IS OF BULK AT MOST 1048576: true; the input reads as it did. -/
def execSumsUptoRow : OpenClaim := { program := "ytpjilbhhhpikaaagreat", sum := "6f605ab11cca5e412fbc3293cdb4dded843ec316f3099de323daee12d2d60b9b", func := "shackle/shacklelaw13.ExecSums", spec := "execSums", inPlace := ["internal/bytealg.Compare"], unfollowed := true, recurses := true, apart := false, narrowed := true }
def ExecSumsUptoSaid : Prop := execSumsUptoRow.holds Tryz.pinned (OpenSpec.upto execSumsSpec)

/-- 'shacklelaw13.ExecStack', WHERE WHAT IT READS IS OF BULK AT MOST 1048576: true; the input reads as it did. -/
def execStackUptoRow : OpenClaim := { program := "ytpjilbhhhpikaaagreat", sum := "6f605ab11cca5e412fbc3293cdb4dded843ec316f3099de323daee12d2d60b9b", func := "shackle/shacklelaw13.ExecStack", spec := "execStack", inPlace := ["internal/bytealg.Compare"], unfollowed := true, recurses := true, apart := false, narrowed := true }
def ExecStackUptoSaid : Prop := execStackUptoRow.holds Tryz.pinned (OpenSpec.upto execStackSpec)

/-- 'shacklelaw13.ExecJumps', WHERE WHAT IT READS IS OF BULK AT MOST 1048576: true; the input reads as it did. -/
def execJumpsUptoRow : OpenClaim := { program := "ytpjilbhhhpikaaagreat", sum := "6f605ab11cca5e412fbc3293cdb4dded843ec316f3099de323daee12d2d60b9b", func := "shackle/shacklelaw13.ExecJumps", spec := "execJumps", inPlace := ["internal/bytealg.Compare"], unfollowed := true, recurses := true, apart := false, narrowed := true }
def ExecJumpsUptoSaid : Prop := execJumpsUptoRow.holds Tryz.pinned (OpenSpec.upto execJumpsSpec)

/-- 'shacklelaw13.ExecMoves', WHERE WHAT IT READS IS OF BULK AT MOST 1048576: true; the input reads as it did. -/
def execMovesUptoRow : OpenClaim := { program := "ytpjilbhhhpikaaagreat", sum := "6f605ab11cca5e412fbc3293cdb4dded843ec316f3099de323daee12d2d60b9b", func := "shackle/shacklelaw13.ExecMoves", spec := "execMoves", inPlace := ["internal/bytealg.Compare"], unfollowed := true, recurses := true, apart := false, narrowed := true }
def ExecMovesUptoSaid : Prop := execMovesUptoRow.holds Tryz.pinned (OpenSpec.upto execMovesSpec)

end Rows
end Go.Proofs.YtpjilbhhhpikaaaGreat
