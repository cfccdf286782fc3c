/-
  No cell of these rows narrows 'for every input' (looked for: loops, veiled, ifaces, maps, wideKeys, modest, calm, conditions, laid).
  DERIVED. THE GIVEN ROWS OF THIS SEAT. 3 by the template 'for every input the law returns true; each argument reads behind the call as it read before'; 0 by the template 'total and deterministic' (their statements: YtpjilbhhhpikaaaTotals.lean).
  GIVEN WITH THE SEED: the statements are not yours to turn. If you find one false, say at which input.
  Laid BY PROGRAM, IN A SANDBOX (cutbox-rows.mjs): the forced cells as the released guide's own fill.sh prints them over the translation d204bec81bbb69f6… (all of the seat's roots in one cut). By AI agents, Wed Nov 11 2026. No macro, syntax, notation, axiom, sorry.
-/
import Derived.Test.YtpjilbhhhpikaaaChecked
import GoSem.Claim
import GoSem.ClaimJoined
import GoSem.ClaimMapViews
import Derived.JoinedTies
import Derived.KernelRfl
namespace Go.Proofs.Ytpjilbhhhpikaaa
/- THE CELL 'sum', in the pinned program and in every row, IS THE sha256 OF THE DUMP (.gsa) THAT YtpjilbhhhpikaaaProg.lean LOADS. Nothing in Lean hashes anything: it is a label: what it is worth is what the hold of that sum in a sandbox is worth. -/
noncomputable def Try.pinned : Pinned := { name := "ytpjilbhhhpikaaa", sum := "d204bec81bbb69f6b2e0d4368c93bc795297ab819692ceea8d839957455a28a0", checked := Try.checked }
namespace Rows
def none {H : Type} : Left H := { results := [], args := [] }

/-- 'shacklelaw18.TlsLays': WHATEVER THE INPUT: true; the input reads as it did. -/
def tlsLaysSpec : ChangeSpec := { name := "tlsLays", fn := fun _ => fun
  | [d] => { results := [.lit (.bool true)], args := [d] }
  | _ => none }
def tlsLaysRow : OpenClaim := { program := "ytpjilbhhhpikaaa", sum := "d204bec81bbb69f6b2e0d4368c93bc795297ab819692ceea8d839957455a28a0", func := "shackle/shacklelaw18.TlsLays", spec := "tlsLays", inPlace := ["math/bits.Add64"], unfollowed := true, recurses := true, apart := false }
def TlsLaysSaid : Prop := tlsLaysRow.holds Try.pinned (OpenSpec.ofChange tlsLaysSpec)

/-- ITS FALSE NEIGHBOUR: 'it returns false'. Refute it at one input. -/
def tlsLaysWrong : ChangeSpec := { name := "tlsLays", fn := fun _ => fun
  | [d] => { results := [.lit (.bool false)], args := [d] }
  | _ => none }
def TlsLaysWrongFalsely : Prop := tlsLaysRow.holds Try.pinned (OpenSpec.ofChange tlsLaysWrong)

/-- 'shacklelaw18.TlsSteps': WHATEVER THE INPUT: true; the input reads as it did. -/
def tlsStepsSpec : ChangeSpec := { name := "tlsSteps", fn := fun _ => fun
  | [d1, d2] => { results := [.lit (.bool true)], args := [d1, d2] }
  | _ => none }
def tlsStepsRow : OpenClaim := { program := "ytpjilbhhhpikaaa", sum := "d204bec81bbb69f6b2e0d4368c93bc795297ab819692ceea8d839957455a28a0", func := "shackle/shacklelaw18.TlsSteps", spec := "tlsSteps", inPlace := ["math/bits.Add64"], unfollowed := true, recurses := true, apart := false }
def TlsStepsSaid : Prop := tlsStepsRow.holds Try.pinned (OpenSpec.ofChange tlsStepsSpec)

/-- ITS FALSE NEIGHBOUR: 'it returns false'. Refute it at one input. -/
def tlsStepsWrong : ChangeSpec := { name := "tlsSteps", fn := fun _ => fun
  | [d1, d2] => { results := [.lit (.bool false)], args := [d1, d2] }
  | _ => none }
def TlsStepsWrongFalsely : Prop := tlsStepsRow.holds Try.pinned (OpenSpec.ofChange tlsStepsWrong)

/-- 'shacklelaw15.PlaceNil': WHATEVER THE INPUT: true; the input reads as it did. -/
def placeNilSpec : ChangeSpec := { name := "placeNil", fn := fun _ => fun
  | [d1, d2] => { results := [.lit (.bool true)], args := [d1, d2] }
  | _ => none }
def placeNilRow : OpenClaim := { program := "ytpjilbhhhpikaaa", sum := "d204bec81bbb69f6b2e0d4368c93bc795297ab819692ceea8d839957455a28a0", func := "shackle/shacklelaw15.PlaceNil", spec := "placeNil", inPlace := ["math/bits.Add64"], unfollowed := true, recurses := true, apart := false }
def PlaceNilSaid : Prop := placeNilRow.holds Try.pinned (OpenSpec.ofChange placeNilSpec)

/-- ITS FALSE NEIGHBOUR: 'it returns false'. Refute it at one input. -/
def placeNilWrong : ChangeSpec := { name := "placeNil", fn := fun _ => fun
  | [d1, d2] => { results := [.lit (.bool false)], args := [d1, d2] }
  | _ => none }
def PlaceNilWrongFalsely : Prop := placeNilRow.holds Try.pinned (OpenSpec.ofChange placeNilWrong)

/- THE SECOND FORM. 'bulk': how many values and letters a reading holds, each counted each time it is reached (what is shared counts as often as it is met; a slice's spare places count too). A statement '..UptoSaid' is the law's where the arguments, and the package variables that the reading takes, are together of bulk at most 1048576: NARROWER than '..Said'. Prove '..Said' where nothing that the law and all that it calls make is longer than what came in: it says more and counts as full. Else prove '..UptoSaid'. A law counts once. -/
mutual
def uptoBulk {H : Type} : DataW H → Nat
  | .lit (.string bytes) => bytes.length + 1
  | .lit _ => 1
  | .nil => 1
  | .ptr d => uptoBulk d + 1
  | .slice elems spare => uptoBulkAll elems + uptoBulkAll spare + 1
  | .agg parts => uptoBulkAll parts + 1
  | .iface _ d => uptoBulk d + 1
  | .map entries => uptoBulkEntries entries + 1
  | .held _ => 1
def uptoBulkAll {H : Type} : List (DataW H) → Nat
  | [] => 0
  | d :: r => uptoBulk d + uptoBulkAll r
def uptoBulkEntries {H : Type} : List (Lit × DataW H) → Nat
  | [] => 0
  | x :: r => uptoBulkEntry x + uptoBulkEntries r
def uptoBulkEntry {H : Type} : Lit × DataW H → Nat
  | (.string bytes, d) => bytes.length + uptoBulk d + 1
  | (_, d) => uptoBulk d + 1
 end
def uptoSmall : (H : Type) → List (DataW H) → Bool := fun _ ds => decide (uptoBulkAll ds ≤ 1048576)
def OpenSpec.upto (s : _root_.Go.ChangeSpec) : _root_.Go.OpenSpec := { _root_.Go.OpenSpec.ofChange s with cond := some uptoSmall }

/-- 'shacklelaw18.TlsLays', WHERE WHAT IT READS IS OF BULK AT MOST 1048576: true; the input reads as it did. -/
def tlsLaysUptoRow : OpenClaim := { program := "ytpjilbhhhpikaaa", sum := "d204bec81bbb69f6b2e0d4368c93bc795297ab819692ceea8d839957455a28a0", func := "shackle/shacklelaw18.TlsLays", spec := "tlsLays", inPlace := ["math/bits.Add64"], unfollowed := true, recurses := true, apart := false, narrowed := true }
def TlsLaysUptoSaid : Prop := tlsLaysUptoRow.holds Try.pinned (OpenSpec.upto tlsLaysSpec)

/-- 'shacklelaw18.TlsSteps', WHERE WHAT IT READS IS OF BULK AT MOST 1048576: true; the input reads as it did. -/
def tlsStepsUptoRow : OpenClaim := { program := "ytpjilbhhhpikaaa", sum := "d204bec81bbb69f6b2e0d4368c93bc795297ab819692ceea8d839957455a28a0", func := "shackle/shacklelaw18.TlsSteps", spec := "tlsSteps", inPlace := ["math/bits.Add64"], unfollowed := true, recurses := true, apart := false, narrowed := true }
def TlsStepsUptoSaid : Prop := tlsStepsUptoRow.holds Try.pinned (OpenSpec.upto tlsStepsSpec)

/-- 'shacklelaw15.PlaceNil', WHERE WHAT IT READS IS OF BULK AT MOST 1048576: true; the input reads as it did. -/
def placeNilUptoRow : OpenClaim := { program := "ytpjilbhhhpikaaa", sum := "d204bec81bbb69f6b2e0d4368c93bc795297ab819692ceea8d839957455a28a0", func := "shackle/shacklelaw15.PlaceNil", spec := "placeNil", inPlace := ["math/bits.Add64"], unfollowed := true, recurses := true, apart := false, narrowed := true }
def PlaceNilUptoSaid : Prop := placeNilUptoRow.holds Try.pinned (OpenSpec.upto placeNilSpec)

end Rows
end Go.Proofs.Ytpjilbhhhpikaaa
