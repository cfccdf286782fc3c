/-
  NARROWER THAN 'FOR EVERY INPUT', by the rows' own cells (each row's printed sentence says how): SpanTexts: laid · SpanCuts: laid · SpanNumbers: laid.
  DERIVED. THE GIVEN ROWS OF THIS SEAT. 3 by the template 'for every input the law returns true; each argument reads behind the call as it read before'; 0 by the template 'total and deterministic' (their statements: YthhlnhbmjkjmlaaDoorTotals.lean).
  GIVEN WITH THE SEED: the statements are not yours to turn. If you find one false, say at which input.
  Laid BY PROGRAM, IN A SANDBOX (cutbox-rows.mjs): the forced cells as the released guide's own fill.sh prints them over the translation 65f146af42178e4d… (all of the seat's roots in one cut). By AI agents, Wed Nov 11 2026. No macro, syntax, notation, axiom, sorry.
-/
import Derived.Test.YthhlnhbmjkjmlaaDoorChecked
import GoSem.Claim
import GoSem.ClaimJoined
import GoSem.ClaimMapViews
import Derived.JoinedTies
import Derived.KernelRfl
namespace Go.Proofs.YthhlnhbmjkjmlaaDoor
/- THE CELL 'sum', in the pinned program and in every row, IS THE sha256 OF THE DUMP (.gsa) THAT YthhlnhbmjkjmlaaDoorProg.lean LOADS. Nothing in Lean hashes anything: it is a label: what it is worth is what the hold of that sum in a sandbox is worth. -/
noncomputable def Tryd.pinned : Pinned := { name := "ythhlnhbmjkjmlaadoor", sum := "65f146af42178e4dfda2e8292ceb25489f566b77aec88b2e201f7c1a74ac49e7", checked := Tryd.checked }
namespace Rows
def none {H : Type} : Left H := { results := [], args := [] }

/- WHAT THE LISTED PACKAGE-LEVEL VARIABLES READ AS WHEN THE CALL BEGINS. Each datum BY PROGRAM (the guide's laid-datum.mjs) off the statement by which the dump's own 'gosem.cut.vars' lays the variable. In a bare row this is a premise. The card (YthhlnhbmjkjmlaaDoorCards.lean) ties it to the program's text. -/
def laid_errors_errorType {H : Type} : DataW H := .iface "internal/reflectlite.rtype" (.agg [.ptr (.lit (.string [101, 114, 114, 111, 114]))])

/-- 'shacklelaw01.SpanTexts': WHATEVER THE INPUT: true; the input reads as it did. -/
def spanTextsSpec : ChangeSpec := { name := "spanTexts", fn := fun _ => fun
  | [d1, d2] => { results := [.lit (.bool true)], args := [d1, d2] }
  | _ => none }
def spanTextsRow : OpenClaim := { program := "ythhlnhbmjkjmlaadoor", sum := "65f146af42178e4dfda2e8292ceb25489f566b77aec88b2e201f7c1a74ac49e7", func := "shackle/shacklelaw01.SpanTexts", spec := "spanTexts", inPlace := ["math/bits.Add64", "internal/bytealg.IndexByte", "internal/reflectlite.ValueOf", "(internal/reflectlite.Value).Type", "(internal/reflectlite.Value).IsNil", "internal/reflectlite.TypeOf", "(internal/reflectlite.Value).Elem", "(internal/reflectlite.Value).Set"], unfollowed := true, recurses := true, named := ["errors.errorType"], apart := false, laid := [("errors.errorType", laid_errors_errorType)] }
def SpanTextsSaid : Prop := spanTextsRow.holds Tryd.pinned (OpenSpec.ofChange spanTextsSpec)

/-- ITS FALSE NEIGHBOUR: 'it returns false'. Refute it at one input. -/
def spanTextsWrong : ChangeSpec := { name := "spanTexts", fn := fun _ => fun
  | [d1, d2] => { results := [.lit (.bool false)], args := [d1, d2] }
  | _ => none }
def SpanTextsWrongFalsely : Prop := spanTextsRow.holds Tryd.pinned (OpenSpec.ofChange spanTextsWrong)

/-- 'shacklelaw01.SpanCuts': WHATEVER THE INPUT: true; the input reads as it did. -/
def spanCutsSpec : ChangeSpec := { name := "spanCuts", fn := fun _ => fun
  | [d1, d2, d3] => { results := [.lit (.bool true)], args := [d1, d2, d3] }
  | _ => none }
def spanCutsRow : OpenClaim := { program := "ythhlnhbmjkjmlaadoor", sum := "65f146af42178e4dfda2e8292ceb25489f566b77aec88b2e201f7c1a74ac49e7", func := "shackle/shacklelaw01.SpanCuts", spec := "spanCuts", inPlace := ["math/bits.Add64", "internal/bytealg.IndexByte", "internal/reflectlite.ValueOf", "(internal/reflectlite.Value).Type", "(internal/reflectlite.Value).IsNil", "internal/reflectlite.TypeOf", "(internal/reflectlite.Value).Elem", "(internal/reflectlite.Value).Set"], unfollowed := true, recurses := true, named := ["errors.errorType"], apart := false, laid := [("errors.errorType", laid_errors_errorType)] }
def SpanCutsSaid : Prop := spanCutsRow.holds Tryd.pinned (OpenSpec.ofChange spanCutsSpec)

/-- ITS FALSE NEIGHBOUR: 'it returns false'. Refute it at one input. -/
def spanCutsWrong : ChangeSpec := { name := "spanCuts", fn := fun _ => fun
  | [d1, d2, d3] => { results := [.lit (.bool false)], args := [d1, d2, d3] }
  | _ => none }
def SpanCutsWrongFalsely : Prop := spanCutsRow.holds Tryd.pinned (OpenSpec.ofChange spanCutsWrong)

/-- 'shacklelaw01.SpanNumbers': WHATEVER THE INPUT: true; the input reads as it did. -/
def spanNumbersSpec : ChangeSpec := { name := "spanNumbers", fn := fun _ => fun
  | [d1, d2, d3, d4] => { results := [.lit (.bool true)], args := [d1, d2, d3, d4] }
  | _ => none }
def spanNumbersRow : OpenClaim := { program := "ythhlnhbmjkjmlaadoor", sum := "65f146af42178e4dfda2e8292ceb25489f566b77aec88b2e201f7c1a74ac49e7", func := "shackle/shacklelaw01.SpanNumbers", spec := "spanNumbers", inPlace := ["math/bits.Add64", "internal/bytealg.IndexByte", "internal/reflectlite.ValueOf", "(internal/reflectlite.Value).Type", "(internal/reflectlite.Value).IsNil", "internal/reflectlite.TypeOf", "(internal/reflectlite.Value).Elem", "(internal/reflectlite.Value).Set"], unfollowed := true, recurses := true, named := ["errors.errorType"], apart := false, laid := [("errors.errorType", laid_errors_errorType)] }
def SpanNumbersSaid : Prop := spanNumbersRow.holds Tryd.pinned (OpenSpec.ofChange spanNumbersSpec)

/-- ITS FALSE NEIGHBOUR: 'it returns false'. Refute it at one input. -/
def spanNumbersWrong : ChangeSpec := { name := "spanNumbers", fn := fun _ => fun
  | [d1, d2, d3, d4] => { results := [.lit (.bool false)], args := [d1, d2, d3, d4] }
  | _ => none }
def SpanNumbersWrongFalsely : Prop := spanNumbersRow.holds Tryd.pinned (OpenSpec.ofChange spanNumbersWrong)

/- THE SECOND FORM. 'bulk': how many values and letters a reading holds, each counted each time it is reached (what is shared counts as often as it is met; a slice's spare places count too). A statement '..UptoSaid' is the law's where the arguments, and the package variables that the reading takes, are together of bulk at most 1048576: NARROWER than '..Said'. Prove '..Said' where nothing that the law and all that it calls make is longer than what came in: it says more and counts as full. Else prove '..UptoSaid'. A law counts once. -/
mutual
def uptoBulk {H : Type} : DataW H → Nat
  | .lit (.string bytes) => bytes.length + 1
  | .lit _ => 1
  | .nil => 1
  | .ptr d => uptoBulk d + 1
  | .slice elems spare => uptoBulkAll elems + uptoBulkAll spare + 1
  | .agg parts => uptoBulkAll parts + 1
  | .iface _ d => uptoBulk d + 1
  | .map entries => uptoBulkEntries entries + 1
  | .held _ => 1
def uptoBulkAll {H : Type} : List (DataW H) → Nat
  | [] => 0
  | d :: r => uptoBulk d + uptoBulkAll r
def uptoBulkEntries {H : Type} : List (Lit × DataW H) → Nat
  | [] => 0
  | x :: r => uptoBulkEntry x + uptoBulkEntries r
def uptoBulkEntry {H : Type} : Lit × DataW H → Nat
  | (.string bytes, d) => bytes.length + uptoBulk d + 1
  | (_, d) => uptoBulk d + 1
 end
def uptoSmall : (H : Type) → List (DataW H) → Bool := fun _ ds => decide (uptoBulkAll ds ≤ 1048576)
def OpenSpec.upto (s : _root_.Go.ChangeSpec) : _root_.Go.OpenSpec := { _root_.Go.OpenSpec.ofChange s with cond := some uptoSmall }

/-- 'shacklelaw01.SpanTexts', WHERE WHAT IT READS IS OF BULK AT MOST 1048576: true; the input reads as it did. -/
def spanTextsUptoRow : OpenClaim := { program := "ythhlnhbmjkjmlaadoor", sum := "65f146af42178e4dfda2e8292ceb25489f566b77aec88b2e201f7c1a74ac49e7", func := "shackle/shacklelaw01.SpanTexts", spec := "spanTexts", inPlace := ["math/bits.Add64", "internal/bytealg.IndexByte", "internal/reflectlite.ValueOf", "(internal/reflectlite.Value).Type", "(internal/reflectlite.Value).IsNil", "internal/reflectlite.TypeOf", "(internal/reflectlite.Value).Elem", "(internal/reflectlite.Value).Set"], unfollowed := true, recurses := true, named := ["errors.errorType"], apart := false, laid := [("errors.errorType", laid_errors_errorType)], narrowed := true }
def SpanTextsUptoSaid : Prop := spanTextsUptoRow.holds Tryd.pinned (OpenSpec.upto spanTextsSpec)

/-- 'shacklelaw01.SpanCuts', WHERE WHAT IT READS IS OF BULK AT MOST 1048576: true; the input reads as it did. -/
def spanCutsUptoRow : OpenClaim := { program := "ythhlnhbmjkjmlaadoor", sum := "65f146af42178e4dfda2e8292ceb25489f566b77aec88b2e201f7c1a74ac49e7", func := "shackle/shacklelaw01.SpanCuts", spec := "spanCuts", inPlace := ["math/bits.Add64", "internal/bytealg.IndexByte", "internal/reflectlite.ValueOf", "(internal/reflectlite.Value).Type", "(internal/reflectlite.Value).IsNil", "internal/reflectlite.TypeOf", "(internal/reflectlite.Value).Elem", "(internal/reflectlite.Value).Set"], unfollowed := true, recurses := true, named := ["errors.errorType"], apart := false, laid := [("errors.errorType", laid_errors_errorType)], narrowed := true }
def SpanCutsUptoSaid : Prop := spanCutsUptoRow.holds Tryd.pinned (OpenSpec.upto spanCutsSpec)

/-- 'shacklelaw01.SpanNumbers', WHERE WHAT IT READS IS OF BULK AT MOST 1048576: true; the input reads as it did. -/
def spanNumbersUptoRow : OpenClaim := { program := "ythhlnhbmjkjmlaadoor", sum := "65f146af42178e4dfda2e8292ceb25489f566b77aec88b2e201f7c1a74ac49e7", func := "shackle/shacklelaw01.SpanNumbers", spec := "spanNumbers", inPlace := ["math/bits.Add64", "internal/bytealg.IndexByte", "internal/reflectlite.ValueOf", "(internal/reflectlite.Value).Type", "(internal/reflectlite.Value).IsNil", "internal/reflectlite.TypeOf", "(internal/reflectlite.Value).Elem", "(internal/reflectlite.Value).Set"], unfollowed := true, recurses := true, named := ["errors.errorType"], apart := false, laid := [("errors.errorType", laid_errors_errorType)], narrowed := true }
def SpanNumbersUptoSaid : Prop := spanNumbersUptoRow.holds Tryd.pinned (OpenSpec.upto spanNumbersSpec)

end Rows
end Go.Proofs.YthhlnhbmjkjmlaaDoor
