/-
  NARROWER THAN 'FOR EVERY INPUT', by the rows' own cells (each row's printed sentence says how): HeadReads: laid · HeadInterps: laid · HeadBack: laid · HeadNotes: laid · DecodeJoins: laid.
  DERIVED. THE GIVEN ROWS OF THIS SEAT. 5 by the template 'for every input the law returns true; each argument reads behind the call as it read before'; 0 by the template 'total and deterministic' (their statements: YtjohdgejjnbddaaDoorTotals.lean).
  GIVEN WITH THE SEED: the statements are not yours to turn. If you find one false, say at which input.
  Laid BY PROGRAM, IN A SANDBOX (cutbox-rows.mjs): the forced cells as the released guide's own fill.sh prints them over the translation 244a7e16148300d7… (all of the seat's roots in one cut). By AI agents, Wed Nov 11 2026. No macro, syntax, notation, axiom, sorry.
-/
import Derived.Test.YtjohdgejjnbddaaDoorChecked
import GoSem.Claim
import GoSem.ClaimJoined
import GoSem.ClaimMapViews
import Derived.JoinedTies
import Derived.KernelRfl
namespace Go.Proofs.YtjohdgejjnbddaaDoor
/- THE CELL 'sum', in the pinned program and in every row, IS THE sha256 OF THE DUMP (.gsa) THAT YtjohdgejjnbddaaDoorProg.lean LOADS. Nothing in Lean hashes anything: it is a label: what it is worth is what the hold of that sum in a sandbox is worth. -/
noncomputable def Tryd.pinned : Pinned := { name := "ytjohdgejjnbddaadoor", sum := "244a7e16148300d720d82b8aab052662624ffbf0e55ea9099de190ea16c012ce", checked := Tryd.checked }
namespace Rows
def none {H : Type} : Left H := { results := [], args := [] }

/- WHAT THE LISTED PACKAGE-LEVEL VARIABLES READ AS WHEN THE CALL BEGINS. Each datum BY PROGRAM (the guide's laid-datum.mjs) off the statement by which the dump's own 'gosem.cut.vars' lays the variable. In a bare row this is a premise. The card (YtjohdgejjnbddaaDoorCards.lean) ties it to the program's text. -/
def laid_errors_errorType {H : Type} : DataW H := .iface "internal/reflectlite.rtype" (.agg [.ptr (.lit (.string [101, 114, 114, 111, 114]))])
def laid_shackle_head_fixed {H : Type} : DataW H := .agg [.agg [.lit (.int .u64 0), .lit (.int .u64 1), .lit (.int .u64 127), .lit (.int .u64 127)], .agg [.lit (.int .u64 1), .lit (.int .u64 1), .lit (.int .u64 69), .lit (.int .u64 69)], .agg [.lit (.int .u64 2), .lit (.int .u64 1), .lit (.int .u64 76), .lit (.int .u64 76)], .agg [.lit (.int .u64 3), .lit (.int .u64 1), .lit (.int .u64 70), .lit (.int .u64 70)], .agg [.lit (.int .u64 4), .lit (.int .u64 1), .lit (.int .u64 2), .lit (.int .u64 2)], .agg [.lit (.int .u64 5), .lit (.int .u64 1), .lit (.int .u64 1), .lit (.int .u64 1)], .agg [.lit (.int .u64 6), .lit (.int .u64 1), .lit (.int .u64 1), .lit (.int .u64 1)], .agg [.lit (.int .u64 7), .lit (.int .u64 1), .lit (.int .u64 0), .lit (.int .u64 3)], .agg [.lit (.int .u64 16), .lit (.int .u64 2), .lit (.int .u64 2), .lit (.int .u64 3)], .agg [.lit (.int .u64 18), .lit (.int .u64 2), .lit (.int .u64 62), .lit (.int .u64 62)], .agg [.lit (.int .u64 20), .lit (.int .u64 4), .lit (.int .u64 1), .lit (.int .u64 1)], .agg [.lit (.int .u64 52), .lit (.int .u64 2), .lit (.int .u64 64), .lit (.int .u64 64)], .agg [.lit (.int .u64 54), .lit (.int .u64 2), .lit (.int .u64 56), .lit (.int .u64 56)]]

/-- 'shacklelaw04.HeadReads': WHATEVER THE INPUT: true; the input reads as it did. -/
def headReadsSpec : ChangeSpec := { name := "headReads", fn := fun _ => fun
  | [d] => { results := [.lit (.bool true)], args := [d] }
  | _ => none }
def headReadsRow : OpenClaim := { program := "ytjohdgejjnbddaadoor", sum := "244a7e16148300d720d82b8aab052662624ffbf0e55ea9099de190ea16c012ce", func := "shackle/shacklelaw04.HeadReads", spec := "headReads", inPlace := ["math/bits.Add64", "internal/bytealg.IndexByte", "internal/reflectlite.ValueOf", "(internal/reflectlite.Value).Type", "(internal/reflectlite.Value).IsNil", "internal/reflectlite.TypeOf", "(internal/reflectlite.Value).Elem", "(internal/reflectlite.Value).Set"], unfollowed := true, recurses := true, named := ["shackle/head.fixed", "errors.errorType"], apart := false, laid := [("errors.errorType", laid_errors_errorType), ("shackle/head.fixed", laid_shackle_head_fixed)] }
def HeadReadsSaid : Prop := headReadsRow.holds Tryd.pinned (OpenSpec.ofChange headReadsSpec)

/-- ITS FALSE NEIGHBOUR: 'it returns false'. Refute it at one input. -/
def headReadsWrong : ChangeSpec := { name := "headReads", fn := fun _ => fun
  | [d] => { results := [.lit (.bool false)], args := [d] }
  | _ => none }
def HeadReadsWrongFalsely : Prop := headReadsRow.holds Tryd.pinned (OpenSpec.ofChange headReadsWrong)

/-- 'shacklelaw04.HeadInterps': WHATEVER THE INPUT: true; the input reads as it did. -/
def headInterpsSpec : ChangeSpec := { name := "headInterps", fn := fun _ => fun
  | [d1, d2] => { results := [.lit (.bool true)], args := [d1, d2] }
  | _ => none }
def headInterpsRow : OpenClaim := { program := "ytjohdgejjnbddaadoor", sum := "244a7e16148300d720d82b8aab052662624ffbf0e55ea9099de190ea16c012ce", func := "shackle/shacklelaw04.HeadInterps", spec := "headInterps", inPlace := ["math/bits.Add64", "internal/bytealg.IndexByte", "internal/reflectlite.ValueOf", "(internal/reflectlite.Value).Type", "(internal/reflectlite.Value).IsNil", "internal/reflectlite.TypeOf", "(internal/reflectlite.Value).Elem", "(internal/reflectlite.Value).Set"], unfollowed := true, recurses := true, named := ["shackle/head.fixed", "errors.errorType"], apart := false, laid := [("errors.errorType", laid_errors_errorType), ("shackle/head.fixed", laid_shackle_head_fixed)] }
def HeadInterpsSaid : Prop := headInterpsRow.holds Tryd.pinned (OpenSpec.ofChange headInterpsSpec)

/-- ITS FALSE NEIGHBOUR: 'it returns false'. Refute it at one input. -/
def headInterpsWrong : ChangeSpec := { name := "headInterps", fn := fun _ => fun
  | [d1, d2] => { results := [.lit (.bool false)], args := [d1, d2] }
  | _ => none }
def HeadInterpsWrongFalsely : Prop := headInterpsRow.holds Tryd.pinned (OpenSpec.ofChange headInterpsWrong)

/-- 'shacklelaw04.HeadBack': WHATEVER THE INPUT: true; the input reads as it did. -/
def headBackSpec : ChangeSpec := { name := "headBack", fn := fun _ => fun
  | [d1, d2, d3] => { results := [.lit (.bool true)], args := [d1, d2, d3] }
  | _ => none }
def headBackRow : OpenClaim := { program := "ytjohdgejjnbddaadoor", sum := "244a7e16148300d720d82b8aab052662624ffbf0e55ea9099de190ea16c012ce", func := "shackle/shacklelaw04.HeadBack", spec := "headBack", inPlace := ["math/bits.Add64", "internal/bytealg.IndexByte", "internal/reflectlite.ValueOf", "(internal/reflectlite.Value).Type", "(internal/reflectlite.Value).IsNil", "internal/reflectlite.TypeOf", "(internal/reflectlite.Value).Elem", "(internal/reflectlite.Value).Set"], unfollowed := true, recurses := true, named := ["shackle/head.fixed", "errors.errorType"], apart := false, laid := [("errors.errorType", laid_errors_errorType), ("shackle/head.fixed", laid_shackle_head_fixed)] }
def HeadBackSaid : Prop := headBackRow.holds Tryd.pinned (OpenSpec.ofChange headBackSpec)

/-- ITS FALSE NEIGHBOUR: 'it returns false'. Refute it at one input. -/
def headBackWrong : ChangeSpec := { name := "headBack", fn := fun _ => fun
  | [d1, d2, d3] => { results := [.lit (.bool false)], args := [d1, d2, d3] }
  | _ => none }
def HeadBackWrongFalsely : Prop := headBackRow.holds Tryd.pinned (OpenSpec.ofChange headBackWrong)

/-- 'shacklelaw04.HeadNotes': WHATEVER THE INPUT: true; the input reads as it did. -/
def headNotesSpec : ChangeSpec := { name := "headNotes", fn := fun _ => fun
  | [d1, d2] => { results := [.lit (.bool true)], args := [d1, d2] }
  | _ => none }
def headNotesRow : OpenClaim := { program := "ytjohdgejjnbddaadoor", sum := "244a7e16148300d720d82b8aab052662624ffbf0e55ea9099de190ea16c012ce", func := "shackle/shacklelaw04.HeadNotes", spec := "headNotes", inPlace := ["math/bits.Add64", "internal/bytealg.IndexByte", "internal/reflectlite.ValueOf", "(internal/reflectlite.Value).Type", "(internal/reflectlite.Value).IsNil", "internal/reflectlite.TypeOf", "(internal/reflectlite.Value).Elem", "(internal/reflectlite.Value).Set"], unfollowed := true, recurses := true, named := ["shackle/head.fixed", "errors.errorType"], apart := false, laid := [("errors.errorType", laid_errors_errorType), ("shackle/head.fixed", laid_shackle_head_fixed)] }
def HeadNotesSaid : Prop := headNotesRow.holds Tryd.pinned (OpenSpec.ofChange headNotesSpec)

/-- ITS FALSE NEIGHBOUR: 'it returns false'. Refute it at one input. -/
def headNotesWrong : ChangeSpec := { name := "headNotes", fn := fun _ => fun
  | [d1, d2] => { results := [.lit (.bool false)], args := [d1, d2] }
  | _ => none }
def HeadNotesWrongFalsely : Prop := headNotesRow.holds Tryd.pinned (OpenSpec.ofChange headNotesWrong)

/-- 'shacklelaw12.DecodeJoins': WHATEVER THE INPUT: true; the input reads as it did. -/
def decodeJoinsSpec : ChangeSpec := { name := "decodeJoins", fn := fun _ => fun
  | [d] => { results := [.lit (.bool true)], args := [d] }
  | _ => none }
def decodeJoinsRow : OpenClaim := { program := "ytjohdgejjnbddaadoor", sum := "244a7e16148300d720d82b8aab052662624ffbf0e55ea9099de190ea16c012ce", func := "shackle/shacklelaw12.DecodeJoins", spec := "decodeJoins", inPlace := ["internal/bytealg.Compare", "internal/reflectlite.ValueOf", "(internal/reflectlite.Value).Type", "(internal/reflectlite.Value).IsNil", "internal/reflectlite.TypeOf", "(internal/reflectlite.Value).Elem", "(internal/reflectlite.Value).Set"], unfollowed := true, recurses := true, named := ["errors.errorType"], apart := false, laid := [("errors.errorType", laid_errors_errorType)] }
def DecodeJoinsSaid : Prop := decodeJoinsRow.holds Tryd.pinned (OpenSpec.ofChange decodeJoinsSpec)

/-- ITS FALSE NEIGHBOUR: 'it returns false'. Refute it at one input. -/
def decodeJoinsWrong : ChangeSpec := { name := "decodeJoins", fn := fun _ => fun
  | [d] => { results := [.lit (.bool false)], args := [d] }
  | _ => none }
def DecodeJoinsWrongFalsely : Prop := decodeJoinsRow.holds Tryd.pinned (OpenSpec.ofChange decodeJoinsWrong)

/- THE SECOND FORM. 'bulk': how many values and letters a reading holds, each counted each time it is reached (what is shared counts as often as it is met; a slice's spare places count too). A statement '..UptoSaid' is the law's where the arguments, and the package variables that the reading takes, are together of bulk at most 1048576: NARROWER than '..Said'. Prove '..Said' where nothing that the law and all that it calls make is longer than what came in: it says more and counts as full. Else prove '..UptoSaid'. A law counts once. -/
mutual
def uptoBulk {H : Type} : DataW H → Nat
  | .lit (.string bytes) => bytes.length + 1
  | .lit _ => 1
  | .nil => 1
  | .ptr d => uptoBulk d + 1
  | .slice elems spare => uptoBulkAll elems + uptoBulkAll spare + 1
  | .agg parts => uptoBulkAll parts + 1
  | .iface _ d => uptoBulk d + 1
  | .map entries => uptoBulkEntries entries + 1
  | .held _ => 1
def uptoBulkAll {H : Type} : List (DataW H) → Nat
  | [] => 0
  | d :: r => uptoBulk d + uptoBulkAll r
def uptoBulkEntries {H : Type} : List (Lit × DataW H) → Nat
  | [] => 0
  | x :: r => uptoBulkEntry x + uptoBulkEntries r
def uptoBulkEntry {H : Type} : Lit × DataW H → Nat
  | (.string bytes, d) => bytes.length + uptoBulk d + 1
  | (_, d) => uptoBulk d + 1
 end
def uptoSmall : (H : Type) → List (DataW H) → Bool := fun _ ds => decide (uptoBulkAll ds ≤ 1048576)
def OpenSpec.upto (s : _root_.Go.ChangeSpec) : _root_.Go.OpenSpec := { _root_.Go.OpenSpec.ofChange s with cond := some uptoSmall }

/-- 'shacklelaw04.HeadReads', WHERE WHAT IT READS IS OF BULK AT MOST 1048576: true; the input reads as it did. -/
def headReadsUptoRow : OpenClaim := { program := "ytjohdgejjnbddaadoor", sum := "244a7e16148300d720d82b8aab052662624ffbf0e55ea9099de190ea16c012ce", func := "shackle/shacklelaw04.HeadReads", spec := "headReads", inPlace := ["math/bits.Add64", "internal/bytealg.IndexByte", "internal/reflectlite.ValueOf", "(internal/reflectlite.Value).Type", "(internal/reflectlite.Value).IsNil", "internal/reflectlite.TypeOf", "(internal/reflectlite.Value).Elem", "(internal/reflectlite.Value).Set"], unfollowed := true, recurses := true, named := ["shackle/head.fixed", "errors.errorType"], apart := false, laid := [("errors.errorType", laid_errors_errorType), ("shackle/head.fixed", laid_shackle_head_fixed)], narrowed := true }
def HeadReadsUptoSaid : Prop := headReadsUptoRow.holds Tryd.pinned (OpenSpec.upto headReadsSpec)

/-- 'shacklelaw04.HeadInterps', WHERE WHAT IT READS IS OF BULK AT MOST 1048576: true; the input reads as it did. -/
def headInterpsUptoRow : OpenClaim := { program := "ytjohdgejjnbddaadoor", sum := "244a7e16148300d720d82b8aab052662624ffbf0e55ea9099de190ea16c012ce", func := "shackle/shacklelaw04.HeadInterps", spec := "headInterps", inPlace := ["math/bits.Add64", "internal/bytealg.IndexByte", "internal/reflectlite.ValueOf", "(internal/reflectlite.Value).Type", "(internal/reflectlite.Value).IsNil", "internal/reflectlite.TypeOf", "(internal/reflectlite.Value).Elem", "(internal/reflectlite.Value).Set"], unfollowed := true, recurses := true, named := ["shackle/head.fixed", "errors.errorType"], apart := false, laid := [("errors.errorType", laid_errors_errorType), ("shackle/head.fixed", laid_shackle_head_fixed)], narrowed := true }
def HeadInterpsUptoSaid : Prop := headInterpsUptoRow.holds Tryd.pinned (OpenSpec.upto headInterpsSpec)

/-- 'shacklelaw04.HeadBack', WHERE WHAT IT READS IS OF BULK AT MOST 1048576: true; the input reads as it did. -/
def headBackUptoRow : OpenClaim := { program := "ytjohdgejjnbddaadoor", sum := "244a7e16148300d720d82b8aab052662624ffbf0e55ea9099de190ea16c012ce", func := "shackle/shacklelaw04.HeadBack", spec := "headBack", inPlace := ["math/bits.Add64", "internal/bytealg.IndexByte", "internal/reflectlite.ValueOf", "(internal/reflectlite.Value).Type", "(internal/reflectlite.Value).IsNil", "internal/reflectlite.TypeOf", "(internal/reflectlite.Value).Elem", "(internal/reflectlite.Value).Set"], unfollowed := true, recurses := true, named := ["shackle/head.fixed", "errors.errorType"], apart := false, laid := [("errors.errorType", laid_errors_errorType), ("shackle/head.fixed", laid_shackle_head_fixed)], narrowed := true }
def HeadBackUptoSaid : Prop := headBackUptoRow.holds Tryd.pinned (OpenSpec.upto headBackSpec)

/-- 'shacklelaw04.HeadNotes', WHERE WHAT IT READS IS OF BULK AT MOST 1048576: true; the input reads as it did. -/
def headNotesUptoRow : OpenClaim := { program := "ytjohdgejjnbddaadoor", sum := "244a7e16148300d720d82b8aab052662624ffbf0e55ea9099de190ea16c012ce", func := "shackle/shacklelaw04.HeadNotes", spec := "headNotes", inPlace := ["math/bits.Add64", "internal/bytealg.IndexByte", "internal/reflectlite.ValueOf", "(internal/reflectlite.Value).Type", "(internal/reflectlite.Value).IsNil", "internal/reflectlite.TypeOf", "(internal/reflectlite.Value).Elem", "(internal/reflectlite.Value).Set"], unfollowed := true, recurses := true, named := ["shackle/head.fixed", "errors.errorType"], apart := false, laid := [("errors.errorType", laid_errors_errorType), ("shackle/head.fixed", laid_shackle_head_fixed)], narrowed := true }
def HeadNotesUptoSaid : Prop := headNotesUptoRow.holds Tryd.pinned (OpenSpec.upto headNotesSpec)

/-- 'shacklelaw12.DecodeJoins', WHERE WHAT IT READS IS OF BULK AT MOST 1048576: true; the input reads as it did. -/
def decodeJoinsUptoRow : OpenClaim := { program := "ytjohdgejjnbddaadoor", sum := "244a7e16148300d720d82b8aab052662624ffbf0e55ea9099de190ea16c012ce", func := "shackle/shacklelaw12.DecodeJoins", spec := "decodeJoins", inPlace := ["internal/bytealg.Compare", "internal/reflectlite.ValueOf", "(internal/reflectlite.Value).Type", "(internal/reflectlite.Value).IsNil", "internal/reflectlite.TypeOf", "(internal/reflectlite.Value).Elem", "(internal/reflectlite.Value).Set"], unfollowed := true, recurses := true, named := ["errors.errorType"], apart := false, laid := [("errors.errorType", laid_errors_errorType)], narrowed := true }
def DecodeJoinsUptoSaid : Prop := decodeJoinsUptoRow.holds Tryd.pinned (OpenSpec.upto decodeJoinsSpec)

end Rows
end Go.Proofs.YtjohdgejjnbddaaDoor
