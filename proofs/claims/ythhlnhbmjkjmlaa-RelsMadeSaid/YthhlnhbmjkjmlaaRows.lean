/-
  No cell of these rows narrows 'for every input' (looked for: loops, veiled, ifaces, maps, wideKeys, modest, calm, conditions, laid).
  DERIVED. THE GIVEN ROWS OF THIS SEAT. 11 by the template 'for every input the law returns true; each argument reads behind the call as it read before'; 0 by the template 'total and deterministic' (their statements: YthhlnhbmjkjmlaaTotals.lean).
  GIVEN WITH THE SEED: the statements are not yours to turn. If you find one false, say at which input.
  Laid BY PROGRAM, IN A SANDBOX (cutbox-rows.mjs): the forced cells as the released guide's own fill.sh prints them over the translation c2da252c35f881f9… (all of the seat's roots in one cut). By AI agents, Wed Nov 11 2026. No macro, syntax, notation, axiom, sorry.
-/
import Derived.Test.YthhlnhbmjkjmlaaChecked
import GoSem.Claim
import GoSem.ClaimJoined
import GoSem.ClaimMapViews
import Derived.JoinedTies
import Derived.KernelRfl
namespace Go.Proofs.Ythhlnhbmjkjmlaa
/- THE CELL 'sum', in the pinned program and in every row, IS THE sha256 OF THE DUMP (.gsa) THAT YthhlnhbmjkjmlaaProg.lean LOADS. Nothing in Lean hashes anything: it is a label: what it is worth is what the hold of that sum in a sandbox is worth. -/
noncomputable def Try.pinned : Pinned := { name := "ythhlnhbmjkjmlaa", sum := "c2da252c35f881f93ac8cc902bc490427af3c71bdccaf5d37da14840664dff96", checked := Try.checked }
namespace Rows
def none {H : Type} : Left H := { results := [], args := [] }

/-- 'shacklelaw19.RelocValues': WHATEVER THE INPUT: true; the input reads as it did. -/
def relocValuesSpec : ChangeSpec := { name := "relocValues", fn := fun _ => fun
  | [d1, d2, d3] => { results := [.lit (.bool true)], args := [d1, d2, d3] }
  | _ => none }
def relocValuesRow : OpenClaim := { program := "ythhlnhbmjkjmlaa", sum := "c2da252c35f881f93ac8cc902bc490427af3c71bdccaf5d37da14840664dff96", func := "shackle/shacklelaw19.RelocValues", spec := "relocValues", apart := false }
def RelocValuesSaid : Prop := relocValuesRow.holds Try.pinned (OpenSpec.ofChange relocValuesSpec)

/-- ITS FALSE NEIGHBOUR: 'it returns false'. Refute it at one input. -/
def relocValuesWrong : ChangeSpec := { name := "relocValues", fn := fun _ => fun
  | [d1, d2, d3] => { results := [.lit (.bool false)], args := [d1, d2, d3] }
  | _ => none }
def RelocValuesWrongFalsely : Prop := relocValuesRow.holds Try.pinned (OpenSpec.ofChange relocValuesWrong)

/-- 'shacklelaw19.RelocMoves': WHATEVER THE INPUT: true; the input reads as it did. -/
def relocMovesSpec : ChangeSpec := { name := "relocMoves", fn := fun _ => fun
  | [d1, d2, d3, d4] => { results := [.lit (.bool true)], args := [d1, d2, d3, d4] }
  | _ => none }
def relocMovesRow : OpenClaim := { program := "ythhlnhbmjkjmlaa", sum := "c2da252c35f881f93ac8cc902bc490427af3c71bdccaf5d37da14840664dff96", func := "shackle/shacklelaw19.RelocMoves", spec := "relocMoves", apart := false }
def RelocMovesSaid : Prop := relocMovesRow.holds Try.pinned (OpenSpec.ofChange relocMovesSpec)

/-- ITS FALSE NEIGHBOUR: 'it returns false'. Refute it at one input. -/
def relocMovesWrong : ChangeSpec := { name := "relocMoves", fn := fun _ => fun
  | [d1, d2, d3, d4] => { results := [.lit (.bool false)], args := [d1, d2, d3, d4] }
  | _ => none }
def RelocMovesWrongFalsely : Prop := relocMovesRow.holds Try.pinned (OpenSpec.ofChange relocMovesWrong)

/-- 'shacklelaw09.RelsBits': WHATEVER THE INPUT: true; the input reads as it did. -/
def relsBitsSpec : ChangeSpec := { name := "relsBits", fn := fun _ => fun
  | [d1, d2] => { results := [.lit (.bool true)], args := [d1, d2] }
  | _ => none }
def relsBitsRow : OpenClaim := { program := "ythhlnhbmjkjmlaa", sum := "c2da252c35f881f93ac8cc902bc490427af3c71bdccaf5d37da14840664dff96", func := "shackle/shacklelaw09.RelsBits", spec := "relsBits", apart := false }
def RelsBitsSaid : Prop := relsBitsRow.holds Try.pinned (OpenSpec.ofChange relsBitsSpec)

/-- ITS FALSE NEIGHBOUR: 'it returns false'. Refute it at one input. -/
def relsBitsWrong : ChangeSpec := { name := "relsBits", fn := fun _ => fun
  | [d1, d2] => { results := [.lit (.bool false)], args := [d1, d2] }
  | _ => none }
def RelsBitsWrongFalsely : Prop := relsBitsRow.holds Try.pinned (OpenSpec.ofChange relsBitsWrong)

/-- 'shacklelaw01.SpanUps': WHATEVER THE INPUT: true; the input reads as it did. -/
def spanUpsSpec : ChangeSpec := { name := "spanUps", fn := fun _ => fun
  | [d1, d2] => { results := [.lit (.bool true)], args := [d1, d2] }
  | _ => none }
def spanUpsRow : OpenClaim := { program := "ythhlnhbmjkjmlaa", sum := "c2da252c35f881f93ac8cc902bc490427af3c71bdccaf5d37da14840664dff96", func := "shackle/shacklelaw01.SpanUps", spec := "spanUps", inPlace := ["math/bits.Add64", "internal/bytealg.IndexByte"], apart := false }
def SpanUpsSaid : Prop := spanUpsRow.holds Try.pinned (OpenSpec.ofChange spanUpsSpec)

/-- ITS FALSE NEIGHBOUR: 'it returns false'. Refute it at one input. -/
def spanUpsWrong : ChangeSpec := { name := "spanUps", fn := fun _ => fun
  | [d1, d2] => { results := [.lit (.bool false)], args := [d1, d2] }
  | _ => none }
def SpanUpsWrongFalsely : Prop := spanUpsRow.holds Try.pinned (OpenSpec.ofChange spanUpsWrong)

/-- 'shacklelaw01.SpanSums': WHATEVER THE INPUT: true; the input reads as it did. -/
def spanSumsSpec : ChangeSpec := { name := "spanSums", fn := fun _ => fun
  | [d1, d2, d3] => { results := [.lit (.bool true)], args := [d1, d2, d3] }
  | _ => none }
def spanSumsRow : OpenClaim := { program := "ythhlnhbmjkjmlaa", sum := "c2da252c35f881f93ac8cc902bc490427af3c71bdccaf5d37da14840664dff96", func := "shackle/shacklelaw01.SpanSums", spec := "spanSums", inPlace := ["math/bits.Add64", "internal/bytealg.IndexByte"], apart := false }
def SpanSumsSaid : Prop := spanSumsRow.holds Try.pinned (OpenSpec.ofChange spanSumsSpec)

/-- ITS FALSE NEIGHBOUR: 'it returns false'. Refute it at one input. -/
def spanSumsWrong : ChangeSpec := { name := "spanSums", fn := fun _ => fun
  | [d1, d2, d3] => { results := [.lit (.bool false)], args := [d1, d2, d3] }
  | _ => none }
def SpanSumsWrongFalsely : Prop := spanSumsRow.holds Try.pinned (OpenSpec.ofChange spanSumsWrong)

/-- 'shacklelaw01.SpanJoins': WHATEVER THE INPUT: true; the input reads as it did. -/
def spanJoinsSpec : ChangeSpec := { name := "spanJoins", fn := fun _ => fun
  | [d1, d2] => { results := [.lit (.bool true)], args := [d1, d2] }
  | _ => none }
def spanJoinsRow : OpenClaim := { program := "ythhlnhbmjkjmlaa", sum := "c2da252c35f881f93ac8cc902bc490427af3c71bdccaf5d37da14840664dff96", func := "shackle/shacklelaw01.SpanJoins", spec := "spanJoins", inPlace := ["math/bits.Add64", "internal/bytealg.IndexByte"], apart := false }
def SpanJoinsSaid : Prop := spanJoinsRow.holds Try.pinned (OpenSpec.ofChange spanJoinsSpec)

/-- ITS FALSE NEIGHBOUR: 'it returns false'. Refute it at one input. -/
def spanJoinsWrong : ChangeSpec := { name := "spanJoins", fn := fun _ => fun
  | [d1, d2] => { results := [.lit (.bool false)], args := [d1, d2] }
  | _ => none }
def SpanJoinsWrongFalsely : Prop := spanJoinsRow.holds Try.pinned (OpenSpec.ofChange spanJoinsWrong)

/-- 'shacklelaw09.RelsMade': WHATEVER THE INPUT: true; the input reads as it did. -/
def relsMadeSpec : ChangeSpec := { name := "relsMade", fn := fun _ => fun
  | [d1, d2] => { results := [.lit (.bool true)], args := [d1, d2] }
  | _ => none }
def relsMadeRow : OpenClaim := { program := "ythhlnhbmjkjmlaa", sum := "c2da252c35f881f93ac8cc902bc490427af3c71bdccaf5d37da14840664dff96", func := "shackle/shacklelaw09.RelsMade", spec := "relsMade", apart := false }
def RelsMadeSaid : Prop := relsMadeRow.holds Try.pinned (OpenSpec.ofChange relsMadeSpec)

/-- ITS FALSE NEIGHBOUR: 'it returns false'. Refute it at one input. -/
def relsMadeWrong : ChangeSpec := { name := "relsMade", fn := fun _ => fun
  | [d1, d2] => { results := [.lit (.bool false)], args := [d1, d2] }
  | _ => none }
def RelsMadeWrongFalsely : Prop := relsMadeRow.holds Try.pinned (OpenSpec.ofChange relsMadeWrong)

/-- 'shacklelaw01.SpanBack': WHATEVER THE INPUT: true; the input reads as it did. -/
def spanBackSpec : ChangeSpec := { name := "spanBack", fn := fun _ => fun
  | [d1, d2, d3, d4, d5, d6] => { results := [.lit (.bool true)], args := [d1, d2, d3, d4, d5, d6] }
  | _ => none }
def spanBackRow : OpenClaim := { program := "ythhlnhbmjkjmlaa", sum := "c2da252c35f881f93ac8cc902bc490427af3c71bdccaf5d37da14840664dff96", func := "shackle/shacklelaw01.SpanBack", spec := "spanBack", inPlace := ["math/bits.Add64", "internal/bytealg.IndexByte"], apart := false }
def SpanBackSaid : Prop := spanBackRow.holds Try.pinned (OpenSpec.ofChange spanBackSpec)

/-- ITS FALSE NEIGHBOUR: 'it returns false'. Refute it at one input. -/
def spanBackWrong : ChangeSpec := { name := "spanBack", fn := fun _ => fun
  | [d1, d2, d3, d4, d5, d6] => { results := [.lit (.bool false)], args := [d1, d2, d3, d4, d5, d6] }
  | _ => none }
def SpanBackWrongFalsely : Prop := spanBackRow.holds Try.pinned (OpenSpec.ofChange spanBackWrong)

/-- 'shacklelaw14.SearchDirs': WHATEVER THE INPUT: true; the input reads as it did. -/
def searchDirsSpec : ChangeSpec := { name := "searchDirs", fn := fun _ => fun
  | [d] => { results := [.lit (.bool true)], args := [d] }
  | _ => none }
def searchDirsRow : OpenClaim := { program := "ythhlnhbmjkjmlaa", sum := "c2da252c35f881f93ac8cc902bc490427af3c71bdccaf5d37da14840664dff96", func := "shackle/shacklelaw14.SearchDirs", spec := "searchDirs", inPlace := ["internal/abi.NoEscape"], unfollowed := true, recurses := true, apart := false }
def SearchDirsSaid : Prop := searchDirsRow.holds Try.pinned (OpenSpec.ofChange searchDirsSpec)

/-- ITS FALSE NEIGHBOUR: 'it returns false'. Refute it at one input. -/
def searchDirsWrong : ChangeSpec := { name := "searchDirs", fn := fun _ => fun
  | [d] => { results := [.lit (.bool false)], args := [d] }
  | _ => none }
def SearchDirsWrongFalsely : Prop := searchDirsRow.holds Try.pinned (OpenSpec.ofChange searchDirsWrong)

/-- 'shacklelaw14.SearchPlain': WHATEVER THE INPUT: true; the input reads as it did. -/
def searchPlainSpec : ChangeSpec := { name := "searchPlain", fn := fun _ => fun
  | [d1, d2] => { results := [.lit (.bool true)], args := [d1, d2] }
  | _ => none }
def searchPlainRow : OpenClaim := { program := "ythhlnhbmjkjmlaa", sum := "c2da252c35f881f93ac8cc902bc490427af3c71bdccaf5d37da14840664dff96", func := "shackle/shacklelaw14.SearchPlain", spec := "searchPlain", inPlace := ["internal/abi.NoEscape"], unfollowed := true, recurses := true, apart := false }
def SearchPlainSaid : Prop := searchPlainRow.holds Try.pinned (OpenSpec.ofChange searchPlainSpec)

/-- ITS FALSE NEIGHBOUR: 'it returns false'. Refute it at one input. -/
def searchPlainWrong : ChangeSpec := { name := "searchPlain", fn := fun _ => fun
  | [d1, d2] => { results := [.lit (.bool false)], args := [d1, d2] }
  | _ => none }
def SearchPlainWrongFalsely : Prop := searchPlainRow.holds Try.pinned (OpenSpec.ofChange searchPlainWrong)

/-- 'shacklelaw05.DynOrders': WHATEVER THE INPUT: true; the input reads as it did. -/
def dynOrdersSpec : ChangeSpec := { name := "dynOrders", fn := fun _ => fun
  | [d1, d2, d3] => { results := [.lit (.bool true)], args := [d1, d2, d3] }
  | _ => none }
def dynOrdersRow : OpenClaim := { program := "ythhlnhbmjkjmlaa", sum := "c2da252c35f881f93ac8cc902bc490427af3c71bdccaf5d37da14840664dff96", func := "shackle/shacklelaw05.DynOrders", spec := "dynOrders", unfollowed := true, recurses := true, apart := false }
def DynOrdersSaid : Prop := dynOrdersRow.holds Try.pinned (OpenSpec.ofChange dynOrdersSpec)

/-- ITS FALSE NEIGHBOUR: 'it returns false'. Refute it at one input. -/
def dynOrdersWrong : ChangeSpec := { name := "dynOrders", fn := fun _ => fun
  | [d1, d2, d3] => { results := [.lit (.bool false)], args := [d1, d2, d3] }
  | _ => none }
def DynOrdersWrongFalsely : Prop := dynOrdersRow.holds Try.pinned (OpenSpec.ofChange dynOrdersWrong)

/- THE SECOND FORM. 'bulk': how many values and letters a reading holds, each counted each time it is reached (what is shared counts as often as it is met; a slice's spare places count too). A statement '..UptoSaid' is the law's where the arguments, and the package variables that the reading takes, are together of bulk at most 1048576: NARROWER than '..Said'. Prove '..Said' where nothing that the law and all that it calls make is longer than what came in: it says more and counts as full. Else prove '..UptoSaid'. A law counts once. -/
mutual
def uptoBulk {H : Type} : DataW H → Nat
  | .lit (.string bytes) => bytes.length + 1
  | .lit _ => 1
  | .nil => 1
  | .ptr d => uptoBulk d + 1
  | .slice elems spare => uptoBulkAll elems + uptoBulkAll spare + 1
  | .agg parts => uptoBulkAll parts + 1
  | .iface _ d => uptoBulk d + 1
  | .map entries => uptoBulkEntries entries + 1
  | .held _ => 1
def uptoBulkAll {H : Type} : List (DataW H) → Nat
  | [] => 0
  | d :: r => uptoBulk d + uptoBulkAll r
def uptoBulkEntries {H : Type} : List (Lit × DataW H) → Nat
  | [] => 0
  | x :: r => uptoBulkEntry x + uptoBulkEntries r
def uptoBulkEntry {H : Type} : Lit × DataW H → Nat
  | (.string bytes, d) => bytes.length + uptoBulk d + 1
  | (_, d) => uptoBulk d + 1
 end
def uptoSmall : (H : Type) → List (DataW H) → Bool := fun _ ds => decide (uptoBulkAll ds ≤ 1048576)
def OpenSpec.upto (s : _root_.Go.ChangeSpec) : _root_.Go.OpenSpec := { _root_.Go.OpenSpec.ofChange s with cond := some uptoSmall }

/-- 'shacklelaw19.RelocValues', WHERE WHAT IT READS IS OF BULK AT MOST 1048576: true; the input reads as it did. -/
def relocValuesUptoRow : OpenClaim := { program := "ythhlnhbmjkjmlaa", sum := "c2da252c35f881f93ac8cc902bc490427af3c71bdccaf5d37da14840664dff96", func := "shackle/shacklelaw19.RelocValues", spec := "relocValues", apart := false, narrowed := true }
def RelocValuesUptoSaid : Prop := relocValuesUptoRow.holds Try.pinned (OpenSpec.upto relocValuesSpec)

/-- 'shacklelaw19.RelocMoves', WHERE WHAT IT READS IS OF BULK AT MOST 1048576: true; the input reads as it did. -/
def relocMovesUptoRow : OpenClaim := { program := "ythhlnhbmjkjmlaa", sum := "c2da252c35f881f93ac8cc902bc490427af3c71bdccaf5d37da14840664dff96", func := "shackle/shacklelaw19.RelocMoves", spec := "relocMoves", apart := false, narrowed := true }
def RelocMovesUptoSaid : Prop := relocMovesUptoRow.holds Try.pinned (OpenSpec.upto relocMovesSpec)

/-- 'shacklelaw09.RelsBits', WHERE WHAT IT READS IS OF BULK AT MOST 1048576: true; the input reads as it did. -/
def relsBitsUptoRow : OpenClaim := { program := "ythhlnhbmjkjmlaa", sum := "c2da252c35f881f93ac8cc902bc490427af3c71bdccaf5d37da14840664dff96", func := "shackle/shacklelaw09.RelsBits", spec := "relsBits", apart := false, narrowed := true }
def RelsBitsUptoSaid : Prop := relsBitsUptoRow.holds Try.pinned (OpenSpec.upto relsBitsSpec)

/-- 'shacklelaw01.SpanUps', WHERE WHAT IT READS IS OF BULK AT MOST 1048576: true; the input reads as it did. -/
def spanUpsUptoRow : OpenClaim := { program := "ythhlnhbmjkjmlaa", sum := "c2da252c35f881f93ac8cc902bc490427af3c71bdccaf5d37da14840664dff96", func := "shackle/shacklelaw01.SpanUps", spec := "spanUps", inPlace := ["math/bits.Add64", "internal/bytealg.IndexByte"], apart := false, narrowed := true }
def SpanUpsUptoSaid : Prop := spanUpsUptoRow.holds Try.pinned (OpenSpec.upto spanUpsSpec)

/-- 'shacklelaw01.SpanSums', WHERE WHAT IT READS IS OF BULK AT MOST 1048576: true; the input reads as it did. -/
def spanSumsUptoRow : OpenClaim := { program := "ythhlnhbmjkjmlaa", sum := "c2da252c35f881f93ac8cc902bc490427af3c71bdccaf5d37da14840664dff96", func := "shackle/shacklelaw01.SpanSums", spec := "spanSums", inPlace := ["math/bits.Add64", "internal/bytealg.IndexByte"], apart := false, narrowed := true }
def SpanSumsUptoSaid : Prop := spanSumsUptoRow.holds Try.pinned (OpenSpec.upto spanSumsSpec)

/-- 'shacklelaw01.SpanJoins', WHERE WHAT IT READS IS OF BULK AT MOST 1048576: true; the input reads as it did. -/
def spanJoinsUptoRow : OpenClaim := { program := "ythhlnhbmjkjmlaa", sum := "c2da252c35f881f93ac8cc902bc490427af3c71bdccaf5d37da14840664dff96", func := "shackle/shacklelaw01.SpanJoins", spec := "spanJoins", inPlace := ["math/bits.Add64", "internal/bytealg.IndexByte"], apart := false, narrowed := true }
def SpanJoinsUptoSaid : Prop := spanJoinsUptoRow.holds Try.pinned (OpenSpec.upto spanJoinsSpec)

/-- 'shacklelaw09.RelsMade', WHERE WHAT IT READS IS OF BULK AT MOST 1048576: true; the input reads as it did. -/
def relsMadeUptoRow : OpenClaim := { program := "ythhlnhbmjkjmlaa", sum := "c2da252c35f881f93ac8cc902bc490427af3c71bdccaf5d37da14840664dff96", func := "shackle/shacklelaw09.RelsMade", spec := "relsMade", apart := false, narrowed := true }
def RelsMadeUptoSaid : Prop := relsMadeUptoRow.holds Try.pinned (OpenSpec.upto relsMadeSpec)

/-- 'shacklelaw01.SpanBack', WHERE WHAT IT READS IS OF BULK AT MOST 1048576: true; the input reads as it did. -/
def spanBackUptoRow : OpenClaim := { program := "ythhlnhbmjkjmlaa", sum := "c2da252c35f881f93ac8cc902bc490427af3c71bdccaf5d37da14840664dff96", func := "shackle/shacklelaw01.SpanBack", spec := "spanBack", inPlace := ["math/bits.Add64", "internal/bytealg.IndexByte"], apart := false, narrowed := true }
def SpanBackUptoSaid : Prop := spanBackUptoRow.holds Try.pinned (OpenSpec.upto spanBackSpec)

/-- 'shacklelaw14.SearchDirs', WHERE WHAT IT READS IS OF BULK AT MOST 1048576: true; the input reads as it did. -/
def searchDirsUptoRow : OpenClaim := { program := "ythhlnhbmjkjmlaa", sum := "c2da252c35f881f93ac8cc902bc490427af3c71bdccaf5d37da14840664dff96", func := "shackle/shacklelaw14.SearchDirs", spec := "searchDirs", inPlace := ["internal/abi.NoEscape"], unfollowed := true, recurses := true, apart := false, narrowed := true }
def SearchDirsUptoSaid : Prop := searchDirsUptoRow.holds Try.pinned (OpenSpec.upto searchDirsSpec)

/-- 'shacklelaw14.SearchPlain', WHERE WHAT IT READS IS OF BULK AT MOST 1048576: true; the input reads as it did. -/
def searchPlainUptoRow : OpenClaim := { program := "ythhlnhbmjkjmlaa", sum := "c2da252c35f881f93ac8cc902bc490427af3c71bdccaf5d37da14840664dff96", func := "shackle/shacklelaw14.SearchPlain", spec := "searchPlain", inPlace := ["internal/abi.NoEscape"], unfollowed := true, recurses := true, apart := false, narrowed := true }
def SearchPlainUptoSaid : Prop := searchPlainUptoRow.holds Try.pinned (OpenSpec.upto searchPlainSpec)

/-- 'shacklelaw05.DynOrders', WHERE WHAT IT READS IS OF BULK AT MOST 1048576: true; the input reads as it did. -/
def dynOrdersUptoRow : OpenClaim := { program := "ythhlnhbmjkjmlaa", sum := "c2da252c35f881f93ac8cc902bc490427af3c71bdccaf5d37da14840664dff96", func := "shackle/shacklelaw05.DynOrders", spec := "dynOrders", unfollowed := true, recurses := true, apart := false, narrowed := true }
def DynOrdersUptoSaid : Prop := dynOrdersUptoRow.holds Try.pinned (OpenSpec.upto dynOrdersSpec)

end Rows
end Go.Proofs.Ythhlnhbmjkjmlaa
