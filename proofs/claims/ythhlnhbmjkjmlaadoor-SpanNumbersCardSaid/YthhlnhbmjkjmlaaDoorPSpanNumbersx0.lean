/- Printed by this session's own program (wip/tools: a turn of the kit's print) out of the translation: each Go function that the law reaches as a Lean function, and that the machine's call comes to what that function tells; no condition but what each theorem names. -/
import Derived.Test.YthhlnhbmjkjmlaaDoorProg
import Derived.Below
import Derived.Deep.Draws
import Derived.Deep.AppendLies
import Derived.Maps.AppendAt
import Derived.OwnWalk
import Derived.Laws.BytesArg
import Derived.Laws.MakeOwn
import Derived.Laws.OwnMore
import Derived.Deep.OwnRows
import Derived.Tactics
import Derived.Lib.ConvBytes
import Derived.Laws.Slices
import Derived.WalkKit
import Derived.KernelRfl
import Derived.RowKit3
import Derived.Deep.LoopGhost
import Derived.Deep.QuietTactic
import Derived.BigQuiet
import Derived.WideLaws
import Derived.Deep.DeepCutAuto
import Derived.Deep.CutBlock
import Derived.Deep.RegionHeld3
import Derived.Laws.Rows
import Derived.Lib.AppendStr
import Derived.ArgAppend
import Derived.Laws.IdiomCopy
import Derived.OrdersHeld
import Derived.Laws.BitsLemmas
import Derived.RowKit
import Derived.WalkMore
import Derived.Test.YthhlnhbmjkjmlaaDoorWWords
import Derived.Test.YthhlnhbmjkjmlaaDoorWLast
import Derived.Test.YthhlnhbmjkjmlaaDoorWTab
import Derived.Test.YthhlnhbmjkjmlaaDoorWFour
import Derived.Test.YthhlnhbmjkjmlaaDoorWQPut
import Derived.Test.YthhlnhbmjkjmlaaDoorWApart
import Derived.Test.YthhlnhbmjkjmlaaDoorWArr
import Derived.Test.YthhlnhbmjkjmlaaDoorWZeros
import Derived.Test.YthhlnhbmjkjmlaaDoorWFoot
import Derived.Test.YthhlnhbmjkjmlaaDoorWKept
import Derived.Test.YthhlnhbmjkjmlaaDoorWShare
import Derived.Test.YthhlnhbmjkjmlaaDoorWN
import Derived.Test.YthhlnhbmjkjmlaaDoorWFootNe
import Derived.Test.YthhlnhbmjkjmlaaDoorWAt
import Derived.Test.YthhlnhbmjkjmlaaDoorWEqStruct
import Derived.Test.YthhlnhbmjkjmlaaDoorWRepsOne
import Derived.Test.YthhlnhbmjkjmlaaDoorWInv
import Derived.Test.YthhlnhbmjkjmlaaDoorWInvWords
import Derived.Test.YthhlnhbmjkjmlaaDoorWGuard
import Derived.Test.YthhlnhbmjkjmlaaDoorWNEv
import Derived.Test.YthhlnhbmjkjmlaaDoorWMore
import Derived.Test.YthhlnhbmjkjmlaaDoorXErr
import Derived.Test.YthhlnhbmjkjmlaaDoorXCalls
import Derived.Test.YthhlnhbmjkjmlaaDoorXSpot
import Derived.Test.YthhlnhbmjkjmlaaDoorXCopy
import Derived.Test.YthhlnhbmjkjmlaaDoorXIs
import Derived.Test.YthhlnhbmjkjmlaaDoorShelf
namespace Go.Proofs.YthhlnhbmjkjmlaaDoor.PSpanNumbers
open Go.RowKit Go.Proofs.YthhlnhbmjkjmlaaDoorW.PrintWords Go.Proofs.YthhlnhbmjkjmlaaDoorW.PrintLast Go.Proofs.YthhlnhbmjkjmlaaDoorW.PrintMore Go.Proofs.YthhlnhbmjkjmlaaDoorX
attribute [local go_sem] max2_int min2_int max_two min_two max_three min_three max_four min_four   -- for this text's walks alone
set_option linter.unusedVariables false
set_option linter.unusedSimpArgs false



def errW : Option Int → Value
  | none => .nilIface
  | some c => .iface 40 (.int .i64 c)
theorem errW_none : errW none = .nilIface := rfl
theorem errW_some (c : Int) : errW (some c) = .iface 40 (.int .i64 c) := rfl

theorem info5 : (Tryd.prog.info? 5).map (fun i => (i.zero, i.size, i.bytes)) = some (some (.int .u8 0), 1, 1) := by kernel_rfl
theorem info23 : (Tryd.prog.info? 23).map (fun i => (i.zero, i.size, i.bytes)) = some (some (.int .u64 0), 1, 8) := by kernel_rfl
-- the values' own types
def rd_L2 (xs : List (List Int)) (i : Int) : (List Int) := xs.getD i.toNat ([] : List Int)
theorem at_L2 {w : World} {A : Option Addr} {n : Nat} {xs : List (List Int)} (h : Kd.C (Kd.slice 5 (Kd.int .u8)) w A n xs) (i : Int) (h0 : 0 ≤ i) (h1 : i < n) : ∃ ad A0 c0, A = some ad ∧ w.cell? (ad.add i.toNat) = some (.slice A0 (rd_L2 xs i).length c0) ∧ (rd_L2 xs i).length ≤ c0 ∧ (Kd.int .u8).C w A0 (rd_L2 xs i).length (rd_L2 xs i) := by
  obtain ⟨ad, c, e, _, hK, hc0⟩ := Kd.C_get h ([] : List Int) i h0 h1
  have hc : ∀ j u, c[j]? = some u → w.cell? (ad.add (i.toNat * 1 + j)) = some u := hc0
  obtain ⟨A0, c0, rfl, l0, g0⟩ := hK
  exact ⟨ad, A0, c0, e, by have hq := hc 0 _ rfl; rwa [Nat.mul_one, Nat.add_zero] at hq, l0, g0⟩

end Go.Proofs.YthhlnhbmjkjmlaaDoor.PSpanNumbers
