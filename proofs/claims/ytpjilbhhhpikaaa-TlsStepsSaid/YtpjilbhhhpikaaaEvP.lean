/- Functions of this program that look at no memory, by what they tell: tls.up. No condition. -/
import Derived.Test.YtpjilbhhhpikaaaEvC
import Derived.Test.YtpjilbhhhpikaaaEvSp
namespace Go.Ev
open Go Go.Proofs.Ytpjilbhhhpikaaa.PSp
noncomputable def pureF2 (F : Int → Int → Option Int) : List V → Option V := fun args => match args with
  | [.int .u64 a, .int .u64 b] => match F a b with | some r => some (.int .u64 r) | none => none
  | _ => none
noncomputable def pureG : FuncId → Option (List V → Option V) := fun f => match Nat.beq f 26 with | true => some (pureF2 tls_up.f) | false => none
end Go.Ev
