import Derived.Test.YtjohdgejjnbddaaDoorWInv
import Derived.Test.YtjohdgejjnbddaaDoorWFootNe
namespace Go.Proofs.YtjohdgejjnbddaaDoorW.PrintWords
open Go.RowKit
end Go.Proofs.YtjohdgejjnbddaaDoorW.PrintWords
namespace Go.Proofs.YtjohdgejjnbddaaDoorW.PrintLast
section
variable {ops : Array Oper} {a : Act} {o og : Oper} {g : Nat} {t : Tmp} {u : Bool}
end
end Go.Proofs.YtjohdgejjnbddaaDoorW.PrintLast
