import Derived.Test.YtjohdgejjnbddaaDoorWTab
namespace Go.Proofs.YtjohdgejjnbddaaDoorW.PrintLast
section
variable {P : Program} {ops : Array Oper} {Q : Exit → Act → World → Prop} {md : Region.Mode} {S : World → Prop} {ds : List Nat} {T : Bool × List (List Nat × List Nat)}
end
end Go.Proofs.YtjohdgejjnbddaaDoorW.PrintLast
