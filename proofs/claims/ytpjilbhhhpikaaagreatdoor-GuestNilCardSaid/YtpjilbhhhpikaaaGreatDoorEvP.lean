/- Functions of this program that look at no memory, by what they tell (none here). No condition. -/
import Derived.Test.YtpjilbhhhpikaaaGreatDoorEvC
namespace Go.Ev
open Go
noncomputable def pureG : FuncId → Option (List V → Option V) := fun _ => none
end Go.Ev
