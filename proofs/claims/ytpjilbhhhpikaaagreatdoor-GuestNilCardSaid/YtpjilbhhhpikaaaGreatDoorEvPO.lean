/- The contracts of the functions that look at no memory (none here). No condition. -/
import Derived.Test.YtpjilbhhhpikaaaGreatDoorEvS2
import Derived.Test.YtpjilbhhhpikaaaGreatDoorProg
namespace Go.Ev
open Go Go.Proofs
theorem ovP_ok : OvOk Tryz.prog ovP := fun f g h => by unfold ovP pureG at h; cases h
end Go.Ev
