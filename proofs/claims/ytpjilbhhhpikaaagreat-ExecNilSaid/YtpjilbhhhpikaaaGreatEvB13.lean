/- law13's two memories, without bytes: they are there. No condition. -/
import Derived.Test.YtpjilbhhhpikaaaGreatEvU
namespace Go.Ev
set_option linter.unusedVariables false
set_option linter.unusedSimpArgs false
def isPtrs : Option (V × H) → Bool
  | some (.tup [.ptr _ _ _, .ptr _ _ _], _) => true
  | _ => false
set_option maxRecDepth 1000000 in
set_option maxHeartbeats 0 in
theorem both13 : isPtrs (run1 14 [.snil, .snil] 100000) = true := by decide +kernel
end Go.Ev
