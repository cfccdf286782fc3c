/- law20's examples give true. No condition. -/
import Derived.Test.YtpjilbhhhpikaaaGreatDoorEvU
namespace Go.Ev
set_option linter.unusedVariables false
set_option linter.unusedSimpArgs false
set_option maxRecDepth 1000000 in
set_option maxHeartbeats 0 in
theorem up20 : isTrue (run1 4 [] 100000) = true := by decide +kernel
end Go.Ev
