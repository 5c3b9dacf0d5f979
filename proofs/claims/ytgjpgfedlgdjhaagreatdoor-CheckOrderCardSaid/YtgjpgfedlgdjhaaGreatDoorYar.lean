/- Part 18. -/
import Derived.Test.YtgjpgfedlgdjhaaGreatDoorYaq
set_option linter.unusedVariables false
set_option linter.unusedSimpArgs false
set_option maxHeartbeats 64000000
set_option maxRecDepth 8192
section
namespace Go.Proofs.YtgjpgfedlgdjhaaGreatDoor
end Go.Proofs.YtgjpgfedlgdjhaaGreatDoor
end
