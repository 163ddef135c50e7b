/- The area of arguments: the law. -/
import Derived.Test.YtlhaoijkffhafaaGreatDoorP2
set_option linter.unusedVariables false
set_option linter.unusedSimpArgs false
namespace Go.Proofs.YtlhaoijkffhafaaGreatDoor.Q
end Go.Proofs.YtlhaoijkffhafaaGreatDoor.Q
