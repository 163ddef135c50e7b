/- The area of arguments: the law. -/
import Derived.Test.YtlhaoijkffhafaaDoorP2
set_option linter.unusedVariables false
set_option linter.unusedSimpArgs false
namespace Go.Proofs.YtlhaoijkffhafaaDoor.Q
end Go.Proofs.YtlhaoijkffhafaaDoor.Q
