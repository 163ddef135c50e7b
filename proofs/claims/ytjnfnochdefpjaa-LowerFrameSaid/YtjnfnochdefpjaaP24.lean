/- The area of arguments: the law. -/
import Derived.Test.YtjnfnochdefpjaaP2
set_option linter.unusedVariables false
set_option linter.unusedSimpArgs false
namespace Go.Proofs.Ytjnfnochdefpjaa.Q
end Go.Proofs.Ytjnfnochdefpjaa.Q
