/- The area of arguments: the law. -/
import Derived.Test.YtjnfnochdefpjaaGreatP2
set_option linter.unusedVariables false
set_option linter.unusedSimpArgs false
namespace Go.Proofs.YtjnfnochdefpjaaGreat.Q
end Go.Proofs.YtjnfnochdefpjaaGreat.Q
