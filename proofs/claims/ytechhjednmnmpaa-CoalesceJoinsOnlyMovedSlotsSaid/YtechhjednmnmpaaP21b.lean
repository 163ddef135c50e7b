/- Applying a renaming: the function that comes out. -/
import Derived.Test.YtechhjednmnmpaaP21
set_option linter.unusedVariables false
set_option linter.unusedSimpArgs false
namespace Go.Proofs.Ytechhjednmnmpaa.Q
section
variable {n i par : Int} {f : AFunc}
end
end Go.Proofs.Ytechhjednmnmpaa.Q
