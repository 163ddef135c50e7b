/- Graphs: reaching by unions, turned edges. -/
import Derived.Test.YtpjmpkgllnomaaaDoorP27g
set_option linter.unusedVariables false
set_option linter.unusedSimpArgs false
namespace Go.Proofs.YtpjmpkgllnomaaaDoor.Q
/-! ### Turned edges -/
end Go.Proofs.YtpjmpkgllnomaaaDoor.Q
