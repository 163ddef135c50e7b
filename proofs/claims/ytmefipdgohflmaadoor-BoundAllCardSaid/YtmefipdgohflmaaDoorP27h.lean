/- Graphs: reaching by unions, turned edges. -/
import Derived.Test.YtmefipdgohflmaaDoorP27g
set_option linter.unusedVariables false
set_option linter.unusedSimpArgs false
namespace Go.Proofs.YtmefipdgohflmaaDoor.Q
/-! ### Turned edges -/
end Go.Proofs.YtmefipdgohflmaaDoor.Q
