/- How the data of the program lie in memory (written by a program). -/
import Derived.Test.YtpjmpkgllnomaaaDoorLg
import Derived.Test.YtpjmpkgllnomaaaDoorGd
set_option linter.unusedVariables false
set_option linter.unusedSimpArgs false
set_option maxRecDepth 8000
namespace Go.Proofs.YtpjmpkgllnomaaaDoor.Q
open Go.RowKit
def uRow (n : Int) : List TV := [.int .u64 n]
def oRow (b : Bool) : List TV := [.bool b]
def kRow (k : IntKind) (n : Int) : List TV := [.int k n]
def sR {α : Type} (g : α → List TV) (l : List α) : List TV := [.tree (l.map g)]
def row_Bound_bounds (x : Bound_bounds) : List TV := [.tree (x.g.map (sR iRow)), .tree (x.w.map iRow), .tree (x.known.map oRow), .tree (x.of.map iRow)]
def row_DCodes (x : DCodes) : List TV := [.tree (x.list.map bRow), .int .i64 x.at_]
end Go.Proofs.YtpjmpkgllnomaaaDoor.Q
