/- How the data of the program lie in memory (written by a program). -/
import Derived.Test.YtmefipdgohflmaaDoorLg
import Derived.Test.YtmefipdgohflmaaDoorGd
set_option linter.unusedVariables false
set_option linter.unusedSimpArgs false
set_option maxRecDepth 8000
namespace Go.Proofs.YtmefipdgohflmaaDoor.Q
open Go.RowKit
def uRow (n : Int) : List TV := [.int .u64 n]
def oRow (b : Bool) : List TV := [.bool b]
def kRow (k : IntKind) (n : Int) : List TV := [.int k n]
def sR {α : Type} (g : α → List TV) (l : List α) : List TV := [.tree (l.map g)]
def row_DCodes (x : DCodes) : List TV := [.tree (x.list.map bRow), .int .i64 x.at_]
def row_Cycle_frame (x : Cycle_frame) : List TV := [.int .i64 x.function, .tree (x.rest.map iRow)]
def row_Bound_bounds (x : Bound_bounds) : List TV := [.tree (x.g.map (sR iRow)), .tree (x.w.map iRow), .tree (x.known.map oRow), .tree (x.of.map iRow)]
def row_AInstr (x : AInstr) : List TV := [.int .i64 x.Op, .int .i64 x.A, .int .i64 x.B, .int .i64 x.C, .int .u64 x.Imm]
theorem same_AInstr (a b : AInstr) : sameR (row_AInstr a) (row_AInstr b) = decide (a = b) := by
  cases a; cases b
  simp [row_AInstr, sameR, sameT, Bool.decide_and]
  try rfl
def row_AFrame (x : AFrame) : List TV := [.int .i64 x.Params, .int .i64 x.Size, .tree (x.Code.map row_AInstr)]
def row_ATarget (x : ATarget) : List TV := [.int .i64 x.Align, .tree (x.Frames.map row_AFrame)]
end Go.Proofs.YtmefipdgohflmaaDoor.Q
