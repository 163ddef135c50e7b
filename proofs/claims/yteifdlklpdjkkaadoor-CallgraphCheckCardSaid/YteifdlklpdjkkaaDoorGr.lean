/- How the data of the program lie in memory (written by a program). -/
import Derived.Test.YteifdlklpdjkkaaDoorMc
import Derived.Test.YteifdlklpdjkkaaDoorGd
set_option linter.unusedVariables false
set_option linter.unusedSimpArgs false
set_option maxRecDepth 8000
namespace Go.Proofs.YteifdlklpdjkkaaDoor.Q
open Go.RowKit
def uRow (n : Int) : List TV := [.int .u64 n]
def oRow (b : Bool) : List TV := [.bool b]
def kRow (k : IntKind) (n : Int) : List TV := [.int k n]
def sR {α : Type} (g : α → List TV) (l : List α) : List TV := [.tree (l.map g)]
def row_ASlot (x : ASlot) : List TV := [.int .i64 x.Size, .int .i64 x.Align]
theorem same_ASlot (a b : ASlot) : sameR (row_ASlot a) (row_ASlot b) = decide (a = b) := by
  cases a; cases b
  simp [row_ASlot, sameR, sameT, Bool.decide_and]
  try rfl
def row_AInstr (x : AInstr) : List TV := [.int .i64 x.Op, .int .i64 x.A, .int .i64 x.B, .int .i64 x.C, .int .u64 x.Imm]
theorem same_AInstr (a b : AInstr) : sameR (row_AInstr a) (row_AInstr b) = decide (a = b) := by
  cases a; cases b
  simp [row_AInstr, sameR, sameT, Bool.decide_and]
  try rfl
def row_AFunc (x : AFunc) : List TV := [.int .i64 x.Params, .tree (x.Slots.map row_ASlot), .tree (x.Code.map row_AInstr)]
def row_AProgram (x : AProgram) : List TV := [.tree (x.Funcs.map row_AFunc)]
def row_Arr2Int (x : Arr2Int) : List TV := [.int .i64 x.e0, .int .i64 x.e1]
theorem same_Arr2Int (a b : Arr2Int) : sameR (row_Arr2Int a) (row_Arr2Int b) = decide (a = b) := by
  cases a; cases b
  simp [row_Arr2Int, sameR, sameT, Bool.decide_and]
  try rfl
def row_DCodes (x : DCodes) : List TV := [.tree (x.list.map bRow), .int .i64 x.at_]
end Go.Proofs.YteifdlklpdjkkaaDoor.Q
