/- How the data of the program lie in memory (written by a program). -/
import Derived.Test.YthlpmklgokjdkaaLg
import Derived.Test.YthlpmklgokjdkaaGd
set_option linter.unusedVariables false
set_option linter.unusedSimpArgs false
set_option maxRecDepth 8000
namespace Go.Proofs.Ythlpmklgokjdkaa.Q
open Go.RowKit
def uRow (n : Int) : List TV := [.int .u64 n]
def oRow (b : Bool) : List TV := [.bool b]
def kRow (k : IntKind) (n : Int) : List TV := [.int k n]
def sR {α : Type} (g : α → List TV) (l : List α) : List TV := [.tree (l.map g)]
def row_ASlot (x : ASlot) : List TV := [.int .i64 x.Size, .int .i64 x.Align]
theorem same_ASlot (a b : ASlot) : sameR (row_ASlot a) (row_ASlot b) = decide (a = b) := by
  cases a; cases b
  simp [row_ASlot, sameR, sameT, Bool.decide_and]
  try rfl
def row_AInterval (x : AInterval) : List TV := [.int .i64 x.Off, .int .i64 x.Size]
theorem same_AInterval (a b : AInterval) : sameR (row_AInterval a) (row_AInterval b) = decide (a = b) := by
  cases a; cases b
  simp [row_AInterval, sameR, sameT, Bool.decide_and]
  try rfl
def row_DCodes (x : DCodes) : List TV := [.tree (x.list.map bRow), .int .i64 x.at_]
end Go.Proofs.Ythlpmklgokjdkaa.Q
