/- How the data of the program lie in memory (written by a program). -/
import Derived.Test.YtgbkhjllbgmdcaaGreatLR
import Derived.Test.YtgbkhjllbgmdcaaGreatGd
set_option linter.unusedVariables false
set_option linter.unusedSimpArgs false
set_option maxRecDepth 8000
namespace Go.Proofs.YtgbkhjllbgmdcaaGreat.Q
open Go.RowKit
def uRow (n:Int):List TV:=[.int .u64 n]
def oRow (b:Bool):List TV:=[.bool b]
def sR {α:Type} (g:α→List TV) (l:List α):List TV:=[.tree (l.map g)]
def row_ASlot (x:ASlot):List TV:=[.int .i64 x.Size,.int .i64 x.Align]
def row_AInstr (x:AInstr):List TV:=[.int .i64 x.Op,.int .i64 x.A,.int .i64 x.B,.int .i64 x.C,.int .u64 x.Imm]
def row_AFunc (x:AFunc):List TV:=[.int .i64 x.Params,.tree (x.Slots.map row_ASlot),.tree (x.Code.map row_AInstr)]
def row_ALayout (x:ALayout):List TV:=[.int .i64 x.Args,.int .i64 x.Size,.tree (x.Off.map iRow)]
def row_DCodes (x:DCodes):List TV:=[.tree (x.list.map bRow),.int .i64 x.at_]
def row_AProgram (x:AProgram):List TV:=[.tree (x.Funcs.map row_AFunc)]
def row_ALive (x:ALive):List TV:=[.tree (x.Out.map (sR iRow))]
def row_Arr2Int (x:Arr2Int):List TV:=[.int .i64 x.e0,.int .i64 x.e1]
theorem same_Arr2Int (a b:Arr2Int):sameR (row_Arr2Int a) (row_Arr2Int b)=decide (a=b):=by
 cases a;cases b
 simp [row_Arr2Int,sameR,sameT,Bool.decide_and]
 try rfl
def row_ARename (x:ARename):List TV:=[.tree (x.To.map iRow),.tree (x.Keep.map oRow)]
def row_AInterval (x:AInterval):List TV:=[.int .i64 x.Off,.int .i64 x.Size]
def row_AProposal (x:AProposal):List TV:=row_ALive x.Live++row_ARename x.Rename++row_ALive x.LiveAfter++row_ALayout x.Layout
def row_Layout_subject (x:Layout_subject):List TV:=row_AProgram x.p++[.int .i64 x.i,.int .i64 x.align]++row_AFunc x.f++row_ALayout x.y
def row_AFrame (x:AFrame):List TV:=[.int .i64 x.Params,.int .i64 x.Size,.tree (x.Code.map row_AInstr)]
def row_ATarget (x:ATarget):List TV:=[.int .i64 x.Align,.tree (x.Frames.map row_AFrame)]
def row_AValue (x:AValue):List TV:=[.int .u64 x.Lo,.int .u64 x.Hi]
theorem same_AValue (a b:AValue):sameR (row_AValue a) (row_AValue b)=decide (a=b):=by
 cases a;cases b
 simp [row_AValue,sameR,sameT,Bool.decide_and]
 try rfl
def row_Arr8AValue (x:Arr8AValue):List TV:=row_AValue x.e0++row_AValue x.e1++row_AValue x.e2++row_AValue x.e3++row_AValue x.e4++row_AValue x.e5++row_AValue x.e6++row_AValue x.e7
def row_R08cell (x:R08cell):List TV:=row_AValue x.v++[.bool x.ok]
def row_R08activation (x:R08activation):List TV:=[.int .i64 x.f,.int .i64 x.at_,.tree (x.slots.map row_R08cell),.tree (x.args.map row_R08cell)]
def row_AOutcome (x:AOutcome):List TV:=[.int .i64 x.Kind,.int .u64 x.Code]++row_AValue x.Result++[.tree (x.Trace.map row_AValue),.int .i64 x.Steps]
def row_R08machine (x:R08machine):List TV:=row_AProgram x.p++row_Arr8AValue x.regs++[.tree (x.acts.map row_R08activation),.tree (x.input.map uRow),.int .i64 x.deep,.bool x.done]++row_AOutcome x.out
def row_AStack (x:AStack):List TV:=[.tree (x.Bytes.map bRow),.tree (x.Used.map oRow),.int .i64 x.SP]
def row_R12activation (x:R12activation):List TV:=[.int .i64 x.f,.int .i64 x.at_]
def row_R12machine (x:R12machine):List TV:=row_ATarget x.t++row_Arr8AValue x.regs++[.tree (x.acts.map row_R12activation)]++row_AStack x.stack++[.int .i64 x.first,.int .i64 x.deep,.tree (x.input.map uRow),.bool x.done]++row_AOutcome x.out
end Go.Proofs.YtgbkhjllbgmdcaaGreat.Q
