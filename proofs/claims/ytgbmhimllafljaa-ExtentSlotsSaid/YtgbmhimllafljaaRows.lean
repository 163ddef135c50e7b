/-
  No cell of these rows narrows 'for every input' (looked for: loops, veiled, ifaces, maps, wideKeys, modest, calm, conditions, laid).
  DERIVED. THE GIVEN ROWS OF THIS SEAT. 7 by the template 'for every input the law returns true; each argument reads behind the call as it read before'; 0 by the template 'total and deterministic' (their statements: YtgbmhimllafljaaTotals.lean).
  GIVEN WITH THE SEED: the statements are not yours to turn. If you find one false, say at which input.
  Laid BY PROGRAM, IN A SANDBOX (cutbox-rows.mjs): the forced cells as the released guide's own fill.sh prints them over the translation ae4beaa236b29124… (all of the seat's roots in one cut). By AI agents, Wed Nov 11 2026. No macro, syntax, notation, axiom, sorry.
-/
import Derived.Test.YtgbmhimllafljaaChecked
import GoSem.Claim
import GoSem.ClaimJoined
import GoSem.ClaimMapViews
import Derived.JoinedTies
import Derived.KernelRfl
namespace Go.Proofs.Ytgbmhimllafljaa
/- THE CELL 'sum', in the pinned program and in every row, IS THE sha256 OF THE DUMP (.gsa) THAT YtgbmhimllafljaaProg.lean LOADS. Nothing in Lean hashes anything: it is a label: what it is worth is what the hold of that sum in a sandbox is worth. -/
noncomputable def Try.pinned : Pinned := { name := "ytgbmhimllafljaa", sum := "ae4beaa236b29124cd933e4668b0d8e9c2d3e50eaee00f0c02938de5d637be15", checked := Try.checked }
namespace Rows
def none {H : Type} : Left H := { results := [], args := [] }

/-- 'spillframelaw24.PackArgsFitAllCalls': WHATEVER THE INPUT: true; the input reads as it did. -/
def packArgsFitAllCallsSpec : ChangeSpec := { name := "packArgsFitAllCalls", fn := fun _ => fun
  | [d] => { results := [.lit (.bool true)], args := [d] }
  | _ => none }
def packArgsFitAllCallsRow : OpenClaim := { program := "ytgbmhimllafljaa", sum := "ae4beaa236b29124cd933e4668b0d8e9c2d3e50eaee00f0c02938de5d637be15", func := "spillframe/spillframelaw24.PackArgsFitAllCalls", spec := "packArgsFitAllCalls", apart := false }
def PackArgsFitAllCallsSaid : Prop := packArgsFitAllCallsRow.holds Try.pinned (OpenSpec.ofChange packArgsFitAllCallsSpec)

/-- ITS FALSE NEIGHBOUR: 'it returns false'. Refute it at one input. -/
def packArgsFitAllCallsWrong : ChangeSpec := { name := "packArgsFitAllCalls", fn := fun _ => fun
  | [d] => { results := [.lit (.bool false)], args := [d] }
  | _ => none }
def PackArgsFitAllCallsWrongFalsely : Prop := packArgsFitAllCallsRow.holds Try.pinned (OpenSpec.ofChange packArgsFitAllCallsWrong)

/-- 'spillframelaw03.ExtentUpIsLeast': WHATEVER THE INPUT: true; the input reads as it did. -/
def extentUpIsLeastSpec : ChangeSpec := { name := "extentUpIsLeast", fn := fun _ => fun
  | [d1, d2] => { results := [.lit (.bool true)], args := [d1, d2] }
  | _ => none }
def extentUpIsLeastRow : OpenClaim := { program := "ytgbmhimllafljaa", sum := "ae4beaa236b29124cd933e4668b0d8e9c2d3e50eaee00f0c02938de5d637be15", func := "spillframe/spillframelaw03.ExtentUpIsLeast", spec := "extentUpIsLeast", apart := false }
def ExtentUpIsLeastSaid : Prop := extentUpIsLeastRow.holds Try.pinned (OpenSpec.ofChange extentUpIsLeastSpec)

/-- ITS FALSE NEIGHBOUR: 'it returns false'. Refute it at one input. -/
def extentUpIsLeastWrong : ChangeSpec := { name := "extentUpIsLeast", fn := fun _ => fun
  | [d1, d2] => { results := [.lit (.bool false)], args := [d1, d2] }
  | _ => none }
def ExtentUpIsLeastWrongFalsely : Prop := extentUpIsLeastRow.holds Try.pinned (OpenSpec.ofChange extentUpIsLeastWrong)

/-- 'spillframelaw15.EffectUses': WHATEVER THE INPUT: true; the input reads as it did. -/
def effectUsesSpec : ChangeSpec := { name := "effectUses", fn := fun _ => fun
  | [d1, d2] => { results := [.lit (.bool true)], args := [d1, d2] }
  | _ => none }
def effectUsesRow : OpenClaim := { program := "ytgbmhimllafljaa", sum := "ae4beaa236b29124cd933e4668b0d8e9c2d3e50eaee00f0c02938de5d637be15", func := "spillframe/spillframelaw15.EffectUses", spec := "effectUses", apart := false }
def EffectUsesSaid : Prop := effectUsesRow.holds Try.pinned (OpenSpec.ofChange effectUsesSpec)

/-- ITS FALSE NEIGHBOUR: 'it returns false'. Refute it at one input. -/
def effectUsesWrong : ChangeSpec := { name := "effectUses", fn := fun _ => fun
  | [d1, d2] => { results := [.lit (.bool false)], args := [d1, d2] }
  | _ => none }
def EffectUsesWrongFalsely : Prop := effectUsesRow.holds Try.pinned (OpenSpec.ofChange effectUsesWrong)

/-- 'spillframelaw03.ExtentArithmetic': WHATEVER THE INPUT: true; the input reads as it did. -/
def extentArithmeticSpec : ChangeSpec := { name := "extentArithmetic", fn := fun _ => fun
  | [d1, d2, d3] => { results := [.lit (.bool true)], args := [d1, d2, d3] }
  | _ => none }
def extentArithmeticRow : OpenClaim := { program := "ytgbmhimllafljaa", sum := "ae4beaa236b29124cd933e4668b0d8e9c2d3e50eaee00f0c02938de5d637be15", func := "spillframe/spillframelaw03.ExtentArithmetic", spec := "extentArithmetic", apart := false }
def ExtentArithmeticSaid : Prop := extentArithmeticRow.holds Try.pinned (OpenSpec.ofChange extentArithmeticSpec)

/-- ITS FALSE NEIGHBOUR: 'it returns false'. Refute it at one input. -/
def extentArithmeticWrong : ChangeSpec := { name := "extentArithmetic", fn := fun _ => fun
  | [d1, d2, d3] => { results := [.lit (.bool false)], args := [d1, d2, d3] }
  | _ => none }
def ExtentArithmeticWrongFalsely : Prop := extentArithmeticRow.holds Try.pinned (OpenSpec.ofChange extentArithmeticWrong)

/-- 'spillframelaw03.ExtentIntervals': WHATEVER THE INPUT: true; the input reads as it did. -/
def extentIntervalsSpec : ChangeSpec := { name := "extentIntervals", fn := fun _ => fun
  | [d1, d2, d3] => { results := [.lit (.bool true)], args := [d1, d2, d3] }
  | _ => none }
def extentIntervalsRow : OpenClaim := { program := "ytgbmhimllafljaa", sum := "ae4beaa236b29124cd933e4668b0d8e9c2d3e50eaee00f0c02938de5d637be15", func := "spillframe/spillframelaw03.ExtentIntervals", spec := "extentIntervals", apart := false }
def ExtentIntervalsSaid : Prop := extentIntervalsRow.holds Try.pinned (OpenSpec.ofChange extentIntervalsSpec)

/-- ITS FALSE NEIGHBOUR: 'it returns false'. Refute it at one input. -/
def extentIntervalsWrong : ChangeSpec := { name := "extentIntervals", fn := fun _ => fun
  | [d1, d2, d3] => { results := [.lit (.bool false)], args := [d1, d2, d3] }
  | _ => none }
def ExtentIntervalsWrongFalsely : Prop := extentIntervalsRow.holds Try.pinned (OpenSpec.ofChange extentIntervalsWrong)

/-- 'spillframelaw15.EffectRenamed': WHATEVER THE INPUT: true; the input reads as it did. -/
def effectRenamedSpec : ChangeSpec := { name := "effectRenamed", fn := fun _ => fun
  | [d1, d2, d3, d4] => { results := [.lit (.bool true)], args := [d1, d2, d3, d4] }
  | _ => none }
def effectRenamedRow : OpenClaim := { program := "ytgbmhimllafljaa", sum := "ae4beaa236b29124cd933e4668b0d8e9c2d3e50eaee00f0c02938de5d637be15", func := "spillframe/spillframelaw15.EffectRenamed", spec := "effectRenamed", unfollowed := true, recurses := true, apart := false }
def EffectRenamedSaid : Prop := effectRenamedRow.holds Try.pinned (OpenSpec.ofChange effectRenamedSpec)

/-- ITS FALSE NEIGHBOUR: 'it returns false'. Refute it at one input. -/
def effectRenamedWrong : ChangeSpec := { name := "effectRenamed", fn := fun _ => fun
  | [d1, d2, d3, d4] => { results := [.lit (.bool false)], args := [d1, d2, d3, d4] }
  | _ => none }
def EffectRenamedWrongFalsely : Prop := effectRenamedRow.holds Try.pinned (OpenSpec.ofChange effectRenamedWrong)

/-- 'spillframelaw03.ExtentSlots': WHATEVER THE INPUT: true; the input reads as it did. -/
def extentSlotsSpec : ChangeSpec := { name := "extentSlots", fn := fun _ => fun
  | [d1, d2] => { results := [.lit (.bool true)], args := [d1, d2] }
  | _ => none }
def extentSlotsRow : OpenClaim := { program := "ytgbmhimllafljaa", sum := "ae4beaa236b29124cd933e4668b0d8e9c2d3e50eaee00f0c02938de5d637be15", func := "spillframe/spillframelaw03.ExtentSlots", spec := "extentSlots", unfollowed := true, recurses := true, apart := false }
def ExtentSlotsSaid : Prop := extentSlotsRow.holds Try.pinned (OpenSpec.ofChange extentSlotsSpec)

/-- ITS FALSE NEIGHBOUR: 'it returns false'. Refute it at one input. -/
def extentSlotsWrong : ChangeSpec := { name := "extentSlots", fn := fun _ => fun
  | [d1, d2] => { results := [.lit (.bool false)], args := [d1, d2] }
  | _ => none }
def ExtentSlotsWrongFalsely : Prop := extentSlotsRow.holds Try.pinned (OpenSpec.ofChange extentSlotsWrong)

/- THE SECOND FORM. 'bulk': how many values and letters a reading holds, each counted each time it is reached (what is shared counts as often as it is met; a slice's spare places count too). A statement '..UptoSaid' is the law's where the arguments, and the package variables that the reading takes, are together of bulk at most 1048576: NARROWER than '..Said'. Prove '..Said' where nothing that the law and all that it calls make is longer than what came in: it says more and counts as full. Else prove '..UptoSaid'. A law counts once. -/
mutual
def uptoBulk {H : Type} : DataW H → Nat
  | .lit (.string bytes) => bytes.length + 1
  | .lit _ => 1
  | .nil => 1
  | .ptr d => uptoBulk d + 1
  | .slice elems spare => uptoBulkAll elems + uptoBulkAll spare + 1
  | .agg parts => uptoBulkAll parts + 1
  | .iface _ d => uptoBulk d + 1
  | .map entries => uptoBulkEntries entries + 1
  | .held _ => 1
def uptoBulkAll {H : Type} : List (DataW H) → Nat
  | [] => 0
  | d :: r => uptoBulk d + uptoBulkAll r
def uptoBulkEntries {H : Type} : List (Lit × DataW H) → Nat
  | [] => 0
  | x :: r => uptoBulkEntry x + uptoBulkEntries r
def uptoBulkEntry {H : Type} : Lit × DataW H → Nat
  | (.string bytes, d) => bytes.length + uptoBulk d + 1
  | (_, d) => uptoBulk d + 1
 end
def uptoSmall : (H : Type) → List (DataW H) → Bool := fun _ ds => decide (uptoBulkAll ds ≤ 1048576)
def OpenSpec.upto (s : _root_.Go.ChangeSpec) : _root_.Go.OpenSpec := { _root_.Go.OpenSpec.ofChange s with cond := some uptoSmall }

/-- 'spillframelaw24.PackArgsFitAllCalls', WHERE WHAT IT READS IS OF BULK AT MOST 1048576: true; the input reads as it did. -/
def packArgsFitAllCallsUptoRow : OpenClaim := { program := "ytgbmhimllafljaa", sum := "ae4beaa236b29124cd933e4668b0d8e9c2d3e50eaee00f0c02938de5d637be15", func := "spillframe/spillframelaw24.PackArgsFitAllCalls", spec := "packArgsFitAllCalls", apart := false, narrowed := true }
def PackArgsFitAllCallsUptoSaid : Prop := packArgsFitAllCallsUptoRow.holds Try.pinned (OpenSpec.upto packArgsFitAllCallsSpec)

/-- 'spillframelaw03.ExtentUpIsLeast', WHERE WHAT IT READS IS OF BULK AT MOST 1048576: true; the input reads as it did. -/
def extentUpIsLeastUptoRow : OpenClaim := { program := "ytgbmhimllafljaa", sum := "ae4beaa236b29124cd933e4668b0d8e9c2d3e50eaee00f0c02938de5d637be15", func := "spillframe/spillframelaw03.ExtentUpIsLeast", spec := "extentUpIsLeast", apart := false, narrowed := true }
def ExtentUpIsLeastUptoSaid : Prop := extentUpIsLeastUptoRow.holds Try.pinned (OpenSpec.upto extentUpIsLeastSpec)

/-- 'spillframelaw15.EffectUses', WHERE WHAT IT READS IS OF BULK AT MOST 1048576: true; the input reads as it did. -/
def effectUsesUptoRow : OpenClaim := { program := "ytgbmhimllafljaa", sum := "ae4beaa236b29124cd933e4668b0d8e9c2d3e50eaee00f0c02938de5d637be15", func := "spillframe/spillframelaw15.EffectUses", spec := "effectUses", apart := false, narrowed := true }
def EffectUsesUptoSaid : Prop := effectUsesUptoRow.holds Try.pinned (OpenSpec.upto effectUsesSpec)

/-- 'spillframelaw03.ExtentArithmetic', WHERE WHAT IT READS IS OF BULK AT MOST 1048576: true; the input reads as it did. -/
def extentArithmeticUptoRow : OpenClaim := { program := "ytgbmhimllafljaa", sum := "ae4beaa236b29124cd933e4668b0d8e9c2d3e50eaee00f0c02938de5d637be15", func := "spillframe/spillframelaw03.ExtentArithmetic", spec := "extentArithmetic", apart := false, narrowed := true }
def ExtentArithmeticUptoSaid : Prop := extentArithmeticUptoRow.holds Try.pinned (OpenSpec.upto extentArithmeticSpec)

/-- 'spillframelaw03.ExtentIntervals', WHERE WHAT IT READS IS OF BULK AT MOST 1048576: true; the input reads as it did. -/
def extentIntervalsUptoRow : OpenClaim := { program := "ytgbmhimllafljaa", sum := "ae4beaa236b29124cd933e4668b0d8e9c2d3e50eaee00f0c02938de5d637be15", func := "spillframe/spillframelaw03.ExtentIntervals", spec := "extentIntervals", apart := false, narrowed := true }
def ExtentIntervalsUptoSaid : Prop := extentIntervalsUptoRow.holds Try.pinned (OpenSpec.upto extentIntervalsSpec)

/-- 'spillframelaw15.EffectRenamed', WHERE WHAT IT READS IS OF BULK AT MOST 1048576: true; the input reads as it did. -/
def effectRenamedUptoRow : OpenClaim := { program := "ytgbmhimllafljaa", sum := "ae4beaa236b29124cd933e4668b0d8e9c2d3e50eaee00f0c02938de5d637be15", func := "spillframe/spillframelaw15.EffectRenamed", spec := "effectRenamed", unfollowed := true, recurses := true, apart := false, narrowed := true }
def EffectRenamedUptoSaid : Prop := effectRenamedUptoRow.holds Try.pinned (OpenSpec.upto effectRenamedSpec)

/-- 'spillframelaw03.ExtentSlots', WHERE WHAT IT READS IS OF BULK AT MOST 1048576: true; the input reads as it did. -/
def extentSlotsUptoRow : OpenClaim := { program := "ytgbmhimllafljaa", sum := "ae4beaa236b29124cd933e4668b0d8e9c2d3e50eaee00f0c02938de5d637be15", func := "spillframe/spillframelaw03.ExtentSlots", spec := "extentSlots", unfollowed := true, recurses := true, apart := false, narrowed := true }
def ExtentSlotsUptoSaid : Prop := extentSlotsUptoRow.holds Try.pinned (OpenSpec.upto extentSlotsSpec)

end Rows
end Go.Proofs.Ytgbmhimllafljaa
