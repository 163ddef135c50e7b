/-
  No cell of these rows narrows 'for every input' (looked for: loops, veiled, ifaces, maps, wideKeys, modest, calm, conditions, laid).
  DERIVED. THE GIVEN ROWS OF THIS SEAT. 7 by the template 'for every input the law returns true; each argument reads behind the call as it read before'; 0 by the template 'total and deterministic' (their statements: YtcmiokobfkaldaaTotals.lean).
  GIVEN WITH THE SEED: the statements are not yours to turn. If you find one false, say at which input.
  Laid BY PROGRAM, IN A SANDBOX (cutbox-rows.mjs): the forced cells as the released guide's own fill.sh prints them over the translation 54c9c8951089f719… (all of the seat's roots in one cut). By AI agents, Wed Nov 11 2026. No macro, syntax, notation, axiom, sorry.
-/
import Derived.Test.YtcmiokobfkaldaaChecked
import GoSem.Claim
import GoSem.ClaimJoined
import GoSem.ClaimMapViews
import Derived.JoinedTies
import Derived.KernelRfl
namespace Go.Proofs.Ytcmiokobfkaldaa
/- THE CELL 'sum', in the pinned program and in every row, IS THE sha256 OF THE DUMP (.gsa) THAT YtcmiokobfkaldaaProg.lean LOADS. Nothing in Lean hashes anything: it is a label: what it is worth is what the hold of that sum in a sandbox is worth. -/
noncomputable def Try.pinned : Pinned := { name := "ytcmiokobfkaldaa", sum := "54c9c8951089f71968beec353ca6ebfe1e5f86426d030fb4199bedf90aa3efb4", checked := Try.checked }
namespace Rows
def none {H : Type} : Left H := { results := [], args := [] }

/-- 'spillframelaw03.ExtentFit': WHATEVER THE INPUT: true; the input reads as it did. -/
def extentFitSpec : ChangeSpec := { name := "extentFit", fn := fun _ => fun
  | [d1, d2, d3, d4, d5] => { results := [.lit (.bool true)], args := [d1, d2, d3, d4, d5] }
  | _ => none }
def extentFitRow : OpenClaim := { program := "ytcmiokobfkaldaa", sum := "54c9c8951089f71968beec353ca6ebfe1e5f86426d030fb4199bedf90aa3efb4", func := "spillframe/spillframelaw03.ExtentFit", spec := "extentFit", unfollowed := true, recurses := true, apart := false }
def ExtentFitSaid : Prop := extentFitRow.holds Try.pinned (OpenSpec.ofChange extentFitSpec)

/-- ITS FALSE NEIGHBOUR: 'it returns false'. Refute it at one input. -/
def extentFitWrong : ChangeSpec := { name := "extentFit", fn := fun _ => fun
  | [d1, d2, d3, d4, d5] => { results := [.lit (.bool false)], args := [d1, d2, d3, d4, d5] }
  | _ => none }
def ExtentFitWrongFalsely : Prop := extentFitRow.holds Try.pinned (OpenSpec.ofChange extentFitWrong)

/-- 'spillframelaw03.ExtentFitIsLeast': WHATEVER THE INPUT: true; the input reads as it did. -/
def extentFitIsLeastSpec : ChangeSpec := { name := "extentFitIsLeast", fn := fun _ => fun
  | [d] => { results := [.lit (.bool true)], args := [d] }
  | _ => none }
def extentFitIsLeastRow : OpenClaim := { program := "ytcmiokobfkaldaa", sum := "54c9c8951089f71968beec353ca6ebfe1e5f86426d030fb4199bedf90aa3efb4", func := "spillframe/spillframelaw03.ExtentFitIsLeast", spec := "extentFitIsLeast", unfollowed := true, recurses := true, apart := false }
def ExtentFitIsLeastSaid : Prop := extentFitIsLeastRow.holds Try.pinned (OpenSpec.ofChange extentFitIsLeastSpec)

/-- ITS FALSE NEIGHBOUR: 'it returns false'. Refute it at one input. -/
def extentFitIsLeastWrong : ChangeSpec := { name := "extentFitIsLeast", fn := fun _ => fun
  | [d] => { results := [.lit (.bool false)], args := [d] }
  | _ => none }
def ExtentFitIsLeastWrongFalsely : Prop := extentFitIsLeastRow.holds Try.pinned (OpenSpec.ofChange extentFitIsLeastWrong)

/-- 'spillframelaw23.ColourAssign': WHATEVER THE INPUT: true; the input reads as it did. -/
def colourAssignSpec : ChangeSpec := { name := "colourAssign", fn := fun _ => fun
  | [d1, d2, d3] => { results := [.lit (.bool true)], args := [d1, d2, d3] }
  | _ => none }
def colourAssignRow : OpenClaim := { program := "ytcmiokobfkaldaa", sum := "54c9c8951089f71968beec353ca6ebfe1e5f86426d030fb4199bedf90aa3efb4", func := "spillframe/spillframelaw23.ColourAssign", spec := "colourAssign", unfollowed := true, recurses := true, apart := false }
def ColourAssignSaid : Prop := colourAssignRow.holds Try.pinned (OpenSpec.ofChange colourAssignSpec)

/-- ITS FALSE NEIGHBOUR: 'it returns false'. Refute it at one input. -/
def colourAssignWrong : ChangeSpec := { name := "colourAssign", fn := fun _ => fun
  | [d1, d2, d3] => { results := [.lit (.bool false)], args := [d1, d2, d3] }
  | _ => none }
def ColourAssignWrongFalsely : Prop := colourAssignRow.holds Try.pinned (OpenSpec.ofChange colourAssignWrong)

/-- 'spillframelaw23.ColourOrder': WHATEVER THE INPUT: true; the input reads as it did. -/
def colourOrderSpec : ChangeSpec := { name := "colourOrder", fn := fun _ => fun
  | [d1, d2] => { results := [.lit (.bool true)], args := [d1, d2] }
  | _ => none }
def colourOrderRow : OpenClaim := { program := "ytcmiokobfkaldaa", sum := "54c9c8951089f71968beec353ca6ebfe1e5f86426d030fb4199bedf90aa3efb4", func := "spillframe/spillframelaw23.ColourOrder", spec := "colourOrder", unfollowed := true, recurses := true, apart := false }
def ColourOrderSaid : Prop := colourOrderRow.holds Try.pinned (OpenSpec.ofChange colourOrderSpec)

/-- ITS FALSE NEIGHBOUR: 'it returns false'. Refute it at one input. -/
def colourOrderWrong : ChangeSpec := { name := "colourOrder", fn := fun _ => fun
  | [d1, d2] => { results := [.lit (.bool false)], args := [d1, d2] }
  | _ => none }
def ColourOrderWrongFalsely : Prop := colourOrderRow.holds Try.pinned (OpenSpec.ofChange colourOrderWrong)

/-- 'spillframelaw23.ColourWithoutInterference': WHATEVER THE INPUT: true; the input reads as it did. -/
def colourWithoutInterferenceSpec : ChangeSpec := { name := "colourWithoutInterference", fn := fun _ => fun
  | [d1, d2] => { results := [.lit (.bool true)], args := [d1, d2] }
  | _ => none }
def colourWithoutInterferenceRow : OpenClaim := { program := "ytcmiokobfkaldaa", sum := "54c9c8951089f71968beec353ca6ebfe1e5f86426d030fb4199bedf90aa3efb4", func := "spillframe/spillframelaw23.ColourWithoutInterference", spec := "colourWithoutInterference", unfollowed := true, recurses := true, apart := false }
def ColourWithoutInterferenceSaid : Prop := colourWithoutInterferenceRow.holds Try.pinned (OpenSpec.ofChange colourWithoutInterferenceSpec)

/-- ITS FALSE NEIGHBOUR: 'it returns false'. Refute it at one input. -/
def colourWithoutInterferenceWrong : ChangeSpec := { name := "colourWithoutInterference", fn := fun _ => fun
  | [d1, d2] => { results := [.lit (.bool false)], args := [d1, d2] }
  | _ => none }
def ColourWithoutInterferenceWrongFalsely : Prop := colourWithoutInterferenceRow.holds Try.pinned (OpenSpec.ofChange colourWithoutInterferenceWrong)

/-- 'spillframelaw23.ColourValid': WHATEVER THE INPUT: true; the input reads as it did. -/
def colourValidSpec : ChangeSpec := { name := "colourValid", fn := fun _ => fun
  | [d1, d2, d3, d4] => { results := [.lit (.bool true)], args := [d1, d2, d3, d4] }
  | _ => none }
def colourValidRow : OpenClaim := { program := "ytcmiokobfkaldaa", sum := "54c9c8951089f71968beec353ca6ebfe1e5f86426d030fb4199bedf90aa3efb4", func := "spillframe/spillframelaw23.ColourValid", spec := "colourValid", unfollowed := true, recurses := true, apart := false }
def ColourValidSaid : Prop := colourValidRow.holds Try.pinned (OpenSpec.ofChange colourValidSpec)

/-- ITS FALSE NEIGHBOUR: 'it returns false'. Refute it at one input. -/
def colourValidWrong : ChangeSpec := { name := "colourValid", fn := fun _ => fun
  | [d1, d2, d3, d4] => { results := [.lit (.bool false)], args := [d1, d2, d3, d4] }
  | _ => none }
def ColourValidWrongFalsely : Prop := colourValidRow.holds Try.pinned (OpenSpec.ofChange colourValidWrong)

/-- 'spillframelaw23.ColourAssignIsValid': WHATEVER THE INPUT: true; the input reads as it did. -/
def colourAssignIsValidSpec : ChangeSpec := { name := "colourAssignIsValid", fn := fun _ => fun
  | [d1, d2] => { results := [.lit (.bool true)], args := [d1, d2] }
  | _ => none }
def colourAssignIsValidRow : OpenClaim := { program := "ytcmiokobfkaldaa", sum := "54c9c8951089f71968beec353ca6ebfe1e5f86426d030fb4199bedf90aa3efb4", func := "spillframe/spillframelaw23.ColourAssignIsValid", spec := "colourAssignIsValid", unfollowed := true, recurses := true, apart := false }
def ColourAssignIsValidSaid : Prop := colourAssignIsValidRow.holds Try.pinned (OpenSpec.ofChange colourAssignIsValidSpec)

/-- ITS FALSE NEIGHBOUR: 'it returns false'. Refute it at one input. -/
def colourAssignIsValidWrong : ChangeSpec := { name := "colourAssignIsValid", fn := fun _ => fun
  | [d1, d2] => { results := [.lit (.bool false)], args := [d1, d2] }
  | _ => none }
def ColourAssignIsValidWrongFalsely : Prop := colourAssignIsValidRow.holds Try.pinned (OpenSpec.ofChange colourAssignIsValidWrong)

/- THE SECOND FORM. 'bulk': how many values and letters a reading holds, each counted each time it is reached (what is shared counts as often as it is met; a slice's spare places count too). A statement '..UptoSaid' is the law's where the arguments, and the package variables that the reading takes, are together of bulk at most 1048576: NARROWER than '..Said'. Prove '..Said' where nothing that the law and all that it calls make is longer than what came in: it says more and counts as full. Else prove '..UptoSaid'. A law counts once. -/
mutual
def uptoBulk {H : Type} : DataW H → Nat
  | .lit (.string bytes) => bytes.length + 1
  | .lit _ => 1
  | .nil => 1
  | .ptr d => uptoBulk d + 1
  | .slice elems spare => uptoBulkAll elems + uptoBulkAll spare + 1
  | .agg parts => uptoBulkAll parts + 1
  | .iface _ d => uptoBulk d + 1
  | .map entries => uptoBulkEntries entries + 1
  | .held _ => 1
def uptoBulkAll {H : Type} : List (DataW H) → Nat
  | [] => 0
  | d :: r => uptoBulk d + uptoBulkAll r
def uptoBulkEntries {H : Type} : List (Lit × DataW H) → Nat
  | [] => 0
  | x :: r => uptoBulkEntry x + uptoBulkEntries r
def uptoBulkEntry {H : Type} : Lit × DataW H → Nat
  | (.string bytes, d) => bytes.length + uptoBulk d + 1
  | (_, d) => uptoBulk d + 1
 end
def uptoSmall : (H : Type) → List (DataW H) → Bool := fun _ ds => decide (uptoBulkAll ds ≤ 1048576)
def OpenSpec.upto (s : _root_.Go.ChangeSpec) : _root_.Go.OpenSpec := { _root_.Go.OpenSpec.ofChange s with cond := some uptoSmall }

/-- 'spillframelaw03.ExtentFit', WHERE WHAT IT READS IS OF BULK AT MOST 1048576: true; the input reads as it did. -/
def extentFitUptoRow : OpenClaim := { program := "ytcmiokobfkaldaa", sum := "54c9c8951089f71968beec353ca6ebfe1e5f86426d030fb4199bedf90aa3efb4", func := "spillframe/spillframelaw03.ExtentFit", spec := "extentFit", unfollowed := true, recurses := true, apart := false, narrowed := true }
def ExtentFitUptoSaid : Prop := extentFitUptoRow.holds Try.pinned (OpenSpec.upto extentFitSpec)

/-- 'spillframelaw03.ExtentFitIsLeast', WHERE WHAT IT READS IS OF BULK AT MOST 1048576: true; the input reads as it did. -/
def extentFitIsLeastUptoRow : OpenClaim := { program := "ytcmiokobfkaldaa", sum := "54c9c8951089f71968beec353ca6ebfe1e5f86426d030fb4199bedf90aa3efb4", func := "spillframe/spillframelaw03.ExtentFitIsLeast", spec := "extentFitIsLeast", unfollowed := true, recurses := true, apart := false, narrowed := true }
def ExtentFitIsLeastUptoSaid : Prop := extentFitIsLeastUptoRow.holds Try.pinned (OpenSpec.upto extentFitIsLeastSpec)

/-- 'spillframelaw23.ColourAssign', WHERE WHAT IT READS IS OF BULK AT MOST 1048576: true; the input reads as it did. -/
def colourAssignUptoRow : OpenClaim := { program := "ytcmiokobfkaldaa", sum := "54c9c8951089f71968beec353ca6ebfe1e5f86426d030fb4199bedf90aa3efb4", func := "spillframe/spillframelaw23.ColourAssign", spec := "colourAssign", unfollowed := true, recurses := true, apart := false, narrowed := true }
def ColourAssignUptoSaid : Prop := colourAssignUptoRow.holds Try.pinned (OpenSpec.upto colourAssignSpec)

/-- 'spillframelaw23.ColourOrder', WHERE WHAT IT READS IS OF BULK AT MOST 1048576: true; the input reads as it did. -/
def colourOrderUptoRow : OpenClaim := { program := "ytcmiokobfkaldaa", sum := "54c9c8951089f71968beec353ca6ebfe1e5f86426d030fb4199bedf90aa3efb4", func := "spillframe/spillframelaw23.ColourOrder", spec := "colourOrder", unfollowed := true, recurses := true, apart := false, narrowed := true }
def ColourOrderUptoSaid : Prop := colourOrderUptoRow.holds Try.pinned (OpenSpec.upto colourOrderSpec)

/-- 'spillframelaw23.ColourWithoutInterference', WHERE WHAT IT READS IS OF BULK AT MOST 1048576: true; the input reads as it did. -/
def colourWithoutInterferenceUptoRow : OpenClaim := { program := "ytcmiokobfkaldaa", sum := "54c9c8951089f71968beec353ca6ebfe1e5f86426d030fb4199bedf90aa3efb4", func := "spillframe/spillframelaw23.ColourWithoutInterference", spec := "colourWithoutInterference", unfollowed := true, recurses := true, apart := false, narrowed := true }
def ColourWithoutInterferenceUptoSaid : Prop := colourWithoutInterferenceUptoRow.holds Try.pinned (OpenSpec.upto colourWithoutInterferenceSpec)

/-- 'spillframelaw23.ColourValid', WHERE WHAT IT READS IS OF BULK AT MOST 1048576: true; the input reads as it did. -/
def colourValidUptoRow : OpenClaim := { program := "ytcmiokobfkaldaa", sum := "54c9c8951089f71968beec353ca6ebfe1e5f86426d030fb4199bedf90aa3efb4", func := "spillframe/spillframelaw23.ColourValid", spec := "colourValid", unfollowed := true, recurses := true, apart := false, narrowed := true }
def ColourValidUptoSaid : Prop := colourValidUptoRow.holds Try.pinned (OpenSpec.upto colourValidSpec)

/-- 'spillframelaw23.ColourAssignIsValid', WHERE WHAT IT READS IS OF BULK AT MOST 1048576: true; the input reads as it did. -/
def colourAssignIsValidUptoRow : OpenClaim := { program := "ytcmiokobfkaldaa", sum := "54c9c8951089f71968beec353ca6ebfe1e5f86426d030fb4199bedf90aa3efb4", func := "spillframe/spillframelaw23.ColourAssignIsValid", spec := "colourAssignIsValid", unfollowed := true, recurses := true, apart := false, narrowed := true }
def ColourAssignIsValidUptoSaid : Prop := colourAssignIsValidUptoRow.holds Try.pinned (OpenSpec.upto colourAssignIsValidSpec)

end Rows
end Go.Proofs.Ytcmiokobfkaldaa
