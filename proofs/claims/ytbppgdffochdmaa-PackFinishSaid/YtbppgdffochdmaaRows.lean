/-
  No cell of these rows narrows 'for every input' (looked for: loops, veiled, ifaces, maps, wideKeys, modest, calm, conditions, laid).
  DERIVED. THE GIVEN ROWS OF THIS SEAT. 12 by the template 'for every input the law returns true; each argument reads behind the call as it read before'; 0 by the template 'total and deterministic' (their statements: YtbppgdffochdmaaTotals.lean).
  GIVEN WITH THE SEED: the statements are not yours to turn. If you find one false, say at which input.
  Laid BY PROGRAM, IN A SANDBOX (cutbox-rows.mjs): the forced cells as the released guide's own fill.sh prints them over the translation d2d8212f028ab86a… (all of the seat's roots in one cut). By AI agents, Wed Nov 11 2026. No macro, syntax, notation, axiom, sorry.
-/
import Derived.Test.YtbppgdffochdmaaChecked
import GoSem.Claim
import GoSem.ClaimJoined
import GoSem.ClaimMapViews
import Derived.JoinedTies
import Derived.KernelRfl
namespace Go.Proofs.Ytbppgdffochdmaa
/- THE CELL 'sum', in the pinned program and in every row, IS THE sha256 OF THE DUMP (.gsa) THAT YtbppgdffochdmaaProg.lean LOADS. Nothing in Lean hashes anything: it is a label: what it is worth is what the hold of that sum in a sandbox is worth. -/
noncomputable def Try.pinned : Pinned := { name := "ytbppgdffochdmaa", sum := "d2d8212f028ab86a0bfffde4a0250e4ef4feccaa1ebeaf6b9042b9abc0be00cf", checked := Try.checked }
namespace Rows
def none {H : Type} : Left H := { results := [], args := [] }

/-- 'spillframelaw19.CoalesceValid': WHATEVER THE INPUT: true; the input reads as it did. -/
def coalesceValidSpec : ChangeSpec := { name := "coalesceValid", fn := fun _ => fun
  | [d1, d2, d3] => { results := [.lit (.bool true)], args := [d1, d2, d3] }
  | _ => none }
def coalesceValidRow : OpenClaim := { program := "ytbppgdffochdmaa", sum := "d2d8212f028ab86a0bfffde4a0250e4ef4feccaa1ebeaf6b9042b9abc0be00cf", func := "spillframe/spillframelaw19.CoalesceValid", spec := "coalesceValid", apart := false }
def CoalesceValidSaid : Prop := coalesceValidRow.holds Try.pinned (OpenSpec.ofChange coalesceValidSpec)

/-- ITS FALSE NEIGHBOUR: 'it returns false'. Refute it at one input. -/
def coalesceValidWrong : ChangeSpec := { name := "coalesceValid", fn := fun _ => fun
  | [d1, d2, d3] => { results := [.lit (.bool false)], args := [d1, d2, d3] }
  | _ => none }
def CoalesceValidWrongFalsely : Prop := coalesceValidRow.holds Try.pinned (OpenSpec.ofChange coalesceValidWrong)

/-- 'spillframelaw24.PackBaseline': WHATEVER THE INPUT: true; the input reads as it did. -/
def packBaselineSpec : ChangeSpec := { name := "packBaseline", fn := fun _ => fun
  | [d] => { results := [.lit (.bool true)], args := [d] }
  | _ => none }
def packBaselineRow : OpenClaim := { program := "ytbppgdffochdmaa", sum := "d2d8212f028ab86a0bfffde4a0250e4ef4feccaa1ebeaf6b9042b9abc0be00cf", func := "spillframe/spillframelaw24.PackBaseline", spec := "packBaseline", apart := false }
def PackBaselineSaid : Prop := packBaselineRow.holds Try.pinned (OpenSpec.ofChange packBaselineSpec)

/-- ITS FALSE NEIGHBOUR: 'it returns false'. Refute it at one input. -/
def packBaselineWrong : ChangeSpec := { name := "packBaseline", fn := fun _ => fun
  | [d] => { results := [.lit (.bool false)], args := [d] }
  | _ => none }
def PackBaselineWrongFalsely : Prop := packBaselineRow.holds Try.pinned (OpenSpec.ofChange packBaselineWrong)

/-- 'spillframelaw24.PackCountsPadding': WHATEVER THE INPUT: true; the input reads as it did. -/
def packCountsPaddingSpec : ChangeSpec := { name := "packCountsPadding", fn := fun _ => fun
  | [d] => { results := [.lit (.bool true)], args := [d] }
  | _ => none }
def packCountsPaddingRow : OpenClaim := { program := "ytbppgdffochdmaa", sum := "d2d8212f028ab86a0bfffde4a0250e4ef4feccaa1ebeaf6b9042b9abc0be00cf", func := "spillframe/spillframelaw24.PackCountsPadding", spec := "packCountsPadding", apart := false }
def PackCountsPaddingSaid : Prop := packCountsPaddingRow.holds Try.pinned (OpenSpec.ofChange packCountsPaddingSpec)

/-- ITS FALSE NEIGHBOUR: 'it returns false'. Refute it at one input. -/
def packCountsPaddingWrong : ChangeSpec := { name := "packCountsPadding", fn := fun _ => fun
  | [d] => { results := [.lit (.bool false)], args := [d] }
  | _ => none }
def PackCountsPaddingWrongFalsely : Prop := packCountsPaddingRow.holds Try.pinned (OpenSpec.ofChange packCountsPaddingWrong)

/-- 'spillframelaw24.PackBaselineIsDisjoint': WHATEVER THE INPUT: true; the input reads as it did. -/
def packBaselineIsDisjointSpec : ChangeSpec := { name := "packBaselineIsDisjoint", fn := fun _ => fun
  | [d] => { results := [.lit (.bool true)], args := [d] }
  | _ => none }
def packBaselineIsDisjointRow : OpenClaim := { program := "ytbppgdffochdmaa", sum := "d2d8212f028ab86a0bfffde4a0250e4ef4feccaa1ebeaf6b9042b9abc0be00cf", func := "spillframe/spillframelaw24.PackBaselineIsDisjoint", spec := "packBaselineIsDisjoint", apart := false }
def PackBaselineIsDisjointSaid : Prop := packBaselineIsDisjointRow.holds Try.pinned (OpenSpec.ofChange packBaselineIsDisjointSpec)

/-- ITS FALSE NEIGHBOUR: 'it returns false'. Refute it at one input. -/
def packBaselineIsDisjointWrong : ChangeSpec := { name := "packBaselineIsDisjoint", fn := fun _ => fun
  | [d] => { results := [.lit (.bool false)], args := [d] }
  | _ => none }
def PackBaselineIsDisjointWrongFalsely : Prop := packBaselineIsDisjointRow.holds Try.pinned (OpenSpec.ofChange packBaselineIsDisjointWrong)

/-- 'spillframelaw24.PackOverflows': WHATEVER THE INPUT: true; the input reads as it did. -/
def packOverflowsSpec : ChangeSpec := { name := "packOverflows", fn := fun _ => fun
  | [d] => { results := [.lit (.bool true)], args := [d] }
  | _ => none }
def packOverflowsRow : OpenClaim := { program := "ytbppgdffochdmaa", sum := "d2d8212f028ab86a0bfffde4a0250e4ef4feccaa1ebeaf6b9042b9abc0be00cf", func := "spillframe/spillframelaw24.PackOverflows", spec := "packOverflows", apart := false }
def PackOverflowsSaid : Prop := packOverflowsRow.holds Try.pinned (OpenSpec.ofChange packOverflowsSpec)

/-- ITS FALSE NEIGHBOUR: 'it returns false'. Refute it at one input. -/
def packOverflowsWrong : ChangeSpec := { name := "packOverflows", fn := fun _ => fun
  | [d] => { results := [.lit (.bool false)], args := [d] }
  | _ => none }
def PackOverflowsWrongFalsely : Prop := packOverflowsRow.holds Try.pinned (OpenSpec.ofChange packOverflowsWrong)

/-- 'spillframelaw19.CoalesceClasses': WHATEVER THE INPUT: true; the input reads as it did. -/
def coalesceClassesSpec : ChangeSpec := { name := "coalesceClasses", fn := fun _ => fun
  | [d] => { results := [.lit (.bool true)], args := [d] }
  | _ => none }
def coalesceClassesRow : OpenClaim := { program := "ytbppgdffochdmaa", sum := "d2d8212f028ab86a0bfffde4a0250e4ef4feccaa1ebeaf6b9042b9abc0be00cf", func := "spillframe/spillframelaw19.CoalesceClasses", spec := "coalesceClasses", unfollowed := true, recurses := true, apart := false }
def CoalesceClassesSaid : Prop := coalesceClassesRow.holds Try.pinned (OpenSpec.ofChange coalesceClassesSpec)

/-- ITS FALSE NEIGHBOUR: 'it returns false'. Refute it at one input. -/
def coalesceClassesWrong : ChangeSpec := { name := "coalesceClasses", fn := fun _ => fun
  | [d] => { results := [.lit (.bool false)], args := [d] }
  | _ => none }
def CoalesceClassesWrongFalsely : Prop := coalesceClassesRow.holds Try.pinned (OpenSpec.ofChange coalesceClassesWrong)

/-- 'spillframelaw19.CoalesceIsGreedy': WHATEVER THE INPUT: true; the input reads as it did. -/
def coalesceIsGreedySpec : ChangeSpec := { name := "coalesceIsGreedy", fn := fun _ => fun
  | [d] => { results := [.lit (.bool true)], args := [d] }
  | _ => none }
def coalesceIsGreedyRow : OpenClaim := { program := "ytbppgdffochdmaa", sum := "d2d8212f028ab86a0bfffde4a0250e4ef4feccaa1ebeaf6b9042b9abc0be00cf", func := "spillframe/spillframelaw19.CoalesceIsGreedy", spec := "coalesceIsGreedy", unfollowed := true, recurses := true, apart := false }
def CoalesceIsGreedySaid : Prop := coalesceIsGreedyRow.holds Try.pinned (OpenSpec.ofChange coalesceIsGreedySpec)

/-- ITS FALSE NEIGHBOUR: 'it returns false'. Refute it at one input. -/
def coalesceIsGreedyWrong : ChangeSpec := { name := "coalesceIsGreedy", fn := fun _ => fun
  | [d] => { results := [.lit (.bool false)], args := [d] }
  | _ => none }
def CoalesceIsGreedyWrongFalsely : Prop := coalesceIsGreedyRow.holds Try.pinned (OpenSpec.ofChange coalesceIsGreedyWrong)

/-- 'spillframelaw19.CoalesceJoinsOnlyMovedSlots': WHATEVER THE INPUT: true; the input reads as it did. -/
def coalesceJoinsOnlyMovedSlotsSpec : ChangeSpec := { name := "coalesceJoinsOnlyMovedSlots", fn := fun _ => fun
  | [d] => { results := [.lit (.bool true)], args := [d] }
  | _ => none }
def coalesceJoinsOnlyMovedSlotsRow : OpenClaim := { program := "ytbppgdffochdmaa", sum := "d2d8212f028ab86a0bfffde4a0250e4ef4feccaa1ebeaf6b9042b9abc0be00cf", func := "spillframe/spillframelaw19.CoalesceJoinsOnlyMovedSlots", spec := "coalesceJoinsOnlyMovedSlots", unfollowed := true, recurses := true, apart := false }
def CoalesceJoinsOnlyMovedSlotsSaid : Prop := coalesceJoinsOnlyMovedSlotsRow.holds Try.pinned (OpenSpec.ofChange coalesceJoinsOnlyMovedSlotsSpec)

/-- ITS FALSE NEIGHBOUR: 'it returns false'. Refute it at one input. -/
def coalesceJoinsOnlyMovedSlotsWrong : ChangeSpec := { name := "coalesceJoinsOnlyMovedSlots", fn := fun _ => fun
  | [d] => { results := [.lit (.bool false)], args := [d] }
  | _ => none }
def CoalesceJoinsOnlyMovedSlotsWrongFalsely : Prop := coalesceJoinsOnlyMovedSlotsRow.holds Try.pinned (OpenSpec.ofChange coalesceJoinsOnlyMovedSlotsWrong)

/-- 'spillframelaw24.PackFinish': WHATEVER THE INPUT: true; the input reads as it did. -/
def packFinishSpec : ChangeSpec := { name := "packFinish", fn := fun _ => fun
  | [d1, d2] => { results := [.lit (.bool true)], args := [d1, d2] }
  | _ => none }
def packFinishRow : OpenClaim := { program := "ytbppgdffochdmaa", sum := "d2d8212f028ab86a0bfffde4a0250e4ef4feccaa1ebeaf6b9042b9abc0be00cf", func := "spillframe/spillframelaw24.PackFinish", spec := "packFinish", apart := false }
def PackFinishSaid : Prop := packFinishRow.holds Try.pinned (OpenSpec.ofChange packFinishSpec)

/-- ITS FALSE NEIGHBOUR: 'it returns false'. Refute it at one input. -/
def packFinishWrong : ChangeSpec := { name := "packFinish", fn := fun _ => fun
  | [d1, d2] => { results := [.lit (.bool false)], args := [d1, d2] }
  | _ => none }
def PackFinishWrongFalsely : Prop := packFinishRow.holds Try.pinned (OpenSpec.ofChange packFinishWrong)

/-- 'spillframelaw19.CoalesceKeepsInterferingSlotsApart': WHATEVER THE INPUT: true; the input reads as it did. -/
def coalesceKeepsInterferingSlotsApartSpec : ChangeSpec := { name := "coalesceKeepsInterferingSlotsApart", fn := fun _ => fun
  | [d] => { results := [.lit (.bool true)], args := [d] }
  | _ => none }
def coalesceKeepsInterferingSlotsApartRow : OpenClaim := { program := "ytbppgdffochdmaa", sum := "d2d8212f028ab86a0bfffde4a0250e4ef4feccaa1ebeaf6b9042b9abc0be00cf", func := "spillframe/spillframelaw19.CoalesceKeepsInterferingSlotsApart", spec := "coalesceKeepsInterferingSlotsApart", unfollowed := true, recurses := true, apart := false }
def CoalesceKeepsInterferingSlotsApartSaid : Prop := coalesceKeepsInterferingSlotsApartRow.holds Try.pinned (OpenSpec.ofChange coalesceKeepsInterferingSlotsApartSpec)

/-- ITS FALSE NEIGHBOUR: 'it returns false'. Refute it at one input. -/
def coalesceKeepsInterferingSlotsApartWrong : ChangeSpec := { name := "coalesceKeepsInterferingSlotsApart", fn := fun _ => fun
  | [d] => { results := [.lit (.bool false)], args := [d] }
  | _ => none }
def CoalesceKeepsInterferingSlotsApartWrongFalsely : Prop := coalesceKeepsInterferingSlotsApartRow.holds Try.pinned (OpenSpec.ofChange coalesceKeepsInterferingSlotsApartWrong)

/-- 'spillframelaw03.ExtentFit': WHATEVER THE INPUT: true; the input reads as it did. -/
def extentFitSpec : ChangeSpec := { name := "extentFit", fn := fun _ => fun
  | [d1, d2, d3, d4, d5] => { results := [.lit (.bool true)], args := [d1, d2, d3, d4, d5] }
  | _ => none }
def extentFitRow : OpenClaim := { program := "ytbppgdffochdmaa", sum := "d2d8212f028ab86a0bfffde4a0250e4ef4feccaa1ebeaf6b9042b9abc0be00cf", func := "spillframe/spillframelaw03.ExtentFit", spec := "extentFit", unfollowed := true, recurses := true, apart := false }
def ExtentFitSaid : Prop := extentFitRow.holds Try.pinned (OpenSpec.ofChange extentFitSpec)

/-- ITS FALSE NEIGHBOUR: 'it returns false'. Refute it at one input. -/
def extentFitWrong : ChangeSpec := { name := "extentFit", fn := fun _ => fun
  | [d1, d2, d3, d4, d5] => { results := [.lit (.bool false)], args := [d1, d2, d3, d4, d5] }
  | _ => none }
def ExtentFitWrongFalsely : Prop := extentFitRow.holds Try.pinned (OpenSpec.ofChange extentFitWrong)

/-- 'spillframelaw03.ExtentFitIsLeast': WHATEVER THE INPUT: true; the input reads as it did. -/
def extentFitIsLeastSpec : ChangeSpec := { name := "extentFitIsLeast", fn := fun _ => fun
  | [d] => { results := [.lit (.bool true)], args := [d] }
  | _ => none }
def extentFitIsLeastRow : OpenClaim := { program := "ytbppgdffochdmaa", sum := "d2d8212f028ab86a0bfffde4a0250e4ef4feccaa1ebeaf6b9042b9abc0be00cf", func := "spillframe/spillframelaw03.ExtentFitIsLeast", spec := "extentFitIsLeast", unfollowed := true, recurses := true, apart := false }
def ExtentFitIsLeastSaid : Prop := extentFitIsLeastRow.holds Try.pinned (OpenSpec.ofChange extentFitIsLeastSpec)

/-- ITS FALSE NEIGHBOUR: 'it returns false'. Refute it at one input. -/
def extentFitIsLeastWrong : ChangeSpec := { name := "extentFitIsLeast", fn := fun _ => fun
  | [d] => { results := [.lit (.bool false)], args := [d] }
  | _ => none }
def ExtentFitIsLeastWrongFalsely : Prop := extentFitIsLeastRow.holds Try.pinned (OpenSpec.ofChange extentFitIsLeastWrong)

/- THE SECOND FORM. 'bulk': how many values and letters a reading holds, each counted each time it is reached (what is shared counts as often as it is met; a slice's spare places count too). A statement '..UptoSaid' is the law's where the arguments, and the package variables that the reading takes, are together of bulk at most 1048576: NARROWER than '..Said'. Prove '..Said' where nothing that the law and all that it calls make is longer than what came in: it says more and counts as full. Else prove '..UptoSaid'. A law counts once. -/
mutual
def uptoBulk {H : Type} : DataW H → Nat
  | .lit (.string bytes) => bytes.length + 1
  | .lit _ => 1
  | .nil => 1
  | .ptr d => uptoBulk d + 1
  | .slice elems spare => uptoBulkAll elems + uptoBulkAll spare + 1
  | .agg parts => uptoBulkAll parts + 1
  | .iface _ d => uptoBulk d + 1
  | .map entries => uptoBulkEntries entries + 1
  | .held _ => 1
def uptoBulkAll {H : Type} : List (DataW H) → Nat
  | [] => 0
  | d :: r => uptoBulk d + uptoBulkAll r
def uptoBulkEntries {H : Type} : List (Lit × DataW H) → Nat
  | [] => 0
  | x :: r => uptoBulkEntry x + uptoBulkEntries r
def uptoBulkEntry {H : Type} : Lit × DataW H → Nat
  | (.string bytes, d) => bytes.length + uptoBulk d + 1
  | (_, d) => uptoBulk d + 1
 end
def uptoSmall : (H : Type) → List (DataW H) → Bool := fun _ ds => decide (uptoBulkAll ds ≤ 1048576)
def OpenSpec.upto (s : _root_.Go.ChangeSpec) : _root_.Go.OpenSpec := { _root_.Go.OpenSpec.ofChange s with cond := some uptoSmall }

/-- 'spillframelaw19.CoalesceValid', WHERE WHAT IT READS IS OF BULK AT MOST 1048576: true; the input reads as it did. -/
def coalesceValidUptoRow : OpenClaim := { program := "ytbppgdffochdmaa", sum := "d2d8212f028ab86a0bfffde4a0250e4ef4feccaa1ebeaf6b9042b9abc0be00cf", func := "spillframe/spillframelaw19.CoalesceValid", spec := "coalesceValid", apart := false, narrowed := true }
def CoalesceValidUptoSaid : Prop := coalesceValidUptoRow.holds Try.pinned (OpenSpec.upto coalesceValidSpec)

/-- 'spillframelaw24.PackBaseline', WHERE WHAT IT READS IS OF BULK AT MOST 1048576: true; the input reads as it did. -/
def packBaselineUptoRow : OpenClaim := { program := "ytbppgdffochdmaa", sum := "d2d8212f028ab86a0bfffde4a0250e4ef4feccaa1ebeaf6b9042b9abc0be00cf", func := "spillframe/spillframelaw24.PackBaseline", spec := "packBaseline", apart := false, narrowed := true }
def PackBaselineUptoSaid : Prop := packBaselineUptoRow.holds Try.pinned (OpenSpec.upto packBaselineSpec)

/-- 'spillframelaw24.PackCountsPadding', WHERE WHAT IT READS IS OF BULK AT MOST 1048576: true; the input reads as it did. -/
def packCountsPaddingUptoRow : OpenClaim := { program := "ytbppgdffochdmaa", sum := "d2d8212f028ab86a0bfffde4a0250e4ef4feccaa1ebeaf6b9042b9abc0be00cf", func := "spillframe/spillframelaw24.PackCountsPadding", spec := "packCountsPadding", apart := false, narrowed := true }
def PackCountsPaddingUptoSaid : Prop := packCountsPaddingUptoRow.holds Try.pinned (OpenSpec.upto packCountsPaddingSpec)

/-- 'spillframelaw24.PackBaselineIsDisjoint', WHERE WHAT IT READS IS OF BULK AT MOST 1048576: true; the input reads as it did. -/
def packBaselineIsDisjointUptoRow : OpenClaim := { program := "ytbppgdffochdmaa", sum := "d2d8212f028ab86a0bfffde4a0250e4ef4feccaa1ebeaf6b9042b9abc0be00cf", func := "spillframe/spillframelaw24.PackBaselineIsDisjoint", spec := "packBaselineIsDisjoint", apart := false, narrowed := true }
def PackBaselineIsDisjointUptoSaid : Prop := packBaselineIsDisjointUptoRow.holds Try.pinned (OpenSpec.upto packBaselineIsDisjointSpec)

/-- 'spillframelaw24.PackOverflows', WHERE WHAT IT READS IS OF BULK AT MOST 1048576: true; the input reads as it did. -/
def packOverflowsUptoRow : OpenClaim := { program := "ytbppgdffochdmaa", sum := "d2d8212f028ab86a0bfffde4a0250e4ef4feccaa1ebeaf6b9042b9abc0be00cf", func := "spillframe/spillframelaw24.PackOverflows", spec := "packOverflows", apart := false, narrowed := true }
def PackOverflowsUptoSaid : Prop := packOverflowsUptoRow.holds Try.pinned (OpenSpec.upto packOverflowsSpec)

/-- 'spillframelaw19.CoalesceClasses', WHERE WHAT IT READS IS OF BULK AT MOST 1048576: true; the input reads as it did. -/
def coalesceClassesUptoRow : OpenClaim := { program := "ytbppgdffochdmaa", sum := "d2d8212f028ab86a0bfffde4a0250e4ef4feccaa1ebeaf6b9042b9abc0be00cf", func := "spillframe/spillframelaw19.CoalesceClasses", spec := "coalesceClasses", unfollowed := true, recurses := true, apart := false, narrowed := true }
def CoalesceClassesUptoSaid : Prop := coalesceClassesUptoRow.holds Try.pinned (OpenSpec.upto coalesceClassesSpec)

/-- 'spillframelaw19.CoalesceIsGreedy', WHERE WHAT IT READS IS OF BULK AT MOST 1048576: true; the input reads as it did. -/
def coalesceIsGreedyUptoRow : OpenClaim := { program := "ytbppgdffochdmaa", sum := "d2d8212f028ab86a0bfffde4a0250e4ef4feccaa1ebeaf6b9042b9abc0be00cf", func := "spillframe/spillframelaw19.CoalesceIsGreedy", spec := "coalesceIsGreedy", unfollowed := true, recurses := true, apart := false, narrowed := true }
def CoalesceIsGreedyUptoSaid : Prop := coalesceIsGreedyUptoRow.holds Try.pinned (OpenSpec.upto coalesceIsGreedySpec)

/-- 'spillframelaw19.CoalesceJoinsOnlyMovedSlots', WHERE WHAT IT READS IS OF BULK AT MOST 1048576: true; the input reads as it did. -/
def coalesceJoinsOnlyMovedSlotsUptoRow : OpenClaim := { program := "ytbppgdffochdmaa", sum := "d2d8212f028ab86a0bfffde4a0250e4ef4feccaa1ebeaf6b9042b9abc0be00cf", func := "spillframe/spillframelaw19.CoalesceJoinsOnlyMovedSlots", spec := "coalesceJoinsOnlyMovedSlots", unfollowed := true, recurses := true, apart := false, narrowed := true }
def CoalesceJoinsOnlyMovedSlotsUptoSaid : Prop := coalesceJoinsOnlyMovedSlotsUptoRow.holds Try.pinned (OpenSpec.upto coalesceJoinsOnlyMovedSlotsSpec)

/-- 'spillframelaw24.PackFinish', WHERE WHAT IT READS IS OF BULK AT MOST 1048576: true; the input reads as it did. -/
def packFinishUptoRow : OpenClaim := { program := "ytbppgdffochdmaa", sum := "d2d8212f028ab86a0bfffde4a0250e4ef4feccaa1ebeaf6b9042b9abc0be00cf", func := "spillframe/spillframelaw24.PackFinish", spec := "packFinish", apart := false, narrowed := true }
def PackFinishUptoSaid : Prop := packFinishUptoRow.holds Try.pinned (OpenSpec.upto packFinishSpec)

/-- 'spillframelaw19.CoalesceKeepsInterferingSlotsApart', WHERE WHAT IT READS IS OF BULK AT MOST 1048576: true; the input reads as it did. -/
def coalesceKeepsInterferingSlotsApartUptoRow : OpenClaim := { program := "ytbppgdffochdmaa", sum := "d2d8212f028ab86a0bfffde4a0250e4ef4feccaa1ebeaf6b9042b9abc0be00cf", func := "spillframe/spillframelaw19.CoalesceKeepsInterferingSlotsApart", spec := "coalesceKeepsInterferingSlotsApart", unfollowed := true, recurses := true, apart := false, narrowed := true }
def CoalesceKeepsInterferingSlotsApartUptoSaid : Prop := coalesceKeepsInterferingSlotsApartUptoRow.holds Try.pinned (OpenSpec.upto coalesceKeepsInterferingSlotsApartSpec)

/-- 'spillframelaw03.ExtentFit', WHERE WHAT IT READS IS OF BULK AT MOST 1048576: true; the input reads as it did. -/
def extentFitUptoRow : OpenClaim := { program := "ytbppgdffochdmaa", sum := "d2d8212f028ab86a0bfffde4a0250e4ef4feccaa1ebeaf6b9042b9abc0be00cf", func := "spillframe/spillframelaw03.ExtentFit", spec := "extentFit", unfollowed := true, recurses := true, apart := false, narrowed := true }
def ExtentFitUptoSaid : Prop := extentFitUptoRow.holds Try.pinned (OpenSpec.upto extentFitSpec)

/-- 'spillframelaw03.ExtentFitIsLeast', WHERE WHAT IT READS IS OF BULK AT MOST 1048576: true; the input reads as it did. -/
def extentFitIsLeastUptoRow : OpenClaim := { program := "ytbppgdffochdmaa", sum := "d2d8212f028ab86a0bfffde4a0250e4ef4feccaa1ebeaf6b9042b9abc0be00cf", func := "spillframe/spillframelaw03.ExtentFitIsLeast", spec := "extentFitIsLeast", unfollowed := true, recurses := true, apart := false, narrowed := true }
def ExtentFitIsLeastUptoSaid : Prop := extentFitIsLeastUptoRow.holds Try.pinned (OpenSpec.upto extentFitIsLeastSpec)

end Rows
end Go.Proofs.Ytbppgdffochdmaa
