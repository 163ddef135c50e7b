/-
  No cell of these rows narrows 'for every input' (looked for: loops, veiled, ifaces, maps, wideKeys, modest, calm, conditions, laid).
  DERIVED. THE GIVEN ROWS OF THIS SEAT. 4 by the template 'for every input the law returns true; each argument reads behind the call as it read before'; 0 by the template 'total and deterministic' (their statements: YtechhjednmnmpaaTotals.lean).
  GIVEN WITH THE SEED: the statements are not yours to turn. If you find one false, say at which input.
  Laid BY PROGRAM, IN A SANDBOX (cutbox-rows.mjs): the forced cells as the released guide's own fill.sh prints them over the translation 93e9fc42a6ad45df… (all of the seat's roots in one cut). By AI agents, Wed Nov 11 2026. No macro, syntax, notation, axiom, sorry.
-/
import Derived.Test.YtechhjednmnmpaaChecked
import GoSem.Claim
import GoSem.ClaimJoined
import GoSem.ClaimMapViews
import Derived.JoinedTies
import Derived.KernelRfl
namespace Go.Proofs.Ytechhjednmnmpaa
/- THE CELL 'sum', in the pinned program and in every row, IS THE sha256 OF THE DUMP (.gsa) THAT YtechhjednmnmpaaProg.lean LOADS. Nothing in Lean hashes anything: it is a label: what it is worth is what the hold of that sum in a sandbox is worth. -/
noncomputable def Try.pinned : Pinned := { name := "ytechhjednmnmpaa", sum := "93e9fc42a6ad45df0943fd2154dce7de5ed137a33f96fb9da562d67701ad5002", checked := Try.checked }
namespace Rows
def none {H : Type} : Left H := { results := [], args := [] }

/-- 'spillframelaw19.CoalesceClasses': WHATEVER THE INPUT: true; the input reads as it did. -/
def coalesceClassesSpec : ChangeSpec := { name := "coalesceClasses", fn := fun _ => fun
  | [d] => { results := [.lit (.bool true)], args := [d] }
  | _ => none }
def coalesceClassesRow : OpenClaim := { program := "ytechhjednmnmpaa", sum := "93e9fc42a6ad45df0943fd2154dce7de5ed137a33f96fb9da562d67701ad5002", func := "spillframe/spillframelaw19.CoalesceClasses", spec := "coalesceClasses", unfollowed := true, recurses := true, apart := false }
def CoalesceClassesSaid : Prop := coalesceClassesRow.holds Try.pinned (OpenSpec.ofChange coalesceClassesSpec)

/-- ITS FALSE NEIGHBOUR: 'it returns false'. Refute it at one input. -/
def coalesceClassesWrong : ChangeSpec := { name := "coalesceClasses", fn := fun _ => fun
  | [d] => { results := [.lit (.bool false)], args := [d] }
  | _ => none }
def CoalesceClassesWrongFalsely : Prop := coalesceClassesRow.holds Try.pinned (OpenSpec.ofChange coalesceClassesWrong)

/-- 'spillframelaw19.CoalesceIsGreedy': WHATEVER THE INPUT: true; the input reads as it did. -/
def coalesceIsGreedySpec : ChangeSpec := { name := "coalesceIsGreedy", fn := fun _ => fun
  | [d] => { results := [.lit (.bool true)], args := [d] }
  | _ => none }
def coalesceIsGreedyRow : OpenClaim := { program := "ytechhjednmnmpaa", sum := "93e9fc42a6ad45df0943fd2154dce7de5ed137a33f96fb9da562d67701ad5002", func := "spillframe/spillframelaw19.CoalesceIsGreedy", spec := "coalesceIsGreedy", unfollowed := true, recurses := true, apart := false }
def CoalesceIsGreedySaid : Prop := coalesceIsGreedyRow.holds Try.pinned (OpenSpec.ofChange coalesceIsGreedySpec)

/-- ITS FALSE NEIGHBOUR: 'it returns false'. Refute it at one input. -/
def coalesceIsGreedyWrong : ChangeSpec := { name := "coalesceIsGreedy", fn := fun _ => fun
  | [d] => { results := [.lit (.bool false)], args := [d] }
  | _ => none }
def CoalesceIsGreedyWrongFalsely : Prop := coalesceIsGreedyRow.holds Try.pinned (OpenSpec.ofChange coalesceIsGreedyWrong)

/-- 'spillframelaw19.CoalesceJoinsOnlyMovedSlots': WHATEVER THE INPUT: true; the input reads as it did. -/
def coalesceJoinsOnlyMovedSlotsSpec : ChangeSpec := { name := "coalesceJoinsOnlyMovedSlots", fn := fun _ => fun
  | [d] => { results := [.lit (.bool true)], args := [d] }
  | _ => none }
def coalesceJoinsOnlyMovedSlotsRow : OpenClaim := { program := "ytechhjednmnmpaa", sum := "93e9fc42a6ad45df0943fd2154dce7de5ed137a33f96fb9da562d67701ad5002", func := "spillframe/spillframelaw19.CoalesceJoinsOnlyMovedSlots", spec := "coalesceJoinsOnlyMovedSlots", unfollowed := true, recurses := true, apart := false }
def CoalesceJoinsOnlyMovedSlotsSaid : Prop := coalesceJoinsOnlyMovedSlotsRow.holds Try.pinned (OpenSpec.ofChange coalesceJoinsOnlyMovedSlotsSpec)

/-- ITS FALSE NEIGHBOUR: 'it returns false'. Refute it at one input. -/
def coalesceJoinsOnlyMovedSlotsWrong : ChangeSpec := { name := "coalesceJoinsOnlyMovedSlots", fn := fun _ => fun
  | [d] => { results := [.lit (.bool false)], args := [d] }
  | _ => none }
def CoalesceJoinsOnlyMovedSlotsWrongFalsely : Prop := coalesceJoinsOnlyMovedSlotsRow.holds Try.pinned (OpenSpec.ofChange coalesceJoinsOnlyMovedSlotsWrong)

/-- 'spillframelaw19.CoalesceKeepsInterferingSlotsApart': WHATEVER THE INPUT: true; the input reads as it did. -/
def coalesceKeepsInterferingSlotsApartSpec : ChangeSpec := { name := "coalesceKeepsInterferingSlotsApart", fn := fun _ => fun
  | [d] => { results := [.lit (.bool true)], args := [d] }
  | _ => none }
def coalesceKeepsInterferingSlotsApartRow : OpenClaim := { program := "ytechhjednmnmpaa", sum := "93e9fc42a6ad45df0943fd2154dce7de5ed137a33f96fb9da562d67701ad5002", func := "spillframe/spillframelaw19.CoalesceKeepsInterferingSlotsApart", spec := "coalesceKeepsInterferingSlotsApart", unfollowed := true, recurses := true, apart := false }
def CoalesceKeepsInterferingSlotsApartSaid : Prop := coalesceKeepsInterferingSlotsApartRow.holds Try.pinned (OpenSpec.ofChange coalesceKeepsInterferingSlotsApartSpec)

/-- ITS FALSE NEIGHBOUR: 'it returns false'. Refute it at one input. -/
def coalesceKeepsInterferingSlotsApartWrong : ChangeSpec := { name := "coalesceKeepsInterferingSlotsApart", fn := fun _ => fun
  | [d] => { results := [.lit (.bool false)], args := [d] }
  | _ => none }
def CoalesceKeepsInterferingSlotsApartWrongFalsely : Prop := coalesceKeepsInterferingSlotsApartRow.holds Try.pinned (OpenSpec.ofChange coalesceKeepsInterferingSlotsApartWrong)

/- THE SECOND FORM. 'bulk': how many values and letters a reading holds, each counted each time it is reached (what is shared counts as often as it is met; a slice's spare places count too). A statement '..UptoSaid' is the law's where the arguments, and the package variables that the reading takes, are together of bulk at most 1048576: NARROWER than '..Said'. Prove '..Said' where nothing that the law and all that it calls make is longer than what came in: it says more and counts as full. Else prove '..UptoSaid'. A law counts once. -/
mutual
def uptoBulk {H : Type} : DataW H → Nat
  | .lit (.string bytes) => bytes.length + 1
  | .lit _ => 1
  | .nil => 1
  | .ptr d => uptoBulk d + 1
  | .slice elems spare => uptoBulkAll elems + uptoBulkAll spare + 1
  | .agg parts => uptoBulkAll parts + 1
  | .iface _ d => uptoBulk d + 1
  | .map entries => uptoBulkEntries entries + 1
  | .held _ => 1
def uptoBulkAll {H : Type} : List (DataW H) → Nat
  | [] => 0
  | d :: r => uptoBulk d + uptoBulkAll r
def uptoBulkEntries {H : Type} : List (Lit × DataW H) → Nat
  | [] => 0
  | x :: r => uptoBulkEntry x + uptoBulkEntries r
def uptoBulkEntry {H : Type} : Lit × DataW H → Nat
  | (.string bytes, d) => bytes.length + uptoBulk d + 1
  | (_, d) => uptoBulk d + 1
 end
def uptoSmall : (H : Type) → List (DataW H) → Bool := fun _ ds => decide (uptoBulkAll ds ≤ 1048576)
def OpenSpec.upto (s : _root_.Go.ChangeSpec) : _root_.Go.OpenSpec := { _root_.Go.OpenSpec.ofChange s with cond := some uptoSmall }

/-- 'spillframelaw19.CoalesceClasses', WHERE WHAT IT READS IS OF BULK AT MOST 1048576: true; the input reads as it did. -/
def coalesceClassesUptoRow : OpenClaim := { program := "ytechhjednmnmpaa", sum := "93e9fc42a6ad45df0943fd2154dce7de5ed137a33f96fb9da562d67701ad5002", func := "spillframe/spillframelaw19.CoalesceClasses", spec := "coalesceClasses", unfollowed := true, recurses := true, apart := false, narrowed := true }
def CoalesceClassesUptoSaid : Prop := coalesceClassesUptoRow.holds Try.pinned (OpenSpec.upto coalesceClassesSpec)

/-- 'spillframelaw19.CoalesceIsGreedy', WHERE WHAT IT READS IS OF BULK AT MOST 1048576: true; the input reads as it did. -/
def coalesceIsGreedyUptoRow : OpenClaim := { program := "ytechhjednmnmpaa", sum := "93e9fc42a6ad45df0943fd2154dce7de5ed137a33f96fb9da562d67701ad5002", func := "spillframe/spillframelaw19.CoalesceIsGreedy", spec := "coalesceIsGreedy", unfollowed := true, recurses := true, apart := false, narrowed := true }
def CoalesceIsGreedyUptoSaid : Prop := coalesceIsGreedyUptoRow.holds Try.pinned (OpenSpec.upto coalesceIsGreedySpec)

/-- 'spillframelaw19.CoalesceJoinsOnlyMovedSlots', WHERE WHAT IT READS IS OF BULK AT MOST 1048576: true; the input reads as it did. -/
def coalesceJoinsOnlyMovedSlotsUptoRow : OpenClaim := { program := "ytechhjednmnmpaa", sum := "93e9fc42a6ad45df0943fd2154dce7de5ed137a33f96fb9da562d67701ad5002", func := "spillframe/spillframelaw19.CoalesceJoinsOnlyMovedSlots", spec := "coalesceJoinsOnlyMovedSlots", unfollowed := true, recurses := true, apart := false, narrowed := true }
def CoalesceJoinsOnlyMovedSlotsUptoSaid : Prop := coalesceJoinsOnlyMovedSlotsUptoRow.holds Try.pinned (OpenSpec.upto coalesceJoinsOnlyMovedSlotsSpec)

/-- 'spillframelaw19.CoalesceKeepsInterferingSlotsApart', WHERE WHAT IT READS IS OF BULK AT MOST 1048576: true; the input reads as it did. -/
def coalesceKeepsInterferingSlotsApartUptoRow : OpenClaim := { program := "ytechhjednmnmpaa", sum := "93e9fc42a6ad45df0943fd2154dce7de5ed137a33f96fb9da562d67701ad5002", func := "spillframe/spillframelaw19.CoalesceKeepsInterferingSlotsApart", spec := "coalesceKeepsInterferingSlotsApart", unfollowed := true, recurses := true, apart := false, narrowed := true }
def CoalesceKeepsInterferingSlotsApartUptoSaid : Prop := coalesceKeepsInterferingSlotsApartUptoRow.holds Try.pinned (OpenSpec.upto coalesceKeepsInterferingSlotsApartSpec)

end Rows
end Go.Proofs.Ytechhjednmnmpaa
