/-
  No cell of these rows narrows 'for every input' (looked for: loops, veiled, ifaces, maps, wideKeys, modest, calm, conditions, laid).
  DERIVED. THE GIVEN ROWS OF THIS SEAT. 2 by the template 'for every input the law returns true; each argument reads behind the call as it read before'; 0 by the template 'total and deterministic' (their statements: YtgbkhjllbgmdcaaGreatTotals.lean).
  GIVEN WITH THE SEED: the statements are not yours to turn. If you find one false, say at which input.
  Laid BY PROGRAM, IN A SANDBOX (cutbox-rows.mjs): the forced cells as the released guide's own fill.sh prints them over the translation 48f579cdaa64c888… (all of the seat's roots in one cut). By AI agents, Wed Nov 11 2026. No macro, syntax, notation, axiom, sorry.
-/
import Derived.Test.YtgbkhjllbgmdcaaGreatChecked
import GoSem.Claim
import GoSem.ClaimJoined
import GoSem.ClaimMapViews
import Derived.JoinedTies
import Derived.KernelRfl
namespace Go.Proofs.YtgbkhjllbgmdcaaGreat
/- THE CELL 'sum', in the pinned program and in every row, IS THE sha256 OF THE DUMP (.gsa) THAT YtgbkhjllbgmdcaaGreatProg.lean LOADS. Nothing in Lean hashes anything: it is a label: what it is worth is what the hold of that sum in a sandbox is worth. -/
noncomputable def Tryz.pinned : Pinned := { name := "ytgbkhjllbgmdcaagreat", sum := "48f579cdaa64c888401c985f711b58d51e428ae9fb45c8e768aedfad07cf3031", checked := Tryz.checked }
namespace Rows
def none {H : Type} : Left H := { results := [], args := [] }

/-- 'spillframelaw26.LowerBaselineRunsAlike': WHATEVER THE INPUT: true; the input reads as it did. -/
def lowerBaselineRunsAlikeSpec : ChangeSpec := { name := "lowerBaselineRunsAlike", fn := fun _ => fun
  | [d1, d2] => { results := [.lit (.bool true)], args := [d1, d2] }
  | _ => none }
def lowerBaselineRunsAlikeRow : OpenClaim := { program := "ytgbkhjllbgmdcaagreat", sum := "48f579cdaa64c888401c985f711b58d51e428ae9fb45c8e768aedfad07cf3031", func := "spillframe/spillframelaw26.LowerBaselineRunsAlike", spec := "lowerBaselineRunsAlike", unfollowed := true, recurses := true, apart := false }
def LowerBaselineRunsAlikeSaid : Prop := lowerBaselineRunsAlikeRow.holds Tryz.pinned (OpenSpec.ofChange lowerBaselineRunsAlikeSpec)

/-- ITS FALSE NEIGHBOUR: 'it returns false'. Refute it at one input. -/
def lowerBaselineRunsAlikeWrong : ChangeSpec := { name := "lowerBaselineRunsAlike", fn := fun _ => fun
  | [d1, d2] => { results := [.lit (.bool false)], args := [d1, d2] }
  | _ => none }
def LowerBaselineRunsAlikeWrongFalsely : Prop := lowerBaselineRunsAlikeRow.holds Tryz.pinned (OpenSpec.ofChange lowerBaselineRunsAlikeWrong)

/-- 'spillframelaw26.LowerAcceptedRunsAlike': WHATEVER THE INPUT: true; the input reads as it did. -/
def lowerAcceptedRunsAlikeSpec : ChangeSpec := { name := "lowerAcceptedRunsAlike", fn := fun _ => fun
  | [d1, d2] => { results := [.lit (.bool true)], args := [d1, d2] }
  | _ => none }
def lowerAcceptedRunsAlikeRow : OpenClaim := { program := "ytgbkhjllbgmdcaagreat", sum := "48f579cdaa64c888401c985f711b58d51e428ae9fb45c8e768aedfad07cf3031", func := "spillframe/spillframelaw26.LowerAcceptedRunsAlike", spec := "lowerAcceptedRunsAlike", unfollowed := true, recurses := true, apart := false }
def LowerAcceptedRunsAlikeSaid : Prop := lowerAcceptedRunsAlikeRow.holds Tryz.pinned (OpenSpec.ofChange lowerAcceptedRunsAlikeSpec)

/-- ITS FALSE NEIGHBOUR: 'it returns false'. Refute it at one input. -/
def lowerAcceptedRunsAlikeWrong : ChangeSpec := { name := "lowerAcceptedRunsAlike", fn := fun _ => fun
  | [d1, d2] => { results := [.lit (.bool false)], args := [d1, d2] }
  | _ => none }
def LowerAcceptedRunsAlikeWrongFalsely : Prop := lowerAcceptedRunsAlikeRow.holds Tryz.pinned (OpenSpec.ofChange lowerAcceptedRunsAlikeWrong)

/- THE SECOND FORM. 'bulk': how many values and letters a reading holds, each counted each time it is reached (what is shared counts as often as it is met; a slice's spare places count too). A statement '..UptoSaid' is the law's where the arguments, and the package variables that the reading takes, are together of bulk at most 1048576: NARROWER than '..Said'. Prove '..Said' where nothing that the law and all that it calls make is longer than what came in: it says more and counts as full. Else prove '..UptoSaid'. A law counts once. -/
mutual
def uptoBulk {H : Type} : DataW H → Nat
  | .lit (.string bytes) => bytes.length + 1
  | .lit _ => 1
  | .nil => 1
  | .ptr d => uptoBulk d + 1
  | .slice elems spare => uptoBulkAll elems + uptoBulkAll spare + 1
  | .agg parts => uptoBulkAll parts + 1
  | .iface _ d => uptoBulk d + 1
  | .map entries => uptoBulkEntries entries + 1
  | .held _ => 1
def uptoBulkAll {H : Type} : List (DataW H) → Nat
  | [] => 0
  | d :: r => uptoBulk d + uptoBulkAll r
def uptoBulkEntries {H : Type} : List (Lit × DataW H) → Nat
  | [] => 0
  | x :: r => uptoBulkEntry x + uptoBulkEntries r
def uptoBulkEntry {H : Type} : Lit × DataW H → Nat
  | (.string bytes, d) => bytes.length + uptoBulk d + 1
  | (_, d) => uptoBulk d + 1
 end
def uptoSmall : (H : Type) → List (DataW H) → Bool := fun _ ds => decide (uptoBulkAll ds ≤ 1048576)
def OpenSpec.upto (s : _root_.Go.ChangeSpec) : _root_.Go.OpenSpec := { _root_.Go.OpenSpec.ofChange s with cond := some uptoSmall }

/-- 'spillframelaw26.LowerBaselineRunsAlike', WHERE WHAT IT READS IS OF BULK AT MOST 1048576: true; the input reads as it did. -/
def lowerBaselineRunsAlikeUptoRow : OpenClaim := { program := "ytgbkhjllbgmdcaagreat", sum := "48f579cdaa64c888401c985f711b58d51e428ae9fb45c8e768aedfad07cf3031", func := "spillframe/spillframelaw26.LowerBaselineRunsAlike", spec := "lowerBaselineRunsAlike", unfollowed := true, recurses := true, apart := false, narrowed := true }
def LowerBaselineRunsAlikeUptoSaid : Prop := lowerBaselineRunsAlikeUptoRow.holds Tryz.pinned (OpenSpec.upto lowerBaselineRunsAlikeSpec)

/-- 'spillframelaw26.LowerAcceptedRunsAlike', WHERE WHAT IT READS IS OF BULK AT MOST 1048576: true; the input reads as it did. -/
def lowerAcceptedRunsAlikeUptoRow : OpenClaim := { program := "ytgbkhjllbgmdcaagreat", sum := "48f579cdaa64c888401c985f711b58d51e428ae9fb45c8e768aedfad07cf3031", func := "spillframe/spillframelaw26.LowerAcceptedRunsAlike", spec := "lowerAcceptedRunsAlike", unfollowed := true, recurses := true, apart := false, narrowed := true }
def LowerAcceptedRunsAlikeUptoSaid : Prop := lowerAcceptedRunsAlikeUptoRow.holds Tryz.pinned (OpenSpec.upto lowerAcceptedRunsAlikeSpec)

end Rows
end Go.Proofs.YtgbkhjllbgmdcaaGreat
