/-
  No cell of these rows narrows 'for every input' (looked for: loops, veiled, ifaces, maps, wideKeys, modest, calm, conditions, laid).
  DERIVED. THE GIVEN ROWS OF THIS SEAT. 5 by the template 'for every input the law returns true; each argument reads behind the call as it read before'; 0 by the template 'total and deterministic' (their statements: YtjfkdjlmajfljaaTotals.lean).
  GIVEN WITH THE SEED: the statements are not yours to turn. If you find one false, say at which input.
  Laid BY PROGRAM, IN A SANDBOX (cutbox-rows.mjs): the forced cells as the released guide's own fill.sh prints them over the translation 3efb890be2d736cc… (all of the seat's roots in one cut). By AI agents, Wed Nov 11 2026. No macro, syntax, notation, axiom, sorry.
-/
import Derived.Test.YtjfkdjlmajfljaaChecked
import GoSem.Claim
import GoSem.ClaimJoined
import GoSem.ClaimMapViews
import Derived.JoinedTies
import Derived.KernelRfl
namespace Go.Proofs.Ytjfkdjlmajfljaa
/- THE CELL 'sum', in the pinned program and in every row, IS THE sha256 OF THE DUMP (.gsa) THAT YtjfkdjlmajfljaaProg.lean LOADS. Nothing in Lean hashes anything: it is a label: what it is worth is what the hold of that sum in a sandbox is worth. -/
noncomputable def Try.pinned : Pinned := { name := "ytjfkdjlmajfljaa", sum := "3efb890be2d736ccf60cea38266fd712562887ced462da931c6b1f0ee0abaea3", checked := Try.checked }
namespace Rows
def none {H : Type} : Left H := { results := [], args := [] }

/-- 'spillframelaw24.PackArgsFitAllCalls': WHATEVER THE INPUT: true; the input reads as it did. -/
def packArgsFitAllCallsSpec : ChangeSpec := { name := "packArgsFitAllCalls", fn := fun _ => fun
  | [d] => { results := [.lit (.bool true)], args := [d] }
  | _ => none }
def packArgsFitAllCallsRow : OpenClaim := { program := "ytjfkdjlmajfljaa", sum := "3efb890be2d736ccf60cea38266fd712562887ced462da931c6b1f0ee0abaea3", func := "spillframe/spillframelaw24.PackArgsFitAllCalls", spec := "packArgsFitAllCalls", apart := false }
def PackArgsFitAllCallsSaid : Prop := packArgsFitAllCallsRow.holds Try.pinned (OpenSpec.ofChange packArgsFitAllCallsSpec)

/-- ITS FALSE NEIGHBOUR: 'it returns false'. Refute it at one input. -/
def packArgsFitAllCallsWrong : ChangeSpec := { name := "packArgsFitAllCalls", fn := fun _ => fun
  | [d] => { results := [.lit (.bool false)], args := [d] }
  | _ => none }
def PackArgsFitAllCallsWrongFalsely : Prop := packArgsFitAllCallsRow.holds Try.pinned (OpenSpec.ofChange packArgsFitAllCallsWrong)

/-- 'spillframelaw20.DeadstoreShrinks': WHATEVER THE INPUT: true; the input reads as it did. -/
def deadstoreShrinksSpec : ChangeSpec := { name := "deadstoreShrinks", fn := fun _ => fun
  | [d] => { results := [.lit (.bool true)], args := [d] }
  | _ => none }
def deadstoreShrinksRow : OpenClaim := { program := "ytjfkdjlmajfljaa", sum := "3efb890be2d736ccf60cea38266fd712562887ced462da931c6b1f0ee0abaea3", func := "spillframe/spillframelaw20.DeadstoreShrinks", spec := "deadstoreShrinks", apart := false }
def DeadstoreShrinksSaid : Prop := deadstoreShrinksRow.holds Try.pinned (OpenSpec.ofChange deadstoreShrinksSpec)

/-- ITS FALSE NEIGHBOUR: 'it returns false'. Refute it at one input. -/
def deadstoreShrinksWrong : ChangeSpec := { name := "deadstoreShrinks", fn := fun _ => fun
  | [d] => { results := [.lit (.bool false)], args := [d] }
  | _ => none }
def DeadstoreShrinksWrongFalsely : Prop := deadstoreShrinksRow.holds Try.pinned (OpenSpec.ofChange deadstoreShrinksWrong)

/-- 'spillframelaw20.DeadstoreNeverReadAgain': WHATEVER THE INPUT: true; the input reads as it did. -/
def deadstoreNeverReadAgainSpec : ChangeSpec := { name := "deadstoreNeverReadAgain", fn := fun _ => fun
  | [d] => { results := [.lit (.bool true)], args := [d] }
  | _ => none }
def deadstoreNeverReadAgainRow : OpenClaim := { program := "ytjfkdjlmajfljaa", sum := "3efb890be2d736ccf60cea38266fd712562887ced462da931c6b1f0ee0abaea3", func := "spillframe/spillframelaw20.DeadstoreNeverReadAgain", spec := "deadstoreNeverReadAgain", apart := false }
def DeadstoreNeverReadAgainSaid : Prop := deadstoreNeverReadAgainRow.holds Try.pinned (OpenSpec.ofChange deadstoreNeverReadAgainSpec)

/-- ITS FALSE NEIGHBOUR: 'it returns false'. Refute it at one input. -/
def deadstoreNeverReadAgainWrong : ChangeSpec := { name := "deadstoreNeverReadAgain", fn := fun _ => fun
  | [d] => { results := [.lit (.bool false)], args := [d] }
  | _ => none }
def DeadstoreNeverReadAgainWrongFalsely : Prop := deadstoreNeverReadAgainRow.holds Try.pinned (OpenSpec.ofChange deadstoreNeverReadAgainWrong)

/-- 'spillframelaw20.DeadstoreKeep': WHATEVER THE INPUT: true; the input reads as it did. -/
def deadstoreKeepSpec : ChangeSpec := { name := "deadstoreKeep", fn := fun _ => fun
  | [d1, d2] => { results := [.lit (.bool true)], args := [d1, d2] }
  | _ => none }
def deadstoreKeepRow : OpenClaim := { program := "ytjfkdjlmajfljaa", sum := "3efb890be2d736ccf60cea38266fd712562887ced462da931c6b1f0ee0abaea3", func := "spillframe/spillframelaw20.DeadstoreKeep", spec := "deadstoreKeep", apart := false }
def DeadstoreKeepSaid : Prop := deadstoreKeepRow.holds Try.pinned (OpenSpec.ofChange deadstoreKeepSpec)

/-- ITS FALSE NEIGHBOUR: 'it returns false'. Refute it at one input. -/
def deadstoreKeepWrong : ChangeSpec := { name := "deadstoreKeep", fn := fun _ => fun
  | [d1, d2] => { results := [.lit (.bool false)], args := [d1, d2] }
  | _ => none }
def DeadstoreKeepWrongFalsely : Prop := deadstoreKeepRow.holds Try.pinned (OpenSpec.ofChange deadstoreKeepWrong)

/-- 'spillframelaw20.DeadstoreLeavesOnlyStoresOut': WHATEVER THE INPUT: true; the input reads as it did. -/
def deadstoreLeavesOnlyStoresOutSpec : ChangeSpec := { name := "deadstoreLeavesOnlyStoresOut", fn := fun _ => fun
  | [d] => { results := [.lit (.bool true)], args := [d] }
  | _ => none }
def deadstoreLeavesOnlyStoresOutRow : OpenClaim := { program := "ytjfkdjlmajfljaa", sum := "3efb890be2d736ccf60cea38266fd712562887ced462da931c6b1f0ee0abaea3", func := "spillframe/spillframelaw20.DeadstoreLeavesOnlyStoresOut", spec := "deadstoreLeavesOnlyStoresOut", apart := false }
def DeadstoreLeavesOnlyStoresOutSaid : Prop := deadstoreLeavesOnlyStoresOutRow.holds Try.pinned (OpenSpec.ofChange deadstoreLeavesOnlyStoresOutSpec)

/-- ITS FALSE NEIGHBOUR: 'it returns false'. Refute it at one input. -/
def deadstoreLeavesOnlyStoresOutWrong : ChangeSpec := { name := "deadstoreLeavesOnlyStoresOut", fn := fun _ => fun
  | [d] => { results := [.lit (.bool false)], args := [d] }
  | _ => none }
def DeadstoreLeavesOnlyStoresOutWrongFalsely : Prop := deadstoreLeavesOnlyStoresOutRow.holds Try.pinned (OpenSpec.ofChange deadstoreLeavesOnlyStoresOutWrong)

/- THE SECOND FORM. 'bulk': how many values and letters a reading holds, each counted each time it is reached (what is shared counts as often as it is met; a slice's spare places count too). A statement '..UptoSaid' is the law's where the arguments, and the package variables that the reading takes, are together of bulk at most 1048576: NARROWER than '..Said'. Prove '..Said' where nothing that the law and all that it calls make is longer than what came in: it says more and counts as full. Else prove '..UptoSaid'. A law counts once. -/
mutual
def uptoBulk {H : Type} : DataW H → Nat
  | .lit (.string bytes) => bytes.length + 1
  | .lit _ => 1
  | .nil => 1
  | .ptr d => uptoBulk d + 1
  | .slice elems spare => uptoBulkAll elems + uptoBulkAll spare + 1
  | .agg parts => uptoBulkAll parts + 1
  | .iface _ d => uptoBulk d + 1
  | .map entries => uptoBulkEntries entries + 1
  | .held _ => 1
def uptoBulkAll {H : Type} : List (DataW H) → Nat
  | [] => 0
  | d :: r => uptoBulk d + uptoBulkAll r
def uptoBulkEntries {H : Type} : List (Lit × DataW H) → Nat
  | [] => 0
  | x :: r => uptoBulkEntry x + uptoBulkEntries r
def uptoBulkEntry {H : Type} : Lit × DataW H → Nat
  | (.string bytes, d) => bytes.length + uptoBulk d + 1
  | (_, d) => uptoBulk d + 1
 end
def uptoSmall : (H : Type) → List (DataW H) → Bool := fun _ ds => decide (uptoBulkAll ds ≤ 1048576)
def OpenSpec.upto (s : _root_.Go.ChangeSpec) : _root_.Go.OpenSpec := { _root_.Go.OpenSpec.ofChange s with cond := some uptoSmall }

/-- 'spillframelaw24.PackArgsFitAllCalls', WHERE WHAT IT READS IS OF BULK AT MOST 1048576: true; the input reads as it did. -/
def packArgsFitAllCallsUptoRow : OpenClaim := { program := "ytjfkdjlmajfljaa", sum := "3efb890be2d736ccf60cea38266fd712562887ced462da931c6b1f0ee0abaea3", func := "spillframe/spillframelaw24.PackArgsFitAllCalls", spec := "packArgsFitAllCalls", apart := false, narrowed := true }
def PackArgsFitAllCallsUptoSaid : Prop := packArgsFitAllCallsUptoRow.holds Try.pinned (OpenSpec.upto packArgsFitAllCallsSpec)

/-- 'spillframelaw20.DeadstoreShrinks', WHERE WHAT IT READS IS OF BULK AT MOST 1048576: true; the input reads as it did. -/
def deadstoreShrinksUptoRow : OpenClaim := { program := "ytjfkdjlmajfljaa", sum := "3efb890be2d736ccf60cea38266fd712562887ced462da931c6b1f0ee0abaea3", func := "spillframe/spillframelaw20.DeadstoreShrinks", spec := "deadstoreShrinks", apart := false, narrowed := true }
def DeadstoreShrinksUptoSaid : Prop := deadstoreShrinksUptoRow.holds Try.pinned (OpenSpec.upto deadstoreShrinksSpec)

/-- 'spillframelaw20.DeadstoreNeverReadAgain', WHERE WHAT IT READS IS OF BULK AT MOST 1048576: true; the input reads as it did. -/
def deadstoreNeverReadAgainUptoRow : OpenClaim := { program := "ytjfkdjlmajfljaa", sum := "3efb890be2d736ccf60cea38266fd712562887ced462da931c6b1f0ee0abaea3", func := "spillframe/spillframelaw20.DeadstoreNeverReadAgain", spec := "deadstoreNeverReadAgain", apart := false, narrowed := true }
def DeadstoreNeverReadAgainUptoSaid : Prop := deadstoreNeverReadAgainUptoRow.holds Try.pinned (OpenSpec.upto deadstoreNeverReadAgainSpec)

/-- 'spillframelaw20.DeadstoreKeep', WHERE WHAT IT READS IS OF BULK AT MOST 1048576: true; the input reads as it did. -/
def deadstoreKeepUptoRow : OpenClaim := { program := "ytjfkdjlmajfljaa", sum := "3efb890be2d736ccf60cea38266fd712562887ced462da931c6b1f0ee0abaea3", func := "spillframe/spillframelaw20.DeadstoreKeep", spec := "deadstoreKeep", apart := false, narrowed := true }
def DeadstoreKeepUptoSaid : Prop := deadstoreKeepUptoRow.holds Try.pinned (OpenSpec.upto deadstoreKeepSpec)

/-- 'spillframelaw20.DeadstoreLeavesOnlyStoresOut', WHERE WHAT IT READS IS OF BULK AT MOST 1048576: true; the input reads as it did. -/
def deadstoreLeavesOnlyStoresOutUptoRow : OpenClaim := { program := "ytjfkdjlmajfljaa", sum := "3efb890be2d736ccf60cea38266fd712562887ced462da931c6b1f0ee0abaea3", func := "spillframe/spillframelaw20.DeadstoreLeavesOnlyStoresOut", spec := "deadstoreLeavesOnlyStoresOut", apart := false, narrowed := true }
def DeadstoreLeavesOnlyStoresOutUptoSaid : Prop := deadstoreLeavesOnlyStoresOutUptoRow.holds Try.pinned (OpenSpec.upto deadstoreLeavesOnlyStoresOutSpec)

end Rows
end Go.Proofs.Ytjfkdjlmajfljaa
