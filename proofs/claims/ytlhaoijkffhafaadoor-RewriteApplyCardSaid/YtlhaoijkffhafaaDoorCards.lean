/-
  DERIVED. GIVEN WITH THE SEED: THE CARDS: each row of YtlhaoijkffhafaaDoorRows.lean that lists a variable, with what it lists TIED to the program's text (the seventh form; the later family's looks); each row that meets fmt, with fmt's text TOLD by the authors' own Lean function (tested against real Go, not proved from fmt's source: count such statements apart). THE CARD IS WHAT COUNTS. Prove the row's statement (the work); the ties are given (YtlhaoijkffhafaaDoorTie.lean); close each card by the builder's one call (the guide's Derived/Test/ToyasCard.lean, 'card_holds'). Laid BY PROGRAM, IN A SANDBOX (cutbox-door.mjs). By AI agents, Wed Nov 11 2026. No macro, syntax, notation, axiom, sorry.
-/
import Derived.Test.YtlhaoijkffhafaaDoorRows
import GoSem.ClaimSeven
namespace Go.Proofs.YtlhaoijkffhafaaDoor
namespace Rows

/-- THE TIED CARD OF 'spillframelaw21.RewriteApply'. -/
def rewriteApplyCard : Claim7 := { stood := { row := rewriteApplyRow, standIns := [], harness := (true, "cf641f750fff39a49b1746e61ec80eea177720931cabbe3ae1f3191059c6fc22"), looks := false }, kinds := [], alts := [], laidByText := true, laidKinds := [.data], laidTests := true, laidLooks := .later }
def RewriteApplyCardSaid : Prop := Claim7.holds Tryd.pinned (.plain (OpenSpec.ofChange rewriteApplySpec)) rewriteApplyCard

/-- THE TIED CARD OF 'spillframelaw21.RewriteIdentity'. -/
def rewriteIdentityCard : Claim7 := { stood := { row := rewriteIdentityRow, standIns := [], harness := (true, "cf641f750fff39a49b1746e61ec80eea177720931cabbe3ae1f3191059c6fc22"), looks := false }, kinds := [], alts := [], laidByText := true, laidKinds := [.data], laidTests := true, laidLooks := .later }
def RewriteIdentityCardSaid : Prop := Claim7.holds Tryd.pinned (.plain (OpenSpec.ofChange rewriteIdentitySpec)) rewriteIdentityCard

/-- THE TIED CARD OF 'spillframelaw21.RewriteKeepsAlignments'. -/
def rewriteKeepsAlignmentsCard : Claim7 := { stood := { row := rewriteKeepsAlignmentsRow, standIns := [], harness := (true, "cf641f750fff39a49b1746e61ec80eea177720931cabbe3ae1f3191059c6fc22"), looks := false }, kinds := [], alts := [], laidByText := true, laidKinds := [.data], laidTests := true, laidLooks := .later }
def RewriteKeepsAlignmentsCardSaid : Prop := Claim7.holds Tryd.pinned (.plain (OpenSpec.ofChange rewriteKeepsAlignmentsSpec)) rewriteKeepsAlignmentsCard

/-- THE TIED CARD OF 'spillframelaw21.RewriteTargets'. -/
def rewriteTargetsCard : Claim7 := { stood := { row := rewriteTargetsRow, standIns := [], harness := (true, "cf641f750fff39a49b1746e61ec80eea177720931cabbe3ae1f3191059c6fc22"), looks := false }, kinds := [], alts := [], laidByText := true, laidKinds := [.data], laidTests := true, laidLooks := .later }
def RewriteTargetsCardSaid : Prop := Claim7.holds Tryd.pinned (.plain (OpenSpec.ofChange rewriteTargetsSpec)) rewriteTargetsCard

/-- THE SECOND FORM's CARD OF 'spillframelaw21.RewriteApply'. -/
def rewriteApplyUptoCard : Claim7 := { stood := { row := rewriteApplyUptoRow, standIns := [], harness := (true, "cf641f750fff39a49b1746e61ec80eea177720931cabbe3ae1f3191059c6fc22"), looks := false }, kinds := [], alts := [], laidByText := true, laidKinds := [.data], laidTests := true, laidLooks := .later }
def RewriteApplyUptoCardSaid : Prop := Claim7.holds Tryd.pinned (.plain (OpenSpec.upto rewriteApplySpec)) rewriteApplyUptoCard

/-- THE SECOND FORM's CARD OF 'spillframelaw21.RewriteIdentity'. -/
def rewriteIdentityUptoCard : Claim7 := { stood := { row := rewriteIdentityUptoRow, standIns := [], harness := (true, "cf641f750fff39a49b1746e61ec80eea177720931cabbe3ae1f3191059c6fc22"), looks := false }, kinds := [], alts := [], laidByText := true, laidKinds := [.data], laidTests := true, laidLooks := .later }
def RewriteIdentityUptoCardSaid : Prop := Claim7.holds Tryd.pinned (.plain (OpenSpec.upto rewriteIdentitySpec)) rewriteIdentityUptoCard

/-- THE SECOND FORM's CARD OF 'spillframelaw21.RewriteKeepsAlignments'. -/
def rewriteKeepsAlignmentsUptoCard : Claim7 := { stood := { row := rewriteKeepsAlignmentsUptoRow, standIns := [], harness := (true, "cf641f750fff39a49b1746e61ec80eea177720931cabbe3ae1f3191059c6fc22"), looks := false }, kinds := [], alts := [], laidByText := true, laidKinds := [.data], laidTests := true, laidLooks := .later }
def RewriteKeepsAlignmentsUptoCardSaid : Prop := Claim7.holds Tryd.pinned (.plain (OpenSpec.upto rewriteKeepsAlignmentsSpec)) rewriteKeepsAlignmentsUptoCard

/-- THE SECOND FORM's CARD OF 'spillframelaw21.RewriteTargets'. -/
def rewriteTargetsUptoCard : Claim7 := { stood := { row := rewriteTargetsUptoRow, standIns := [], harness := (true, "cf641f750fff39a49b1746e61ec80eea177720931cabbe3ae1f3191059c6fc22"), looks := false }, kinds := [], alts := [], laidByText := true, laidKinds := [.data], laidTests := true, laidLooks := .later }
def RewriteTargetsUptoCardSaid : Prop := Claim7.holds Tryd.pinned (.plain (OpenSpec.upto rewriteTargetsSpec)) rewriteTargetsUptoCard
end Rows
end Go.Proofs.YtlhaoijkffhafaaDoor
