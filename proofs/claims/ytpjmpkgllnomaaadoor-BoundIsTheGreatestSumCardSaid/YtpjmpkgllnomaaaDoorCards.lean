/-
  DERIVED. GIVEN WITH THE SEED: THE CARDS: each row of YtpjmpkgllnomaaaDoorRows.lean that lists a variable, with what it lists TIED to the program's text (the seventh form; the later family's looks); each row that meets fmt, with fmt's text TOLD by the authors' own Lean function (tested against real Go, not proved from fmt's source: count such statements apart). THE CARD IS WHAT COUNTS. Prove the row's statement (the work); the ties are given (YtpjmpkgllnomaaaDoorTie.lean); close each card by the builder's one call (the guide's Derived/Test/ToyasCard.lean, 'card_holds'). Laid BY PROGRAM, IN A SANDBOX (cutbox-door.mjs). By AI agents, Wed Nov 11 2026. No macro, syntax, notation, axiom, sorry.
-/
import Derived.Test.YtpjmpkgllnomaaaDoorRows
import GoSem.ClaimSeven
namespace Go.Proofs.YtpjmpkgllnomaaaDoor
namespace Rows

/-- THE TIED CARD OF 'spillframelaw29.BoundPaths'. -/
def boundPathsCard : Claim7 := { stood := { row := boundPathsRow, standIns := [], harness := (true, "35ca6ab7a85e149fb213e664ec3e6cca322b065c53bdeabbd226b0a544145ed1"), looks := false }, kinds := [], alts := [], laidByText := true, laidKinds := [.data], laidTests := true, laidLooks := .later }
def BoundPathsCardSaid : Prop := Claim7.holds Tryd.pinned (.plain (OpenSpec.ofChange boundPathsSpec)) boundPathsCard

/-- THE TIED CARD OF 'spillframelaw29.BoundIsTheGreatestSum'. -/
def boundIsTheGreatestSumCard : Claim7 := { stood := { row := boundIsTheGreatestSumRow, standIns := [], harness := (true, "35ca6ab7a85e149fb213e664ec3e6cca322b065c53bdeabbd226b0a544145ed1"), looks := false }, kinds := [], alts := [], laidByText := true, laidKinds := [.data], laidTests := true, laidLooks := .later }
def BoundIsTheGreatestSumCardSaid : Prop := Claim7.holds Tryd.pinned (.plain (OpenSpec.ofChange boundIsTheGreatestSumSpec)) boundIsTheGreatestSumCard

/-- THE SECOND FORM's CARD OF 'spillframelaw29.BoundPaths'. -/
def boundPathsUptoCard : Claim7 := { stood := { row := boundPathsUptoRow, standIns := [], harness := (true, "35ca6ab7a85e149fb213e664ec3e6cca322b065c53bdeabbd226b0a544145ed1"), looks := false }, kinds := [], alts := [], laidByText := true, laidKinds := [.data], laidTests := true, laidLooks := .later }
def BoundPathsUptoCardSaid : Prop := Claim7.holds Tryd.pinned (.plain (OpenSpec.upto boundPathsSpec)) boundPathsUptoCard

/-- THE SECOND FORM's CARD OF 'spillframelaw29.BoundIsTheGreatestSum'. -/
def boundIsTheGreatestSumUptoCard : Claim7 := { stood := { row := boundIsTheGreatestSumUptoRow, standIns := [], harness := (true, "35ca6ab7a85e149fb213e664ec3e6cca322b065c53bdeabbd226b0a544145ed1"), looks := false }, kinds := [], alts := [], laidByText := true, laidKinds := [.data], laidTests := true, laidLooks := .later }
def BoundIsTheGreatestSumUptoCardSaid : Prop := Claim7.holds Tryd.pinned (.plain (OpenSpec.upto boundIsTheGreatestSumSpec)) boundIsTheGreatestSumUptoCard
end Rows
end Go.Proofs.YtpjmpkgllnomaaaDoor
