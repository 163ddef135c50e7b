/-
  DERIVED. GIVEN WITH THE SEED: THE CARDS: each row of YtmefipdgohflmaaDoorRows.lean that lists a variable, with what it lists TIED to the program's text (the seventh form; the later family's looks); each row that meets fmt, with fmt's text TOLD by the authors' own Lean function (tested against real Go, not proved from fmt's source: count such statements apart). THE CARD IS WHAT COUNTS. Prove the row's statement (the work); the ties are given (YtmefipdgohflmaaDoorTie.lean); close each card by the builder's one call (the guide's Derived/Test/ToyasCard.lean, 'card_holds'). Laid BY PROGRAM, IN A SANDBOX (cutbox-door.mjs). By AI agents, Wed Nov 11 2026. No macro, syntax, notation, axiom, sorry.
-/
import Derived.Test.YtmefipdgohflmaaDoorRows
import GoSem.ClaimSeven
namespace Go.Proofs.YtmefipdgohflmaaDoor
namespace Rows

/-- THE TIED CARD OF 'spillframelaw29.BoundIsMonotone'. -/
def boundIsMonotoneCard : Claim7 := { stood := { row := boundIsMonotoneRow, standIns := [], harness := (true, "e018439dabadc8f65a185b9dade9a642a28f7cabce87a37aa0a76c5dd1545cd6"), looks := false }, kinds := [], alts := [], laidByText := true, laidKinds := [.data], laidTests := true, laidLooks := .later }
def BoundIsMonotoneCardSaid : Prop := Claim7.holds Tryd.pinned (.plain (OpenSpec.ofChange boundIsMonotoneSpec)) boundIsMonotoneCard

/-- THE TIED CARD OF 'spillframelaw29.BoundOverflows'. -/
def boundOverflowsCard : Claim7 := { stood := { row := boundOverflowsRow, standIns := [], harness := (true, "e018439dabadc8f65a185b9dade9a642a28f7cabce87a37aa0a76c5dd1545cd6"), looks := false }, kinds := [], alts := [], laidByText := true, laidKinds := [.data], laidTests := true, laidLooks := .later }
def BoundOverflowsCardSaid : Prop := Claim7.holds Tryd.pinned (.plain (OpenSpec.ofChange boundOverflowsSpec)) boundOverflowsCard

/-- THE TIED CARD OF 'spillframelaw29.BoundAll'. -/
def boundAllCard : Claim7 := { stood := { row := boundAllRow, standIns := [], harness := (true, "e018439dabadc8f65a185b9dade9a642a28f7cabce87a37aa0a76c5dd1545cd6"), looks := false }, kinds := [], alts := [], laidByText := true, laidKinds := [.data], laidTests := true, laidLooks := .later }
def BoundAllCardSaid : Prop := Claim7.holds Tryd.pinned (.plain (OpenSpec.ofChange boundAllSpec)) boundAllCard

/-- THE TIED CARD OF 'spillframelaw28.CycleFoundIsACycle'. -/
def cycleFoundIsACycleCard : Claim7 := { stood := { row := cycleFoundIsACycleRow, standIns := [], harness := (true, "e018439dabadc8f65a185b9dade9a642a28f7cabce87a37aa0a76c5dd1545cd6"), looks := false }, kinds := [], alts := [], laidByText := true, laidKinds := [.data], laidTests := true, laidLooks := .later }
def CycleFoundIsACycleCardSaid : Prop := Claim7.holds Tryd.pinned (.plain (OpenSpec.ofChange cycleFoundIsACycleSpec)) cycleFoundIsACycleCard

/-- THE TIED CARD OF 'spillframelaw29.BoundPaths'. -/
def boundPathsCard : Claim7 := { stood := { row := boundPathsRow, standIns := [], harness := (true, "e018439dabadc8f65a185b9dade9a642a28f7cabce87a37aa0a76c5dd1545cd6"), looks := false }, kinds := [], alts := [], laidByText := true, laidKinds := [.data], laidTests := true, laidLooks := .later }
def BoundPathsCardSaid : Prop := Claim7.holds Tryd.pinned (.plain (OpenSpec.ofChange boundPathsSpec)) boundPathsCard

/-- THE TIED CARD OF 'spillframelaw29.BoundIsTheGreatestSum'. -/
def boundIsTheGreatestSumCard : Claim7 := { stood := { row := boundIsTheGreatestSumRow, standIns := [], harness := (true, "e018439dabadc8f65a185b9dade9a642a28f7cabce87a37aa0a76c5dd1545cd6"), looks := false }, kinds := [], alts := [], laidByText := true, laidKinds := [.data], laidTests := true, laidLooks := .later }
def BoundIsTheGreatestSumCardSaid : Prop := Claim7.holds Tryd.pinned (.plain (OpenSpec.ofChange boundIsTheGreatestSumSpec)) boundIsTheGreatestSumCard

/-- THE TIED CARD OF 'spillframelaw28.CycleOrder'. -/
def cycleOrderCard : Claim7 := { stood := { row := cycleOrderRow, standIns := [], harness := (true, "e018439dabadc8f65a185b9dade9a642a28f7cabce87a37aa0a76c5dd1545cd6"), looks := false }, kinds := [], alts := [], laidByText := true, laidKinds := [.data], laidTests := true, laidLooks := .later }
def CycleOrderCardSaid : Prop := Claim7.holds Tryd.pinned (.plain (OpenSpec.ofChange cycleOrderSpec)) cycleOrderCard

/-- THE TIED CARD OF 'spillframelaw28.CycleOrderIsTopological'. -/
def cycleOrderIsTopologicalCard : Claim7 := { stood := { row := cycleOrderIsTopologicalRow, standIns := [], harness := (true, "e018439dabadc8f65a185b9dade9a642a28f7cabce87a37aa0a76c5dd1545cd6"), looks := false }, kinds := [], alts := [], laidByText := true, laidKinds := [.data], laidTests := true, laidLooks := .later }
def CycleOrderIsTopologicalCardSaid : Prop := Claim7.holds Tryd.pinned (.plain (OpenSpec.ofChange cycleOrderIsTopologicalSpec)) cycleOrderIsTopologicalCard

/-- THE TIED CARD OF 'spillframelaw28.CycleFind'. -/
def cycleFindCard : Claim7 := { stood := { row := cycleFindRow, standIns := [], harness := (true, "e018439dabadc8f65a185b9dade9a642a28f7cabce87a37aa0a76c5dd1545cd6"), looks := false }, kinds := [], alts := [], laidByText := true, laidKinds := [.data], laidTests := true, laidLooks := .later }
def CycleFindCardSaid : Prop := Claim7.holds Tryd.pinned (.plain (OpenSpec.ofChange cycleFindSpec)) cycleFindCard

/-- THE TIED CARD OF 'spillframelaw28.CyclePartsAreComponents'. -/
def cyclePartsAreComponentsCard : Claim7 := { stood := { row := cyclePartsAreComponentsRow, standIns := [], harness := (true, "e018439dabadc8f65a185b9dade9a642a28f7cabce87a37aa0a76c5dd1545cd6"), looks := false }, kinds := [], alts := [], laidByText := true, laidKinds := [.data], laidTests := true, laidLooks := .later }
def CyclePartsAreComponentsCardSaid : Prop := Claim7.holds Tryd.pinned (.plain (OpenSpec.ofChange cyclePartsAreComponentsSpec)) cyclePartsAreComponentsCard

/-- THE SECOND FORM's CARD OF 'spillframelaw29.BoundIsMonotone'. -/
def boundIsMonotoneUptoCard : Claim7 := { stood := { row := boundIsMonotoneUptoRow, standIns := [], harness := (true, "e018439dabadc8f65a185b9dade9a642a28f7cabce87a37aa0a76c5dd1545cd6"), looks := false }, kinds := [], alts := [], laidByText := true, laidKinds := [.data], laidTests := true, laidLooks := .later }
def BoundIsMonotoneUptoCardSaid : Prop := Claim7.holds Tryd.pinned (.plain (OpenSpec.upto boundIsMonotoneSpec)) boundIsMonotoneUptoCard

/-- THE SECOND FORM's CARD OF 'spillframelaw29.BoundOverflows'. -/
def boundOverflowsUptoCard : Claim7 := { stood := { row := boundOverflowsUptoRow, standIns := [], harness := (true, "e018439dabadc8f65a185b9dade9a642a28f7cabce87a37aa0a76c5dd1545cd6"), looks := false }, kinds := [], alts := [], laidByText := true, laidKinds := [.data], laidTests := true, laidLooks := .later }
def BoundOverflowsUptoCardSaid : Prop := Claim7.holds Tryd.pinned (.plain (OpenSpec.upto boundOverflowsSpec)) boundOverflowsUptoCard

/-- THE SECOND FORM's CARD OF 'spillframelaw29.BoundAll'. -/
def boundAllUptoCard : Claim7 := { stood := { row := boundAllUptoRow, standIns := [], harness := (true, "e018439dabadc8f65a185b9dade9a642a28f7cabce87a37aa0a76c5dd1545cd6"), looks := false }, kinds := [], alts := [], laidByText := true, laidKinds := [.data], laidTests := true, laidLooks := .later }
def BoundAllUptoCardSaid : Prop := Claim7.holds Tryd.pinned (.plain (OpenSpec.upto boundAllSpec)) boundAllUptoCard

/-- THE SECOND FORM's CARD OF 'spillframelaw28.CycleFoundIsACycle'. -/
def cycleFoundIsACycleUptoCard : Claim7 := { stood := { row := cycleFoundIsACycleUptoRow, standIns := [], harness := (true, "e018439dabadc8f65a185b9dade9a642a28f7cabce87a37aa0a76c5dd1545cd6"), looks := false }, kinds := [], alts := [], laidByText := true, laidKinds := [.data], laidTests := true, laidLooks := .later }
def CycleFoundIsACycleUptoCardSaid : Prop := Claim7.holds Tryd.pinned (.plain (OpenSpec.upto cycleFoundIsACycleSpec)) cycleFoundIsACycleUptoCard

/-- THE SECOND FORM's CARD OF 'spillframelaw29.BoundPaths'. -/
def boundPathsUptoCard : Claim7 := { stood := { row := boundPathsUptoRow, standIns := [], harness := (true, "e018439dabadc8f65a185b9dade9a642a28f7cabce87a37aa0a76c5dd1545cd6"), looks := false }, kinds := [], alts := [], laidByText := true, laidKinds := [.data], laidTests := true, laidLooks := .later }
def BoundPathsUptoCardSaid : Prop := Claim7.holds Tryd.pinned (.plain (OpenSpec.upto boundPathsSpec)) boundPathsUptoCard

/-- THE SECOND FORM's CARD OF 'spillframelaw29.BoundIsTheGreatestSum'. -/
def boundIsTheGreatestSumUptoCard : Claim7 := { stood := { row := boundIsTheGreatestSumUptoRow, standIns := [], harness := (true, "e018439dabadc8f65a185b9dade9a642a28f7cabce87a37aa0a76c5dd1545cd6"), looks := false }, kinds := [], alts := [], laidByText := true, laidKinds := [.data], laidTests := true, laidLooks := .later }
def BoundIsTheGreatestSumUptoCardSaid : Prop := Claim7.holds Tryd.pinned (.plain (OpenSpec.upto boundIsTheGreatestSumSpec)) boundIsTheGreatestSumUptoCard

/-- THE SECOND FORM's CARD OF 'spillframelaw28.CycleOrder'. -/
def cycleOrderUptoCard : Claim7 := { stood := { row := cycleOrderUptoRow, standIns := [], harness := (true, "e018439dabadc8f65a185b9dade9a642a28f7cabce87a37aa0a76c5dd1545cd6"), looks := false }, kinds := [], alts := [], laidByText := true, laidKinds := [.data], laidTests := true, laidLooks := .later }
def CycleOrderUptoCardSaid : Prop := Claim7.holds Tryd.pinned (.plain (OpenSpec.upto cycleOrderSpec)) cycleOrderUptoCard

/-- THE SECOND FORM's CARD OF 'spillframelaw28.CycleOrderIsTopological'. -/
def cycleOrderIsTopologicalUptoCard : Claim7 := { stood := { row := cycleOrderIsTopologicalUptoRow, standIns := [], harness := (true, "e018439dabadc8f65a185b9dade9a642a28f7cabce87a37aa0a76c5dd1545cd6"), looks := false }, kinds := [], alts := [], laidByText := true, laidKinds := [.data], laidTests := true, laidLooks := .later }
def CycleOrderIsTopologicalUptoCardSaid : Prop := Claim7.holds Tryd.pinned (.plain (OpenSpec.upto cycleOrderIsTopologicalSpec)) cycleOrderIsTopologicalUptoCard

/-- THE SECOND FORM's CARD OF 'spillframelaw28.CycleFind'. -/
def cycleFindUptoCard : Claim7 := { stood := { row := cycleFindUptoRow, standIns := [], harness := (true, "e018439dabadc8f65a185b9dade9a642a28f7cabce87a37aa0a76c5dd1545cd6"), looks := false }, kinds := [], alts := [], laidByText := true, laidKinds := [.data], laidTests := true, laidLooks := .later }
def CycleFindUptoCardSaid : Prop := Claim7.holds Tryd.pinned (.plain (OpenSpec.upto cycleFindSpec)) cycleFindUptoCard

/-- THE SECOND FORM's CARD OF 'spillframelaw28.CyclePartsAreComponents'. -/
def cyclePartsAreComponentsUptoCard : Claim7 := { stood := { row := cyclePartsAreComponentsUptoRow, standIns := [], harness := (true, "e018439dabadc8f65a185b9dade9a642a28f7cabce87a37aa0a76c5dd1545cd6"), looks := false }, kinds := [], alts := [], laidByText := true, laidKinds := [.data], laidTests := true, laidLooks := .later }
def CyclePartsAreComponentsUptoCardSaid : Prop := Claim7.holds Tryd.pinned (.plain (OpenSpec.upto cyclePartsAreComponentsSpec)) cyclePartsAreComponentsUptoCard
end Rows
end Go.Proofs.YtmefipdgohflmaaDoor
