/-
  DERIVED. GIVEN WITH THE SEED: THE CARDS: each row of YteifdlklpdjkkaaDoorRows.lean that lists a variable, with what it lists TIED to the program's text (the seventh form; the later family's looks); each row that meets fmt, with fmt's text TOLD by the authors' own Lean function (tested against real Go, not proved from fmt's source: count such statements apart). THE CARD IS WHAT COUNTS. Prove the row's statement (the work); the ties are given (YteifdlklpdjkkaaDoorTie.lean); close each card by the builder's one call (the guide's Derived/Test/ToyasCard.lean, 'card_holds'). Laid BY PROGRAM, IN A SANDBOX (cutbox-door.mjs). By AI agents, Wed Nov 11 2026. No macro, syntax, notation, axiom, sorry.
-/
import Derived.Test.YteifdlklpdjkkaaDoorRows
import GoSem.ClaimSeven
namespace Go.Proofs.YteifdlklpdjkkaaDoor
namespace Rows

/-- THE TIED CARD OF 'spillframelaw27.CallgraphOf'. -/
def callgraphOfCard : Claim7 := { stood := { row := callgraphOfRow, standIns := [], harness := (true, "b62c2fd68c5cd44ff985394915e45d134fee83d135f52971f292c0603d115459"), looks := false }, kinds := [], alts := [], laidByText := true, laidKinds := [.data], laidTests := true, laidLooks := .later }
def CallgraphOfCardSaid : Prop := Claim7.holds Tryd.pinned (.plain (OpenSpec.ofChange callgraphOfSpec)) callgraphOfCard

/-- THE TIED CARD OF 'spillframelaw27.CallgraphCheck'. -/
def callgraphCheckCard : Claim7 := { stood := { row := callgraphCheckRow, standIns := [], harness := (true, "b62c2fd68c5cd44ff985394915e45d134fee83d135f52971f292c0603d115459"), looks := false }, kinds := [], alts := [], laidByText := true, laidKinds := [.data], laidTests := true, laidLooks := .later }
def CallgraphCheckCardSaid : Prop := Claim7.holds Tryd.pinned (.plain (OpenSpec.ofChange callgraphCheckSpec)) callgraphCheckCard

/-- THE TIED CARD OF 'spillframelaw27.CallgraphEdgesAreCalls'. -/
def callgraphEdgesAreCallsCard : Claim7 := { stood := { row := callgraphEdgesAreCallsRow, standIns := [], harness := (true, "b62c2fd68c5cd44ff985394915e45d134fee83d135f52971f292c0603d115459"), looks := false }, kinds := [], alts := [], laidByText := true, laidKinds := [.data], laidTests := true, laidLooks := .later }
def CallgraphEdgesAreCallsCardSaid : Prop := Claim7.holds Tryd.pinned (.plain (OpenSpec.ofChange callgraphEdgesAreCallsSpec)) callgraphEdgesAreCallsCard

/-- THE TIED CARD OF 'spillframelaw27.CallgraphReach'. -/
def callgraphReachCard : Claim7 := { stood := { row := callgraphReachRow, standIns := [], harness := (true, "b62c2fd68c5cd44ff985394915e45d134fee83d135f52971f292c0603d115459"), looks := false }, kinds := [], alts := [], laidByText := true, laidKinds := [.data], laidTests := true, laidLooks := .later }
def CallgraphReachCardSaid : Prop := Claim7.holds Tryd.pinned (.plain (OpenSpec.ofChange callgraphReachSpec)) callgraphReachCard

/-- THE TIED CARD OF 'spillframelaw27.CallgraphTurn'. -/
def callgraphTurnCard : Claim7 := { stood := { row := callgraphTurnRow, standIns := [], harness := (true, "b62c2fd68c5cd44ff985394915e45d134fee83d135f52971f292c0603d115459"), looks := false }, kinds := [], alts := [], laidByText := true, laidKinds := [.data], laidTests := true, laidLooks := .later }
def CallgraphTurnCardSaid : Prop := Claim7.holds Tryd.pinned (.plain (OpenSpec.ofChange callgraphTurnSpec)) callgraphTurnCard

/-- THE SECOND FORM's CARD OF 'spillframelaw27.CallgraphOf'. -/
def callgraphOfUptoCard : Claim7 := { stood := { row := callgraphOfUptoRow, standIns := [], harness := (true, "b62c2fd68c5cd44ff985394915e45d134fee83d135f52971f292c0603d115459"), looks := false }, kinds := [], alts := [], laidByText := true, laidKinds := [.data], laidTests := true, laidLooks := .later }
def CallgraphOfUptoCardSaid : Prop := Claim7.holds Tryd.pinned (.plain (OpenSpec.upto callgraphOfSpec)) callgraphOfUptoCard

/-- THE SECOND FORM's CARD OF 'spillframelaw27.CallgraphCheck'. -/
def callgraphCheckUptoCard : Claim7 := { stood := { row := callgraphCheckUptoRow, standIns := [], harness := (true, "b62c2fd68c5cd44ff985394915e45d134fee83d135f52971f292c0603d115459"), looks := false }, kinds := [], alts := [], laidByText := true, laidKinds := [.data], laidTests := true, laidLooks := .later }
def CallgraphCheckUptoCardSaid : Prop := Claim7.holds Tryd.pinned (.plain (OpenSpec.upto callgraphCheckSpec)) callgraphCheckUptoCard

/-- THE SECOND FORM's CARD OF 'spillframelaw27.CallgraphEdgesAreCalls'. -/
def callgraphEdgesAreCallsUptoCard : Claim7 := { stood := { row := callgraphEdgesAreCallsUptoRow, standIns := [], harness := (true, "b62c2fd68c5cd44ff985394915e45d134fee83d135f52971f292c0603d115459"), looks := false }, kinds := [], alts := [], laidByText := true, laidKinds := [.data], laidTests := true, laidLooks := .later }
def CallgraphEdgesAreCallsUptoCardSaid : Prop := Claim7.holds Tryd.pinned (.plain (OpenSpec.upto callgraphEdgesAreCallsSpec)) callgraphEdgesAreCallsUptoCard

/-- THE SECOND FORM's CARD OF 'spillframelaw27.CallgraphReach'. -/
def callgraphReachUptoCard : Claim7 := { stood := { row := callgraphReachUptoRow, standIns := [], harness := (true, "b62c2fd68c5cd44ff985394915e45d134fee83d135f52971f292c0603d115459"), looks := false }, kinds := [], alts := [], laidByText := true, laidKinds := [.data], laidTests := true, laidLooks := .later }
def CallgraphReachUptoCardSaid : Prop := Claim7.holds Tryd.pinned (.plain (OpenSpec.upto callgraphReachSpec)) callgraphReachUptoCard

/-- THE SECOND FORM's CARD OF 'spillframelaw27.CallgraphTurn'. -/
def callgraphTurnUptoCard : Claim7 := { stood := { row := callgraphTurnUptoRow, standIns := [], harness := (true, "b62c2fd68c5cd44ff985394915e45d134fee83d135f52971f292c0603d115459"), looks := false }, kinds := [], alts := [], laidByText := true, laidKinds := [.data], laidTests := true, laidLooks := .later }
def CallgraphTurnUptoCardSaid : Prop := Claim7.holds Tryd.pinned (.plain (OpenSpec.upto callgraphTurnSpec)) callgraphTurnUptoCard
end Rows
end Go.Proofs.YteifdlklpdjkkaaDoor
