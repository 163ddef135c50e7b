/-
  DERIVED. GIVEN WITH THE SEED: THE CARDS: each row of YtlhaoijkffhafaaGreatDoorRows.lean that lists a variable, with what it lists TIED to the program's text (the seventh form; the later family's looks); each row that meets fmt, with fmt's text TOLD by the authors' own Lean function (tested against real Go, not proved from fmt's source: count such statements apart). THE CARD IS WHAT COUNTS. Prove the row's statement (the work); the ties are given (YtlhaoijkffhafaaGreatDoorTie.lean); close each card by the builder's one call (the guide's Derived/Test/ToyasCard.lean, 'card_holds'). Laid BY PROGRAM, IN A SANDBOX (cutbox-door.mjs). By AI agents, Wed Nov 11 2026. No macro, syntax, notation, axiom, sorry.
-/
import Derived.Test.YtlhaoijkffhafaaGreatDoorRows
import GoSem.ClaimSeven
namespace Go.Proofs.YtlhaoijkffhafaaGreatDoor
namespace Rows

/-- THE TIED CARD OF 'spillframelaw21.RewriteKeepsPrograms'. -/
def rewriteKeepsProgramsCard : Claim7 := { stood := { row := rewriteKeepsProgramsRow, standIns := [], harness := (true, "27f0aba4c841b23ddf407dbb1e6ed408be50e71b6b1c04175c179800d676d4a5"), looks := false }, kinds := [], alts := [], laidByText := true, laidKinds := [.data], laidTests := true, laidLooks := .later }
def RewriteKeepsProgramsCardSaid : Prop := Claim7.holds Tryz.pinned (.plain (OpenSpec.ofChange rewriteKeepsProgramsSpec)) rewriteKeepsProgramsCard

/-- THE SECOND FORM's CARD OF 'spillframelaw21.RewriteKeepsPrograms'. -/
def rewriteKeepsProgramsUptoCard : Claim7 := { stood := { row := rewriteKeepsProgramsUptoRow, standIns := [], harness := (true, "27f0aba4c841b23ddf407dbb1e6ed408be50e71b6b1c04175c179800d676d4a5"), looks := false }, kinds := [], alts := [], laidByText := true, laidKinds := [.data], laidTests := true, laidLooks := .later }
def RewriteKeepsProgramsUptoCardSaid : Prop := Claim7.holds Tryz.pinned (.plain (OpenSpec.upto rewriteKeepsProgramsSpec)) rewriteKeepsProgramsUptoCard
end Rows
end Go.Proofs.YtlhaoijkffhafaaGreatDoor
