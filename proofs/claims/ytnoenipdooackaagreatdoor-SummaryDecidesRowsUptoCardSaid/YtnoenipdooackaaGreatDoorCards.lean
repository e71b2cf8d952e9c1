/-
  DERIVED. GIVEN WITH THE SEED: THE CARDS: each row of YtnoenipdooackaaGreatDoorRows.lean that lists a variable, with what it lists TIED to the program's text (the seventh form; the later family's looks); each row that meets fmt, with fmt's text TOLD by the authors' own Lean function (tested against real Go, not proved from fmt's source: count such statements apart). THE CARD IS WHAT COUNTS. Prove the row's statement (the work); the ties are given (YtnoenipdooackaaGreatDoorTie.lean); close each card by the builder's one call (the guide's Derived/Test/ToyasCard.lean, 'card_holds'). Laid BY PROGRAM, IN A SANDBOX (cutbox-door.mjs). By AI agents, Wed Nov 11 2026. No macro, syntax, notation, axiom, sorry.
-/
import Derived.Test.YtnoenipdooackaaGreatDoorRows
import GoSem.ClaimSeven
namespace Go.Proofs.YtnoenipdooackaaGreatDoor
namespace Rows

/-- THE TIED CARD OF 'fenlandlaw14.SummaryDecidesRows'. -/
def summaryDecidesRowsCard : Claim7 := { stood := { row := summaryDecidesRowsRow, standIns := [], harness := (true, "13967d4d51e8892089cd18b4328755229461102dc0d24b14708d3ca0b089ea92"), looks := false }, kinds := [], alts := [], laidByText := true, laidKinds := [.data], laidTests := true, laidLooks := .later }
def SummaryDecidesRowsCardSaid : Prop := Claim7.holds Tryz.pinned (.plain (OpenSpec.ofChange summaryDecidesRowsSpec)) summaryDecidesRowsCard

/-- THE SECOND FORM's CARD OF 'fenlandlaw14.SummaryDecidesRows'. -/
def summaryDecidesRowsUptoCard : Claim7 := { stood := { row := summaryDecidesRowsUptoRow, standIns := [], harness := (true, "13967d4d51e8892089cd18b4328755229461102dc0d24b14708d3ca0b089ea92"), looks := false }, kinds := [], alts := [], laidByText := true, laidKinds := [.data], laidTests := true, laidLooks := .later }
def SummaryDecidesRowsUptoCardSaid : Prop := Claim7.holds Tryz.pinned (.plain (OpenSpec.upto summaryDecidesRowsSpec)) summaryDecidesRowsUptoCard
end Rows
end Go.Proofs.YtnoenipdooackaaGreatDoor
