/-
  DERIVED. GIVEN WITH THE SEED: THE CARDS: each row of YtnoenipdooackaaDoorRows.lean that lists a variable, with what it lists TIED to the program's text (the seventh form; the later family's looks); each row that meets fmt, with fmt's text TOLD by the authors' own Lean function (tested against real Go, not proved from fmt's source: count such statements apart). THE CARD IS WHAT COUNTS. Prove the row's statement (the work); the ties are given (YtnoenipdooackaaDoorTie.lean); close each card by the builder's one call (the guide's Derived/Test/ToyasCard.lean, 'card_holds'). Laid BY PROGRAM, IN A SANDBOX (cutbox-door.mjs). By AI agents, Wed Nov 11 2026. No macro, syntax, notation, axiom, sorry.
-/
import Derived.Test.YtnoenipdooackaaDoorRows
import GoSem.ClaimSeven
namespace Go.Proofs.YtnoenipdooackaaDoor
namespace Rows

/-- THE TIED CARD OF 'fenlandlaw14.SummaryDecisionsMatchReference'. -/
def summaryDecisionsMatchReferenceCard : Claim7 := { stood := { row := summaryDecisionsMatchReferenceRow, standIns := [], harness := (true, "741f8f41270893c5dc99359b76c736df2c6fd33cdc71f6454c284d5fa537ae8b"), looks := false }, kinds := [], alts := [], laidByText := true, laidKinds := [.data], laidTests := true, laidLooks := .later }
def SummaryDecisionsMatchReferenceCardSaid : Prop := Claim7.holds Tryd.pinned (.plain (OpenSpec.ofChange summaryDecisionsMatchReferenceSpec)) summaryDecisionsMatchReferenceCard

/-- THE TIED CARD OF 'fenlandlaw14.SummarySound'. -/
def summarySoundCard : Claim7 := { stood := { row := summarySoundRow, standIns := [], harness := (true, "741f8f41270893c5dc99359b76c736df2c6fd33cdc71f6454c284d5fa537ae8b"), looks := false }, kinds := [], alts := [], laidByText := true, laidKinds := [.data], laidTests := true, laidLooks := .later }
def SummarySoundCardSaid : Prop := Claim7.holds Tryd.pinned (.plain (OpenSpec.ofChange summarySoundSpec)) summarySoundCard

/-- THE TIED CARD OF 'fenlandlaw14.SummaryRoundTrip'. -/
def summaryRoundTripCard : Claim7 := { stood := { row := summaryRoundTripRow, standIns := [], harness := (true, "741f8f41270893c5dc99359b76c736df2c6fd33cdc71f6454c284d5fa537ae8b"), looks := false }, kinds := [], alts := [], laidByText := true, laidKinds := [.data], laidTests := true, laidLooks := .later }
def SummaryRoundTripCardSaid : Prop := Claim7.holds Tryd.pinned (.plain (OpenSpec.ofChange summaryRoundTripSpec)) summaryRoundTripCard

/-- THE TIED CARD OF 'fenlandlaw14.SummaryCovers'. -/
def summaryCoversCard : Claim7 := { stood := { row := summaryCoversRow, standIns := [], harness := (true, "741f8f41270893c5dc99359b76c736df2c6fd33cdc71f6454c284d5fa537ae8b"), looks := false }, kinds := [], alts := [], laidByText := true, laidKinds := [.data], laidTests := true, laidLooks := .later }
def SummaryCoversCardSaid : Prop := Claim7.holds Tryd.pinned (.plain (OpenSpec.ofChange summaryCoversSpec)) summaryCoversCard

/-- THE TIED CARD OF 'fenlandlaw14.SummaryMerges'. -/
def summaryMergesCard : Claim7 := { stood := { row := summaryMergesRow, standIns := [], harness := (true, "741f8f41270893c5dc99359b76c736df2c6fd33cdc71f6454c284d5fa537ae8b"), looks := false }, kinds := [], alts := [], laidByText := true, laidKinds := [.data], laidTests := true, laidLooks := .later }
def SummaryMergesCardSaid : Prop := Claim7.holds Tryd.pinned (.plain (OpenSpec.ofChange summaryMergesSpec)) summaryMergesCard

/-- THE TIED CARD OF 'fenlandlaw14.SummaryGrows'. -/
def summaryGrowsCard : Claim7 := { stood := { row := summaryGrowsRow, standIns := [], harness := (true, "741f8f41270893c5dc99359b76c736df2c6fd33cdc71f6454c284d5fa537ae8b"), looks := false }, kinds := [], alts := [], laidByText := true, laidKinds := [.data], laidTests := true, laidLooks := .later }
def SummaryGrowsCardSaid : Prop := Claim7.holds Tryd.pinned (.plain (OpenSpec.ofChange summaryGrowsSpec)) summaryGrowsCard

/-- THE SECOND FORM's CARD OF 'fenlandlaw14.SummaryDecisionsMatchReference'. -/
def summaryDecisionsMatchReferenceUptoCard : Claim7 := { stood := { row := summaryDecisionsMatchReferenceUptoRow, standIns := [], harness := (true, "741f8f41270893c5dc99359b76c736df2c6fd33cdc71f6454c284d5fa537ae8b"), looks := false }, kinds := [], alts := [], laidByText := true, laidKinds := [.data], laidTests := true, laidLooks := .later }
def SummaryDecisionsMatchReferenceUptoCardSaid : Prop := Claim7.holds Tryd.pinned (.plain (OpenSpec.upto summaryDecisionsMatchReferenceSpec)) summaryDecisionsMatchReferenceUptoCard

/-- THE SECOND FORM's CARD OF 'fenlandlaw14.SummarySound'. -/
def summarySoundUptoCard : Claim7 := { stood := { row := summarySoundUptoRow, standIns := [], harness := (true, "741f8f41270893c5dc99359b76c736df2c6fd33cdc71f6454c284d5fa537ae8b"), looks := false }, kinds := [], alts := [], laidByText := true, laidKinds := [.data], laidTests := true, laidLooks := .later }
def SummarySoundUptoCardSaid : Prop := Claim7.holds Tryd.pinned (.plain (OpenSpec.upto summarySoundSpec)) summarySoundUptoCard

/-- THE SECOND FORM's CARD OF 'fenlandlaw14.SummaryRoundTrip'. -/
def summaryRoundTripUptoCard : Claim7 := { stood := { row := summaryRoundTripUptoRow, standIns := [], harness := (true, "741f8f41270893c5dc99359b76c736df2c6fd33cdc71f6454c284d5fa537ae8b"), looks := false }, kinds := [], alts := [], laidByText := true, laidKinds := [.data], laidTests := true, laidLooks := .later }
def SummaryRoundTripUptoCardSaid : Prop := Claim7.holds Tryd.pinned (.plain (OpenSpec.upto summaryRoundTripSpec)) summaryRoundTripUptoCard

/-- THE SECOND FORM's CARD OF 'fenlandlaw14.SummaryCovers'. -/
def summaryCoversUptoCard : Claim7 := { stood := { row := summaryCoversUptoRow, standIns := [], harness := (true, "741f8f41270893c5dc99359b76c736df2c6fd33cdc71f6454c284d5fa537ae8b"), looks := false }, kinds := [], alts := [], laidByText := true, laidKinds := [.data], laidTests := true, laidLooks := .later }
def SummaryCoversUptoCardSaid : Prop := Claim7.holds Tryd.pinned (.plain (OpenSpec.upto summaryCoversSpec)) summaryCoversUptoCard

/-- THE SECOND FORM's CARD OF 'fenlandlaw14.SummaryMerges'. -/
def summaryMergesUptoCard : Claim7 := { stood := { row := summaryMergesUptoRow, standIns := [], harness := (true, "741f8f41270893c5dc99359b76c736df2c6fd33cdc71f6454c284d5fa537ae8b"), looks := false }, kinds := [], alts := [], laidByText := true, laidKinds := [.data], laidTests := true, laidLooks := .later }
def SummaryMergesUptoCardSaid : Prop := Claim7.holds Tryd.pinned (.plain (OpenSpec.upto summaryMergesSpec)) summaryMergesUptoCard

/-- THE SECOND FORM's CARD OF 'fenlandlaw14.SummaryGrows'. -/
def summaryGrowsUptoCard : Claim7 := { stood := { row := summaryGrowsUptoRow, standIns := [], harness := (true, "741f8f41270893c5dc99359b76c736df2c6fd33cdc71f6454c284d5fa537ae8b"), looks := false }, kinds := [], alts := [], laidByText := true, laidKinds := [.data], laidTests := true, laidLooks := .later }
def SummaryGrowsUptoCardSaid : Prop := Claim7.holds Tryd.pinned (.plain (OpenSpec.upto summaryGrowsSpec)) summaryGrowsUptoCard
end Rows
end Go.Proofs.YtnoenipdooackaaDoor
