/-
  NARROWER THAN 'FOR EVERY INPUT', by the rows' own cells (each row's printed sentence says how): SummaryDecisionsMatchReference: loops, laid · SummarySound: loops, laid · SummaryRoundTrip: laid · SummaryCovers: laid · SummaryMerges: laid · SummaryGrows: loops, laid.
  DERIVED. THE GIVEN ROWS OF THIS SEAT. 6 by the template 'for every input the law returns true; each argument reads behind the call as it read before'; 0 by the template 'total and deterministic' (their statements: YtnoenipdooackaaDoorTotals.lean).
  GIVEN WITH THE SEED: the statements are not yours to turn. If you find one false, say at which input.
  Laid BY PROGRAM, IN A SANDBOX (cutbox-rows.mjs): the forced cells as the released guide's own fill.sh prints them over the translation aa98ab08e3ab9ebd… (all of the seat's roots in one cut). By AI agents, Wed Nov 11 2026. No macro, syntax, notation, axiom, sorry.
-/
import Derived.Test.YtnoenipdooackaaDoorChecked
import GoSem.Claim
import GoSem.ClaimJoined
import GoSem.ClaimMapViews
import Derived.JoinedTies
import Derived.KernelRfl
namespace Go.Proofs.YtnoenipdooackaaDoor
/- THE CELL 'sum', in the pinned program and in every row, IS THE sha256 OF THE DUMP (.gsa) THAT YtnoenipdooackaaDoorProg.lean LOADS. Nothing in Lean hashes anything: it is a label: what it is worth is what the hold of that sum in a sandbox is worth. -/
noncomputable def Tryd.pinned : Pinned := { name := "ytnoenipdooackaadoor", sum := "aa98ab08e3ab9ebdb2b094726aecdf2baf87efc3052eb96bad4d6a844d030b1f", checked := Tryd.checked }
namespace Rows
def none {H : Type} : Left H := { results := [], args := [] }

/- WHAT THE LISTED PACKAGE-LEVEL VARIABLES READ AS WHEN THE CALL BEGINS. Each datum BY PROGRAM (the guide's laid-datum.mjs) off the statement by which the dump's own 'gosem.cut.vars' lays the variable. In a bare row this is a premise. The card (YtnoenipdooackaaDoorCards.lean) ties it to the program's text. -/
def laid_fenland_summary_null {H : Type} : DataW H := .agg [.lit (.bool true), .lit (.int .i64 0), .lit (.string [])]

/-- 'fenlandlaw14.SummaryDecisionsMatchReference': WHATEVER THE INPUT: true; the input reads as it did. -/
def summaryDecisionsMatchReferenceSpec : ChangeSpec := { name := "summaryDecisionsMatchReference", fn := fun _ => fun
  | [d1, d2] => { results := [.lit (.bool true)], args := [d1, d2] }
  | _ => none }
def summaryDecisionsMatchReferenceRow : OpenClaim := { program := "ytnoenipdooackaadoor", sum := "aa98ab08e3ab9ebdb2b094726aecdf2baf87efc3052eb96bad4d6a844d030b1f", func := "fenland/fenlandlaw14.SummaryDecisionsMatchReference", spec := "summaryDecisionsMatchReference", inPlace := ["internal/bytealg.abigen_runtime_cmpstring"], unfollowed := true, recurses := true, named := ["fenland/summary.null"], loops := true, apart := false, laid := [("fenland/summary.null", laid_fenland_summary_null)] }
def SummaryDecisionsMatchReferenceSaid : Prop := summaryDecisionsMatchReferenceRow.holds Tryd.pinned (OpenSpec.ofChange summaryDecisionsMatchReferenceSpec)

/-- ITS FALSE NEIGHBOUR: 'it returns false'. Refute it at one input. -/
def summaryDecisionsMatchReferenceWrong : ChangeSpec := { name := "summaryDecisionsMatchReference", fn := fun _ => fun
  | [d1, d2] => { results := [.lit (.bool false)], args := [d1, d2] }
  | _ => none }
def SummaryDecisionsMatchReferenceWrongFalsely : Prop := summaryDecisionsMatchReferenceRow.holds Tryd.pinned (OpenSpec.ofChange summaryDecisionsMatchReferenceWrong)

/-- 'fenlandlaw14.SummarySound': WHATEVER THE INPUT: true; the input reads as it did. -/
def summarySoundSpec : ChangeSpec := { name := "summarySound", fn := fun _ => fun
  | [d1, d2, d3] => { results := [.lit (.bool true)], args := [d1, d2, d3] }
  | _ => none }
def summarySoundRow : OpenClaim := { program := "ytnoenipdooackaadoor", sum := "aa98ab08e3ab9ebdb2b094726aecdf2baf87efc3052eb96bad4d6a844d030b1f", func := "fenland/fenlandlaw14.SummarySound", spec := "summarySound", inPlace := ["internal/bytealg.abigen_runtime_cmpstring"], unfollowed := true, recurses := true, named := ["fenland/summary.null"], loops := true, apart := false, laid := [("fenland/summary.null", laid_fenland_summary_null)] }
def SummarySoundSaid : Prop := summarySoundRow.holds Tryd.pinned (OpenSpec.ofChange summarySoundSpec)

/-- ITS FALSE NEIGHBOUR: 'it returns false'. Refute it at one input. -/
def summarySoundWrong : ChangeSpec := { name := "summarySound", fn := fun _ => fun
  | [d1, d2, d3] => { results := [.lit (.bool false)], args := [d1, d2, d3] }
  | _ => none }
def SummarySoundWrongFalsely : Prop := summarySoundRow.holds Tryd.pinned (OpenSpec.ofChange summarySoundWrong)

/-- 'fenlandlaw14.SummaryRoundTrip': WHATEVER THE INPUT: true; the input reads as it did. -/
def summaryRoundTripSpec : ChangeSpec := { name := "summaryRoundTrip", fn := fun _ => fun
  | [d1, d2, d3] => { results := [.lit (.bool true)], args := [d1, d2, d3] }
  | _ => none }
def summaryRoundTripRow : OpenClaim := { program := "ytnoenipdooackaadoor", sum := "aa98ab08e3ab9ebdb2b094726aecdf2baf87efc3052eb96bad4d6a844d030b1f", func := "fenland/fenlandlaw14.SummaryRoundTrip", spec := "summaryRoundTrip", inPlace := ["internal/bytealg.abigen_runtime_cmpstring"], unfollowed := true, recurses := true, named := ["fenland/summary.null"], apart := false, laid := [("fenland/summary.null", laid_fenland_summary_null)] }
def SummaryRoundTripSaid : Prop := summaryRoundTripRow.holds Tryd.pinned (OpenSpec.ofChange summaryRoundTripSpec)

/-- ITS FALSE NEIGHBOUR: 'it returns false'. Refute it at one input. -/
def summaryRoundTripWrong : ChangeSpec := { name := "summaryRoundTrip", fn := fun _ => fun
  | [d1, d2, d3] => { results := [.lit (.bool false)], args := [d1, d2, d3] }
  | _ => none }
def SummaryRoundTripWrongFalsely : Prop := summaryRoundTripRow.holds Tryd.pinned (OpenSpec.ofChange summaryRoundTripWrong)

/-- 'fenlandlaw14.SummaryCovers': WHATEVER THE INPUT: true; the input reads as it did. -/
def summaryCoversSpec : ChangeSpec := { name := "summaryCovers", fn := fun _ => fun
  | [d1, d2] => { results := [.lit (.bool true)], args := [d1, d2] }
  | _ => none }
def summaryCoversRow : OpenClaim := { program := "ytnoenipdooackaadoor", sum := "aa98ab08e3ab9ebdb2b094726aecdf2baf87efc3052eb96bad4d6a844d030b1f", func := "fenland/fenlandlaw14.SummaryCovers", spec := "summaryCovers", inPlace := ["internal/bytealg.abigen_runtime_cmpstring"], unfollowed := true, recurses := true, named := ["fenland/summary.null"], apart := false, laid := [("fenland/summary.null", laid_fenland_summary_null)] }
def SummaryCoversSaid : Prop := summaryCoversRow.holds Tryd.pinned (OpenSpec.ofChange summaryCoversSpec)

/-- ITS FALSE NEIGHBOUR: 'it returns false'. Refute it at one input. -/
def summaryCoversWrong : ChangeSpec := { name := "summaryCovers", fn := fun _ => fun
  | [d1, d2] => { results := [.lit (.bool false)], args := [d1, d2] }
  | _ => none }
def SummaryCoversWrongFalsely : Prop := summaryCoversRow.holds Tryd.pinned (OpenSpec.ofChange summaryCoversWrong)

/-- 'fenlandlaw14.SummaryMerges': WHATEVER THE INPUT: true; the input reads as it did. -/
def summaryMergesSpec : ChangeSpec := { name := "summaryMerges", fn := fun _ => fun
  | [d1, d2] => { results := [.lit (.bool true)], args := [d1, d2] }
  | _ => none }
def summaryMergesRow : OpenClaim := { program := "ytnoenipdooackaadoor", sum := "aa98ab08e3ab9ebdb2b094726aecdf2baf87efc3052eb96bad4d6a844d030b1f", func := "fenland/fenlandlaw14.SummaryMerges", spec := "summaryMerges", inPlace := ["internal/bytealg.abigen_runtime_cmpstring"], unfollowed := true, recurses := true, named := ["fenland/summary.null"], apart := false, laid := [("fenland/summary.null", laid_fenland_summary_null)] }
def SummaryMergesSaid : Prop := summaryMergesRow.holds Tryd.pinned (OpenSpec.ofChange summaryMergesSpec)

/-- ITS FALSE NEIGHBOUR: 'it returns false'. Refute it at one input. -/
def summaryMergesWrong : ChangeSpec := { name := "summaryMerges", fn := fun _ => fun
  | [d1, d2] => { results := [.lit (.bool false)], args := [d1, d2] }
  | _ => none }
def SummaryMergesWrongFalsely : Prop := summaryMergesRow.holds Tryd.pinned (OpenSpec.ofChange summaryMergesWrong)

/-- 'fenlandlaw14.SummaryGrows': WHATEVER THE INPUT: true; the input reads as it did. -/
def summaryGrowsSpec : ChangeSpec := { name := "summaryGrows", fn := fun _ => fun
  | [d1, d2] => { results := [.lit (.bool true)], args := [d1, d2] }
  | _ => none }
def summaryGrowsRow : OpenClaim := { program := "ytnoenipdooackaadoor", sum := "aa98ab08e3ab9ebdb2b094726aecdf2baf87efc3052eb96bad4d6a844d030b1f", func := "fenland/fenlandlaw14.SummaryGrows", spec := "summaryGrows", inPlace := ["internal/bytealg.abigen_runtime_cmpstring"], unfollowed := true, recurses := true, named := ["fenland/summary.null"], loops := true, apart := false, laid := [("fenland/summary.null", laid_fenland_summary_null)] }
def SummaryGrowsSaid : Prop := summaryGrowsRow.holds Tryd.pinned (OpenSpec.ofChange summaryGrowsSpec)

/-- ITS FALSE NEIGHBOUR: 'it returns false'. Refute it at one input. -/
def summaryGrowsWrong : ChangeSpec := { name := "summaryGrows", fn := fun _ => fun
  | [d1, d2] => { results := [.lit (.bool false)], args := [d1, d2] }
  | _ => none }
def SummaryGrowsWrongFalsely : Prop := summaryGrowsRow.holds Tryd.pinned (OpenSpec.ofChange summaryGrowsWrong)

/- THE SECOND FORM. 'bulk': how many values and letters a reading holds, each counted each time it is reached (what is shared counts as often as it is met; a slice's spare places count too). A statement '..UptoSaid' is the law's where the arguments, and the package variables that the reading takes, are together of bulk at most 1048576: NARROWER than '..Said'. Prove '..Said' where nothing that the law and all that it calls make is longer than what came in: it says more and counts as full. Else prove '..UptoSaid'. A law counts once. -/
mutual
def uptoBulk {H : Type} : DataW H → Nat
  | .lit (.string bytes) => bytes.length + 1
  | .lit _ => 1
  | .nil => 1
  | .ptr d => uptoBulk d + 1
  | .slice elems spare => uptoBulkAll elems + uptoBulkAll spare + 1
  | .agg parts => uptoBulkAll parts + 1
  | .iface _ d => uptoBulk d + 1
  | .map entries => uptoBulkEntries entries + 1
  | .held _ => 1
def uptoBulkAll {H : Type} : List (DataW H) → Nat
  | [] => 0
  | d :: r => uptoBulk d + uptoBulkAll r
def uptoBulkEntries {H : Type} : List (Lit × DataW H) → Nat
  | [] => 0
  | x :: r => uptoBulkEntry x + uptoBulkEntries r
def uptoBulkEntry {H : Type} : Lit × DataW H → Nat
  | (.string bytes, d) => bytes.length + uptoBulk d + 1
  | (_, d) => uptoBulk d + 1
 end
def uptoSmall : (H : Type) → List (DataW H) → Bool := fun _ ds => decide (uptoBulkAll ds ≤ 1048576)
def OpenSpec.upto (s : _root_.Go.ChangeSpec) : _root_.Go.OpenSpec := { _root_.Go.OpenSpec.ofChange s with cond := some uptoSmall }

/-- 'fenlandlaw14.SummaryDecisionsMatchReference', WHERE WHAT IT READS IS OF BULK AT MOST 1048576: true; the input reads as it did. -/
def summaryDecisionsMatchReferenceUptoRow : OpenClaim := { program := "ytnoenipdooackaadoor", sum := "aa98ab08e3ab9ebdb2b094726aecdf2baf87efc3052eb96bad4d6a844d030b1f", func := "fenland/fenlandlaw14.SummaryDecisionsMatchReference", spec := "summaryDecisionsMatchReference", inPlace := ["internal/bytealg.abigen_runtime_cmpstring"], unfollowed := true, recurses := true, named := ["fenland/summary.null"], loops := true, apart := false, laid := [("fenland/summary.null", laid_fenland_summary_null)], narrowed := true }
def SummaryDecisionsMatchReferenceUptoSaid : Prop := summaryDecisionsMatchReferenceUptoRow.holds Tryd.pinned (OpenSpec.upto summaryDecisionsMatchReferenceSpec)

/-- 'fenlandlaw14.SummarySound', WHERE WHAT IT READS IS OF BULK AT MOST 1048576: true; the input reads as it did. -/
def summarySoundUptoRow : OpenClaim := { program := "ytnoenipdooackaadoor", sum := "aa98ab08e3ab9ebdb2b094726aecdf2baf87efc3052eb96bad4d6a844d030b1f", func := "fenland/fenlandlaw14.SummarySound", spec := "summarySound", inPlace := ["internal/bytealg.abigen_runtime_cmpstring"], unfollowed := true, recurses := true, named := ["fenland/summary.null"], loops := true, apart := false, laid := [("fenland/summary.null", laid_fenland_summary_null)], narrowed := true }
def SummarySoundUptoSaid : Prop := summarySoundUptoRow.holds Tryd.pinned (OpenSpec.upto summarySoundSpec)

/-- 'fenlandlaw14.SummaryRoundTrip', WHERE WHAT IT READS IS OF BULK AT MOST 1048576: true; the input reads as it did. -/
def summaryRoundTripUptoRow : OpenClaim := { program := "ytnoenipdooackaadoor", sum := "aa98ab08e3ab9ebdb2b094726aecdf2baf87efc3052eb96bad4d6a844d030b1f", func := "fenland/fenlandlaw14.SummaryRoundTrip", spec := "summaryRoundTrip", inPlace := ["internal/bytealg.abigen_runtime_cmpstring"], unfollowed := true, recurses := true, named := ["fenland/summary.null"], apart := false, laid := [("fenland/summary.null", laid_fenland_summary_null)], narrowed := true }
def SummaryRoundTripUptoSaid : Prop := summaryRoundTripUptoRow.holds Tryd.pinned (OpenSpec.upto summaryRoundTripSpec)

/-- 'fenlandlaw14.SummaryCovers', WHERE WHAT IT READS IS OF BULK AT MOST 1048576: true; the input reads as it did. -/
def summaryCoversUptoRow : OpenClaim := { program := "ytnoenipdooackaadoor", sum := "aa98ab08e3ab9ebdb2b094726aecdf2baf87efc3052eb96bad4d6a844d030b1f", func := "fenland/fenlandlaw14.SummaryCovers", spec := "summaryCovers", inPlace := ["internal/bytealg.abigen_runtime_cmpstring"], unfollowed := true, recurses := true, named := ["fenland/summary.null"], apart := false, laid := [("fenland/summary.null", laid_fenland_summary_null)], narrowed := true }
def SummaryCoversUptoSaid : Prop := summaryCoversUptoRow.holds Tryd.pinned (OpenSpec.upto summaryCoversSpec)

/-- 'fenlandlaw14.SummaryMerges', WHERE WHAT IT READS IS OF BULK AT MOST 1048576: true; the input reads as it did. -/
def summaryMergesUptoRow : OpenClaim := { program := "ytnoenipdooackaadoor", sum := "aa98ab08e3ab9ebdb2b094726aecdf2baf87efc3052eb96bad4d6a844d030b1f", func := "fenland/fenlandlaw14.SummaryMerges", spec := "summaryMerges", inPlace := ["internal/bytealg.abigen_runtime_cmpstring"], unfollowed := true, recurses := true, named := ["fenland/summary.null"], apart := false, laid := [("fenland/summary.null", laid_fenland_summary_null)], narrowed := true }
def SummaryMergesUptoSaid : Prop := summaryMergesUptoRow.holds Tryd.pinned (OpenSpec.upto summaryMergesSpec)

/-- 'fenlandlaw14.SummaryGrows', WHERE WHAT IT READS IS OF BULK AT MOST 1048576: true; the input reads as it did. -/
def summaryGrowsUptoRow : OpenClaim := { program := "ytnoenipdooackaadoor", sum := "aa98ab08e3ab9ebdb2b094726aecdf2baf87efc3052eb96bad4d6a844d030b1f", func := "fenland/fenlandlaw14.SummaryGrows", spec := "summaryGrows", inPlace := ["internal/bytealg.abigen_runtime_cmpstring"], unfollowed := true, recurses := true, named := ["fenland/summary.null"], loops := true, apart := false, laid := [("fenland/summary.null", laid_fenland_summary_null)], narrowed := true }
def SummaryGrowsUptoSaid : Prop := summaryGrowsUptoRow.holds Tryd.pinned (OpenSpec.upto summaryGrowsSpec)

end Rows
end Go.Proofs.YtnoenipdooackaaDoor
