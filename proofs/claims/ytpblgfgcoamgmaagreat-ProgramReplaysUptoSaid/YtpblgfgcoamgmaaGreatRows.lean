/-
  NARROWER THAN 'FOR EVERY INPUT', by the rows' own cells (each row's printed sentence says how): ProgramKeepsRows: loops · ProgramGuards: loops · ProgramRoundTrip: loops · ProgramReplays: loops · ProgramEventsExplain: loops · ProgramMatchesReference: loops.
  DERIVED. THE GIVEN ROWS OF THIS SEAT. 6 by the template 'for every input the law returns true; each argument reads behind the call as it read before'; 0 by the template 'total and deterministic' (their statements: YtpblgfgcoamgmaaGreatTotals.lean).
  GIVEN WITH THE SEED: the statements are not yours to turn. If you find one false, say at which input.
  Laid BY PROGRAM, IN A SANDBOX (cutbox-rows.mjs): the forced cells as the released guide's own fill.sh prints them over the translation 0e8062ed0afe7b76… (all of the seat's roots in one cut). By AI agents, Wed Nov 11 2026. No macro, syntax, notation, axiom, sorry.
-/
import Derived.Test.YtpblgfgcoamgmaaGreatChecked
import GoSem.Claim
import GoSem.ClaimJoined
import GoSem.ClaimMapViews
import Derived.JoinedTies
import Derived.KernelRfl
namespace Go.Proofs.YtpblgfgcoamgmaaGreat
/- THE CELL 'sum', in the pinned program and in every row, IS THE sha256 OF THE DUMP (.gsa) THAT YtpblgfgcoamgmaaGreatProg.lean LOADS. Nothing in Lean hashes anything: it is a label: what it is worth is what the hold of that sum in a sandbox is worth. -/
noncomputable def Tryz.pinned : Pinned := { name := "ytpblgfgcoamgmaagreat", sum := "0e8062ed0afe7b7643472f5f7f3959412876f3aa249a1699665f16b27e643bbe", checked := Tryz.checked }
namespace Rows
def none {H : Type} : Left H := { results := [], args := [] }

/-- 'fenlandlaw27.ProgramKeepsRows': WHATEVER THE INPUT: true; the input reads as it did. -/
def programKeepsRowsSpec : ChangeSpec := { name := "programKeepsRows", fn := fun _ => fun
  | [d] => { results := [.lit (.bool true)], args := [d] }
  | _ => none }
def programKeepsRowsRow : OpenClaim := { program := "ytpblgfgcoamgmaagreat", sum := "0e8062ed0afe7b7643472f5f7f3959412876f3aa249a1699665f16b27e643bbe", func := "fenland/fenlandlaw27.ProgramKeepsRows", spec := "programKeepsRows", unfollowed := true, recurses := true, loops := true, plainKeys := false, apart := false }
def ProgramKeepsRowsSaid : Prop := programKeepsRowsRow.holds Tryz.pinned (OpenSpec.ofChange programKeepsRowsSpec)

/-- ITS FALSE NEIGHBOUR: 'it returns false'. Refute it at one input. -/
def programKeepsRowsWrong : ChangeSpec := { name := "programKeepsRows", fn := fun _ => fun
  | [d] => { results := [.lit (.bool false)], args := [d] }
  | _ => none }
def ProgramKeepsRowsWrongFalsely : Prop := programKeepsRowsRow.holds Tryz.pinned (OpenSpec.ofChange programKeepsRowsWrong)

/-- 'fenlandlaw27.ProgramGuards': WHATEVER THE INPUT: true; the input reads as it did. -/
def programGuardsSpec : ChangeSpec := { name := "programGuards", fn := fun _ => fun
  | [d] => { results := [.lit (.bool true)], args := [d] }
  | _ => none }
def programGuardsRow : OpenClaim := { program := "ytpblgfgcoamgmaagreat", sum := "0e8062ed0afe7b7643472f5f7f3959412876f3aa249a1699665f16b27e643bbe", func := "fenland/fenlandlaw27.ProgramGuards", spec := "programGuards", unfollowed := true, recurses := true, loops := true, plainKeys := false, apart := false }
def ProgramGuardsSaid : Prop := programGuardsRow.holds Tryz.pinned (OpenSpec.ofChange programGuardsSpec)

/-- ITS FALSE NEIGHBOUR: 'it returns false'. Refute it at one input. -/
def programGuardsWrong : ChangeSpec := { name := "programGuards", fn := fun _ => fun
  | [d] => { results := [.lit (.bool false)], args := [d] }
  | _ => none }
def ProgramGuardsWrongFalsely : Prop := programGuardsRow.holds Tryz.pinned (OpenSpec.ofChange programGuardsWrong)

/-- 'fenlandlaw27.ProgramRoundTrip': WHATEVER THE INPUT: true; the input reads as it did. -/
def programRoundTripSpec : ChangeSpec := { name := "programRoundTrip", fn := fun _ => fun
  | [d1, d2] => { results := [.lit (.bool true)], args := [d1, d2] }
  | _ => none }
def programRoundTripRow : OpenClaim := { program := "ytpblgfgcoamgmaagreat", sum := "0e8062ed0afe7b7643472f5f7f3959412876f3aa249a1699665f16b27e643bbe", func := "fenland/fenlandlaw27.ProgramRoundTrip", spec := "programRoundTrip", unfollowed := true, recurses := true, loops := true, plainKeys := false, apart := false }
def ProgramRoundTripSaid : Prop := programRoundTripRow.holds Tryz.pinned (OpenSpec.ofChange programRoundTripSpec)

/-- ITS FALSE NEIGHBOUR: 'it returns false'. Refute it at one input. -/
def programRoundTripWrong : ChangeSpec := { name := "programRoundTrip", fn := fun _ => fun
  | [d1, d2] => { results := [.lit (.bool false)], args := [d1, d2] }
  | _ => none }
def ProgramRoundTripWrongFalsely : Prop := programRoundTripRow.holds Tryz.pinned (OpenSpec.ofChange programRoundTripWrong)

/-- 'fenlandlaw27.ProgramReplays': WHATEVER THE INPUT: true; the input reads as it did. -/
def programReplaysSpec : ChangeSpec := { name := "programReplays", fn := fun _ => fun
  | [d1, d2] => { results := [.lit (.bool true)], args := [d1, d2] }
  | _ => none }
def programReplaysRow : OpenClaim := { program := "ytpblgfgcoamgmaagreat", sum := "0e8062ed0afe7b7643472f5f7f3959412876f3aa249a1699665f16b27e643bbe", func := "fenland/fenlandlaw27.ProgramReplays", spec := "programReplays", unfollowed := true, recurses := true, loops := true, plainKeys := false, apart := false }
def ProgramReplaysSaid : Prop := programReplaysRow.holds Tryz.pinned (OpenSpec.ofChange programReplaysSpec)

/-- ITS FALSE NEIGHBOUR: 'it returns false'. Refute it at one input. -/
def programReplaysWrong : ChangeSpec := { name := "programReplays", fn := fun _ => fun
  | [d1, d2] => { results := [.lit (.bool false)], args := [d1, d2] }
  | _ => none }
def ProgramReplaysWrongFalsely : Prop := programReplaysRow.holds Tryz.pinned (OpenSpec.ofChange programReplaysWrong)

/-- 'fenlandlaw27.ProgramEventsExplain': WHATEVER THE INPUT: true; the input reads as it did. -/
def programEventsExplainSpec : ChangeSpec := { name := "programEventsExplain", fn := fun _ => fun
  | [d] => { results := [.lit (.bool true)], args := [d] }
  | _ => none }
def programEventsExplainRow : OpenClaim := { program := "ytpblgfgcoamgmaagreat", sum := "0e8062ed0afe7b7643472f5f7f3959412876f3aa249a1699665f16b27e643bbe", func := "fenland/fenlandlaw27.ProgramEventsExplain", spec := "programEventsExplain", unfollowed := true, recurses := true, loops := true, plainKeys := false, apart := false }
def ProgramEventsExplainSaid : Prop := programEventsExplainRow.holds Tryz.pinned (OpenSpec.ofChange programEventsExplainSpec)

/-- ITS FALSE NEIGHBOUR: 'it returns false'. Refute it at one input. -/
def programEventsExplainWrong : ChangeSpec := { name := "programEventsExplain", fn := fun _ => fun
  | [d] => { results := [.lit (.bool false)], args := [d] }
  | _ => none }
def ProgramEventsExplainWrongFalsely : Prop := programEventsExplainRow.holds Tryz.pinned (OpenSpec.ofChange programEventsExplainWrong)

/-- 'fenlandlaw27.ProgramMatchesReference': WHATEVER THE INPUT: true; the input reads as it did. -/
def programMatchesReferenceSpec : ChangeSpec := { name := "programMatchesReference", fn := fun _ => fun
  | [d] => { results := [.lit (.bool true)], args := [d] }
  | _ => none }
def programMatchesReferenceRow : OpenClaim := { program := "ytpblgfgcoamgmaagreat", sum := "0e8062ed0afe7b7643472f5f7f3959412876f3aa249a1699665f16b27e643bbe", func := "fenland/fenlandlaw27.ProgramMatchesReference", spec := "programMatchesReference", inPlace := ["internal/bytealg.abigen_runtime_cmpstring"], unfollowed := true, recurses := true, loops := true, plainKeys := false, apart := false }
def ProgramMatchesReferenceSaid : Prop := programMatchesReferenceRow.holds Tryz.pinned (OpenSpec.ofChange programMatchesReferenceSpec)

/-- ITS FALSE NEIGHBOUR: 'it returns false'. Refute it at one input. -/
def programMatchesReferenceWrong : ChangeSpec := { name := "programMatchesReference", fn := fun _ => fun
  | [d] => { results := [.lit (.bool false)], args := [d] }
  | _ => none }
def ProgramMatchesReferenceWrongFalsely : Prop := programMatchesReferenceRow.holds Tryz.pinned (OpenSpec.ofChange programMatchesReferenceWrong)

/- THE SECOND FORM. 'bulk': how many values and letters a reading holds, each counted each time it is reached (what is shared counts as often as it is met; a slice's spare places count too). A statement '..UptoSaid' is the law's where the arguments, and the package variables that the reading takes, are together of bulk at most 1048576: NARROWER than '..Said'. Prove '..Said' where nothing that the law and all that it calls make is longer than what came in: it says more and counts as full. Else prove '..UptoSaid'. A law counts once. -/
mutual
def uptoBulk {H : Type} : DataW H → Nat
  | .lit (.string bytes) => bytes.length + 1
  | .lit _ => 1
  | .nil => 1
  | .ptr d => uptoBulk d + 1
  | .slice elems spare => uptoBulkAll elems + uptoBulkAll spare + 1
  | .agg parts => uptoBulkAll parts + 1
  | .iface _ d => uptoBulk d + 1
  | .map entries => uptoBulkEntries entries + 1
  | .held _ => 1
def uptoBulkAll {H : Type} : List (DataW H) → Nat
  | [] => 0
  | d :: r => uptoBulk d + uptoBulkAll r
def uptoBulkEntries {H : Type} : List (Lit × DataW H) → Nat
  | [] => 0
  | x :: r => uptoBulkEntry x + uptoBulkEntries r
def uptoBulkEntry {H : Type} : Lit × DataW H → Nat
  | (.string bytes, d) => bytes.length + uptoBulk d + 1
  | (_, d) => uptoBulk d + 1
 end
def uptoSmall : (H : Type) → List (DataW H) → Bool := fun _ ds => decide (uptoBulkAll ds ≤ 1048576)
def OpenSpec.upto (s : _root_.Go.ChangeSpec) : _root_.Go.OpenSpec := { _root_.Go.OpenSpec.ofChange s with cond := some uptoSmall }

/-- 'fenlandlaw27.ProgramKeepsRows', WHERE WHAT IT READS IS OF BULK AT MOST 1048576: true; the input reads as it did. -/
def programKeepsRowsUptoRow : OpenClaim := { program := "ytpblgfgcoamgmaagreat", sum := "0e8062ed0afe7b7643472f5f7f3959412876f3aa249a1699665f16b27e643bbe", func := "fenland/fenlandlaw27.ProgramKeepsRows", spec := "programKeepsRows", unfollowed := true, recurses := true, loops := true, plainKeys := false, apart := false, narrowed := true }
def ProgramKeepsRowsUptoSaid : Prop := programKeepsRowsUptoRow.holds Tryz.pinned (OpenSpec.upto programKeepsRowsSpec)

/-- 'fenlandlaw27.ProgramGuards', WHERE WHAT IT READS IS OF BULK AT MOST 1048576: true; the input reads as it did. -/
def programGuardsUptoRow : OpenClaim := { program := "ytpblgfgcoamgmaagreat", sum := "0e8062ed0afe7b7643472f5f7f3959412876f3aa249a1699665f16b27e643bbe", func := "fenland/fenlandlaw27.ProgramGuards", spec := "programGuards", unfollowed := true, recurses := true, loops := true, plainKeys := false, apart := false, narrowed := true }
def ProgramGuardsUptoSaid : Prop := programGuardsUptoRow.holds Tryz.pinned (OpenSpec.upto programGuardsSpec)

/-- 'fenlandlaw27.ProgramRoundTrip', WHERE WHAT IT READS IS OF BULK AT MOST 1048576: true; the input reads as it did. -/
def programRoundTripUptoRow : OpenClaim := { program := "ytpblgfgcoamgmaagreat", sum := "0e8062ed0afe7b7643472f5f7f3959412876f3aa249a1699665f16b27e643bbe", func := "fenland/fenlandlaw27.ProgramRoundTrip", spec := "programRoundTrip", unfollowed := true, recurses := true, loops := true, plainKeys := false, apart := false, narrowed := true }
def ProgramRoundTripUptoSaid : Prop := programRoundTripUptoRow.holds Tryz.pinned (OpenSpec.upto programRoundTripSpec)

/-- 'fenlandlaw27.ProgramReplays', WHERE WHAT IT READS IS OF BULK AT MOST 1048576: true; the input reads as it did. -/
def programReplaysUptoRow : OpenClaim := { program := "ytpblgfgcoamgmaagreat", sum := "0e8062ed0afe7b7643472f5f7f3959412876f3aa249a1699665f16b27e643bbe", func := "fenland/fenlandlaw27.ProgramReplays", spec := "programReplays", unfollowed := true, recurses := true, loops := true, plainKeys := false, apart := false, narrowed := true }
def ProgramReplaysUptoSaid : Prop := programReplaysUptoRow.holds Tryz.pinned (OpenSpec.upto programReplaysSpec)

/-- 'fenlandlaw27.ProgramEventsExplain', WHERE WHAT IT READS IS OF BULK AT MOST 1048576: true; the input reads as it did. -/
def programEventsExplainUptoRow : OpenClaim := { program := "ytpblgfgcoamgmaagreat", sum := "0e8062ed0afe7b7643472f5f7f3959412876f3aa249a1699665f16b27e643bbe", func := "fenland/fenlandlaw27.ProgramEventsExplain", spec := "programEventsExplain", unfollowed := true, recurses := true, loops := true, plainKeys := false, apart := false, narrowed := true }
def ProgramEventsExplainUptoSaid : Prop := programEventsExplainUptoRow.holds Tryz.pinned (OpenSpec.upto programEventsExplainSpec)

/-- 'fenlandlaw27.ProgramMatchesReference', WHERE WHAT IT READS IS OF BULK AT MOST 1048576: true; the input reads as it did. -/
def programMatchesReferenceUptoRow : OpenClaim := { program := "ytpblgfgcoamgmaagreat", sum := "0e8062ed0afe7b7643472f5f7f3959412876f3aa249a1699665f16b27e643bbe", func := "fenland/fenlandlaw27.ProgramMatchesReference", spec := "programMatchesReference", inPlace := ["internal/bytealg.abigen_runtime_cmpstring"], unfollowed := true, recurses := true, loops := true, plainKeys := false, apart := false, narrowed := true }
def ProgramMatchesReferenceUptoSaid : Prop := programMatchesReferenceUptoRow.holds Tryz.pinned (OpenSpec.upto programMatchesReferenceSpec)

end Rows
end Go.Proofs.YtpblgfgcoamgmaaGreat
