/-
  NARROWER THAN 'FOR EVERY INPUT', by the rows' own cells (each row's printed sentence says how): PlanMatchesReference: loops · PlanNeededMatchesReference: loops · PlanComplete: loops · PlanMonotone: loops · PlanBest: loops.
  DERIVED. THE GIVEN ROWS OF THIS SEAT. 5 by the template 'for every input the law returns true; each argument reads behind the call as it read before'; 0 by the template 'total and deterministic' (their statements: YtgkfcgfobckaaaaTotals.lean).
  GIVEN WITH THE SEED: the statements are not yours to turn. If you find one false, say at which input.
  Laid BY PROGRAM, IN A SANDBOX (cutbox-rows.mjs): the forced cells as the released guide's own fill.sh prints them over the translation 6141c9013b6fd4f9… (all of the seat's roots in one cut). By AI agents, Wed Nov 11 2026. No macro, syntax, notation, axiom, sorry.
-/
import Derived.Test.YtgkfcgfobckaaaaChecked
import GoSem.Claim
import GoSem.ClaimJoined
import GoSem.ClaimMapViews
import Derived.JoinedTies
import Derived.KernelRfl
namespace Go.Proofs.Ytgkfcgfobckaaaa
/- THE CELL 'sum', in the pinned program and in every row, IS THE sha256 OF THE DUMP (.gsa) THAT YtgkfcgfobckaaaaProg.lean LOADS. Nothing in Lean hashes anything: it is a label: what it is worth is what the hold of that sum in a sandbox is worth. -/
noncomputable def Try.pinned : Pinned := { name := "ytgkfcgfobckaaaa", sum := "6141c9013b6fd4f99470bc6b0ff286e5fda831ce7bc7a428dcdafa5fe510a45a", checked := Try.checked }
namespace Rows
def none {H : Type} : Left H := { results := [], args := [] }

/-- 'fenlandlaw20.PlanMatchesReference': WHATEVER THE INPUT: true; the input reads as it did. -/
def planMatchesReferenceSpec : ChangeSpec := { name := "planMatchesReference", fn := fun _ => fun
  | [d1, d2] => { results := [.lit (.bool true)], args := [d1, d2] }
  | _ => none }
def planMatchesReferenceRow : OpenClaim := { program := "ytgkfcgfobckaaaa", sum := "6141c9013b6fd4f99470bc6b0ff286e5fda831ce7bc7a428dcdafa5fe510a45a", func := "fenland/fenlandlaw20.PlanMatchesReference", spec := "planMatchesReference", inPlace := ["internal/bytealg.abigen_runtime_cmpstring"], unfollowed := true, recurses := true, loops := true, apart := false }
def PlanMatchesReferenceSaid : Prop := planMatchesReferenceRow.holds Try.pinned (OpenSpec.ofChange planMatchesReferenceSpec)

/-- ITS FALSE NEIGHBOUR: 'it returns false'. Refute it at one input. -/
def planMatchesReferenceWrong : ChangeSpec := { name := "planMatchesReference", fn := fun _ => fun
  | [d1, d2] => { results := [.lit (.bool false)], args := [d1, d2] }
  | _ => none }
def PlanMatchesReferenceWrongFalsely : Prop := planMatchesReferenceRow.holds Try.pinned (OpenSpec.ofChange planMatchesReferenceWrong)

/-- 'fenlandlaw20.PlanNeededMatchesReference': WHATEVER THE INPUT: true; the input reads as it did. -/
def planNeededMatchesReferenceSpec : ChangeSpec := { name := "planNeededMatchesReference", fn := fun _ => fun
  | [d] => { results := [.lit (.bool true)], args := [d] }
  | _ => none }
def planNeededMatchesReferenceRow : OpenClaim := { program := "ytgkfcgfobckaaaa", sum := "6141c9013b6fd4f99470bc6b0ff286e5fda831ce7bc7a428dcdafa5fe510a45a", func := "fenland/fenlandlaw20.PlanNeededMatchesReference", spec := "planNeededMatchesReference", inPlace := ["internal/bytealg.abigen_runtime_cmpstring"], unfollowed := true, recurses := true, loops := true, apart := false }
def PlanNeededMatchesReferenceSaid : Prop := planNeededMatchesReferenceRow.holds Try.pinned (OpenSpec.ofChange planNeededMatchesReferenceSpec)

/-- ITS FALSE NEIGHBOUR: 'it returns false'. Refute it at one input. -/
def planNeededMatchesReferenceWrong : ChangeSpec := { name := "planNeededMatchesReference", fn := fun _ => fun
  | [d] => { results := [.lit (.bool false)], args := [d] }
  | _ => none }
def PlanNeededMatchesReferenceWrongFalsely : Prop := planNeededMatchesReferenceRow.holds Try.pinned (OpenSpec.ofChange planNeededMatchesReferenceWrong)

/-- 'fenlandlaw20.PlanComplete': WHATEVER THE INPUT: true; the input reads as it did. -/
def planCompleteSpec : ChangeSpec := { name := "planComplete", fn := fun _ => fun
  | [d1, d2, d3] => { results := [.lit (.bool true)], args := [d1, d2, d3] }
  | _ => none }
def planCompleteRow : OpenClaim := { program := "ytgkfcgfobckaaaa", sum := "6141c9013b6fd4f99470bc6b0ff286e5fda831ce7bc7a428dcdafa5fe510a45a", func := "fenland/fenlandlaw20.PlanComplete", spec := "planComplete", inPlace := ["internal/bytealg.abigen_runtime_cmpstring"], unfollowed := true, recurses := true, loops := true, apart := false }
def PlanCompleteSaid : Prop := planCompleteRow.holds Try.pinned (OpenSpec.ofChange planCompleteSpec)

/-- ITS FALSE NEIGHBOUR: 'it returns false'. Refute it at one input. -/
def planCompleteWrong : ChangeSpec := { name := "planComplete", fn := fun _ => fun
  | [d1, d2, d3] => { results := [.lit (.bool false)], args := [d1, d2, d3] }
  | _ => none }
def PlanCompleteWrongFalsely : Prop := planCompleteRow.holds Try.pinned (OpenSpec.ofChange planCompleteWrong)

/-- 'fenlandlaw20.PlanMonotone': WHATEVER THE INPUT: true; the input reads as it did. -/
def planMonotoneSpec : ChangeSpec := { name := "planMonotone", fn := fun _ => fun
  | [d1, d2, d3] => { results := [.lit (.bool true)], args := [d1, d2, d3] }
  | _ => none }
def planMonotoneRow : OpenClaim := { program := "ytgkfcgfobckaaaa", sum := "6141c9013b6fd4f99470bc6b0ff286e5fda831ce7bc7a428dcdafa5fe510a45a", func := "fenland/fenlandlaw20.PlanMonotone", spec := "planMonotone", inPlace := ["internal/bytealg.abigen_runtime_cmpstring"], unfollowed := true, recurses := true, loops := true, apart := false }
def PlanMonotoneSaid : Prop := planMonotoneRow.holds Try.pinned (OpenSpec.ofChange planMonotoneSpec)

/-- ITS FALSE NEIGHBOUR: 'it returns false'. Refute it at one input. -/
def planMonotoneWrong : ChangeSpec := { name := "planMonotone", fn := fun _ => fun
  | [d1, d2, d3] => { results := [.lit (.bool false)], args := [d1, d2, d3] }
  | _ => none }
def PlanMonotoneWrongFalsely : Prop := planMonotoneRow.holds Try.pinned (OpenSpec.ofChange planMonotoneWrong)

/-- 'fenlandlaw20.PlanBest': WHATEVER THE INPUT: true; the input reads as it did. -/
def planBestSpec : ChangeSpec := { name := "planBest", fn := fun _ => fun
  | [d1, d2] => { results := [.lit (.bool true)], args := [d1, d2] }
  | _ => none }
def planBestRow : OpenClaim := { program := "ytgkfcgfobckaaaa", sum := "6141c9013b6fd4f99470bc6b0ff286e5fda831ce7bc7a428dcdafa5fe510a45a", func := "fenland/fenlandlaw20.PlanBest", spec := "planBest", inPlace := ["internal/bytealg.abigen_runtime_cmpstring"], unfollowed := true, recurses := true, loops := true, apart := false }
def PlanBestSaid : Prop := planBestRow.holds Try.pinned (OpenSpec.ofChange planBestSpec)

/-- ITS FALSE NEIGHBOUR: 'it returns false'. Refute it at one input. -/
def planBestWrong : ChangeSpec := { name := "planBest", fn := fun _ => fun
  | [d1, d2] => { results := [.lit (.bool false)], args := [d1, d2] }
  | _ => none }
def PlanBestWrongFalsely : Prop := planBestRow.holds Try.pinned (OpenSpec.ofChange planBestWrong)

/- THE SECOND FORM. 'bulk': how many values and letters a reading holds, each counted each time it is reached (what is shared counts as often as it is met; a slice's spare places count too). A statement '..UptoSaid' is the law's where the arguments, and the package variables that the reading takes, are together of bulk at most 1048576: NARROWER than '..Said'. Prove '..Said' where nothing that the law and all that it calls make is longer than what came in: it says more and counts as full. Else prove '..UptoSaid'. A law counts once. -/
mutual
def uptoBulk {H : Type} : DataW H → Nat
  | .lit (.string bytes) => bytes.length + 1
  | .lit _ => 1
  | .nil => 1
  | .ptr d => uptoBulk d + 1
  | .slice elems spare => uptoBulkAll elems + uptoBulkAll spare + 1
  | .agg parts => uptoBulkAll parts + 1
  | .iface _ d => uptoBulk d + 1
  | .map entries => uptoBulkEntries entries + 1
  | .held _ => 1
def uptoBulkAll {H : Type} : List (DataW H) → Nat
  | [] => 0
  | d :: r => uptoBulk d + uptoBulkAll r
def uptoBulkEntries {H : Type} : List (Lit × DataW H) → Nat
  | [] => 0
  | x :: r => uptoBulkEntry x + uptoBulkEntries r
def uptoBulkEntry {H : Type} : Lit × DataW H → Nat
  | (.string bytes, d) => bytes.length + uptoBulk d + 1
  | (_, d) => uptoBulk d + 1
 end
def uptoSmall : (H : Type) → List (DataW H) → Bool := fun _ ds => decide (uptoBulkAll ds ≤ 1048576)
def OpenSpec.upto (s : _root_.Go.ChangeSpec) : _root_.Go.OpenSpec := { _root_.Go.OpenSpec.ofChange s with cond := some uptoSmall }

/-- 'fenlandlaw20.PlanMatchesReference', WHERE WHAT IT READS IS OF BULK AT MOST 1048576: true; the input reads as it did. -/
def planMatchesReferenceUptoRow : OpenClaim := { program := "ytgkfcgfobckaaaa", sum := "6141c9013b6fd4f99470bc6b0ff286e5fda831ce7bc7a428dcdafa5fe510a45a", func := "fenland/fenlandlaw20.PlanMatchesReference", spec := "planMatchesReference", inPlace := ["internal/bytealg.abigen_runtime_cmpstring"], unfollowed := true, recurses := true, loops := true, apart := false, narrowed := true }
def PlanMatchesReferenceUptoSaid : Prop := planMatchesReferenceUptoRow.holds Try.pinned (OpenSpec.upto planMatchesReferenceSpec)

/-- 'fenlandlaw20.PlanNeededMatchesReference', WHERE WHAT IT READS IS OF BULK AT MOST 1048576: true; the input reads as it did. -/
def planNeededMatchesReferenceUptoRow : OpenClaim := { program := "ytgkfcgfobckaaaa", sum := "6141c9013b6fd4f99470bc6b0ff286e5fda831ce7bc7a428dcdafa5fe510a45a", func := "fenland/fenlandlaw20.PlanNeededMatchesReference", spec := "planNeededMatchesReference", inPlace := ["internal/bytealg.abigen_runtime_cmpstring"], unfollowed := true, recurses := true, loops := true, apart := false, narrowed := true }
def PlanNeededMatchesReferenceUptoSaid : Prop := planNeededMatchesReferenceUptoRow.holds Try.pinned (OpenSpec.upto planNeededMatchesReferenceSpec)

/-- 'fenlandlaw20.PlanComplete', WHERE WHAT IT READS IS OF BULK AT MOST 1048576: true; the input reads as it did. -/
def planCompleteUptoRow : OpenClaim := { program := "ytgkfcgfobckaaaa", sum := "6141c9013b6fd4f99470bc6b0ff286e5fda831ce7bc7a428dcdafa5fe510a45a", func := "fenland/fenlandlaw20.PlanComplete", spec := "planComplete", inPlace := ["internal/bytealg.abigen_runtime_cmpstring"], unfollowed := true, recurses := true, loops := true, apart := false, narrowed := true }
def PlanCompleteUptoSaid : Prop := planCompleteUptoRow.holds Try.pinned (OpenSpec.upto planCompleteSpec)

/-- 'fenlandlaw20.PlanMonotone', WHERE WHAT IT READS IS OF BULK AT MOST 1048576: true; the input reads as it did. -/
def planMonotoneUptoRow : OpenClaim := { program := "ytgkfcgfobckaaaa", sum := "6141c9013b6fd4f99470bc6b0ff286e5fda831ce7bc7a428dcdafa5fe510a45a", func := "fenland/fenlandlaw20.PlanMonotone", spec := "planMonotone", inPlace := ["internal/bytealg.abigen_runtime_cmpstring"], unfollowed := true, recurses := true, loops := true, apart := false, narrowed := true }
def PlanMonotoneUptoSaid : Prop := planMonotoneUptoRow.holds Try.pinned (OpenSpec.upto planMonotoneSpec)

/-- 'fenlandlaw20.PlanBest', WHERE WHAT IT READS IS OF BULK AT MOST 1048576: true; the input reads as it did. -/
def planBestUptoRow : OpenClaim := { program := "ytgkfcgfobckaaaa", sum := "6141c9013b6fd4f99470bc6b0ff286e5fda831ce7bc7a428dcdafa5fe510a45a", func := "fenland/fenlandlaw20.PlanBest", spec := "planBest", inPlace := ["internal/bytealg.abigen_runtime_cmpstring"], unfollowed := true, recurses := true, loops := true, apart := false, narrowed := true }
def PlanBestUptoSaid : Prop := planBestUptoRow.holds Try.pinned (OpenSpec.upto planBestSpec)

end Rows
end Go.Proofs.Ytgkfcgfobckaaaa
