/-
  NARROWER THAN 'FOR EVERY INPUT', by the rows' own cells (each row's printed sentence says how): PredMatchesReference: loops · PredValidMatchesReference: loops · PredCodecMatchesReference: loops.
  DERIVED. THE GIVEN ROWS OF THIS SEAT. 3 by the template 'for every input the law returns true; each argument reads behind the call as it read before'; 0 by the template 'total and deterministic' (their statements: YtbfkhepfgibonaaGreatTotals.lean).
  GIVEN WITH THE SEED: the statements are not yours to turn. If you find one false, say at which input.
  Laid BY PROGRAM, IN A SANDBOX (cutbox-rows.mjs): the forced cells as the released guide's own fill.sh prints them over the translation 716ac9c4f3da3053… (all of the seat's roots in one cut). By AI agents, Wed Nov 11 2026. No macro, syntax, notation, axiom, sorry.
-/
import Derived.Test.YtbfkhepfgibonaaGreatChecked
import GoSem.Claim
import GoSem.ClaimJoined
import GoSem.ClaimMapViews
import Derived.JoinedTies
import Derived.KernelRfl
namespace Go.Proofs.YtbfkhepfgibonaaGreat
/- THE CELL 'sum', in the pinned program and in every row, IS THE sha256 OF THE DUMP (.gsa) THAT YtbfkhepfgibonaaGreatProg.lean LOADS. Nothing in Lean hashes anything: it is a label: what it is worth is what the hold of that sum in a sandbox is worth. -/
noncomputable def Tryz.pinned : Pinned := { name := "ytbfkhepfgibonaagreat", sum := "716ac9c4f3da30530a4ec5f16cb493035d1e0cbb6ebd2aa01f7e48727869d4fe", checked := Tryz.checked }
namespace Rows
def none {H : Type} : Left H := { results := [], args := [] }

/-- 'fenlandlaw08.PredMatchesReference': WHATEVER THE INPUT: true; the input reads as it did. -/
def predMatchesReferenceSpec : ChangeSpec := { name := "predMatchesReference", fn := fun _ => fun
  | [d1, d2] => { results := [.lit (.bool true)], args := [d1, d2] }
  | _ => none }
def predMatchesReferenceRow : OpenClaim := { program := "ytbfkhepfgibonaagreat", sum := "716ac9c4f3da30530a4ec5f16cb493035d1e0cbb6ebd2aa01f7e48727869d4fe", func := "fenland/fenlandlaw08.PredMatchesReference", spec := "predMatchesReference", inPlace := ["internal/bytealg.abigen_runtime_cmpstring"], unfollowed := true, recurses := true, loops := true, apart := false }
def PredMatchesReferenceSaid : Prop := predMatchesReferenceRow.holds Tryz.pinned (OpenSpec.ofChange predMatchesReferenceSpec)

/-- ITS FALSE NEIGHBOUR: 'it returns false'. Refute it at one input. -/
def predMatchesReferenceWrong : ChangeSpec := { name := "predMatchesReference", fn := fun _ => fun
  | [d1, d2] => { results := [.lit (.bool false)], args := [d1, d2] }
  | _ => none }
def PredMatchesReferenceWrongFalsely : Prop := predMatchesReferenceRow.holds Tryz.pinned (OpenSpec.ofChange predMatchesReferenceWrong)

/-- 'fenlandlaw08.PredValidMatchesReference': WHATEVER THE INPUT: true; the input reads as it did. -/
def predValidMatchesReferenceSpec : ChangeSpec := { name := "predValidMatchesReference", fn := fun _ => fun
  | [d1, d2] => { results := [.lit (.bool true)], args := [d1, d2] }
  | _ => none }
def predValidMatchesReferenceRow : OpenClaim := { program := "ytbfkhepfgibonaagreat", sum := "716ac9c4f3da30530a4ec5f16cb493035d1e0cbb6ebd2aa01f7e48727869d4fe", func := "fenland/fenlandlaw08.PredValidMatchesReference", spec := "predValidMatchesReference", inPlace := ["internal/bytealg.abigen_runtime_cmpstring"], unfollowed := true, recurses := true, loops := true, apart := false }
def PredValidMatchesReferenceSaid : Prop := predValidMatchesReferenceRow.holds Tryz.pinned (OpenSpec.ofChange predValidMatchesReferenceSpec)

/-- ITS FALSE NEIGHBOUR: 'it returns false'. Refute it at one input. -/
def predValidMatchesReferenceWrong : ChangeSpec := { name := "predValidMatchesReference", fn := fun _ => fun
  | [d1, d2] => { results := [.lit (.bool false)], args := [d1, d2] }
  | _ => none }
def PredValidMatchesReferenceWrongFalsely : Prop := predValidMatchesReferenceRow.holds Tryz.pinned (OpenSpec.ofChange predValidMatchesReferenceWrong)

/-- 'fenlandlaw08.PredCodecMatchesReference': WHATEVER THE INPUT: true; the input reads as it did. -/
def predCodecMatchesReferenceSpec : ChangeSpec := { name := "predCodecMatchesReference", fn := fun _ => fun
  | [d1, d2, d3] => { results := [.lit (.bool true)], args := [d1, d2, d3] }
  | _ => none }
def predCodecMatchesReferenceRow : OpenClaim := { program := "ytbfkhepfgibonaagreat", sum := "716ac9c4f3da30530a4ec5f16cb493035d1e0cbb6ebd2aa01f7e48727869d4fe", func := "fenland/fenlandlaw08.PredCodecMatchesReference", spec := "predCodecMatchesReference", inPlace := ["internal/bytealg.abigen_runtime_cmpstring"], unfollowed := true, recurses := true, loops := true, apart := false }
def PredCodecMatchesReferenceSaid : Prop := predCodecMatchesReferenceRow.holds Tryz.pinned (OpenSpec.ofChange predCodecMatchesReferenceSpec)

/-- ITS FALSE NEIGHBOUR: 'it returns false'. Refute it at one input. -/
def predCodecMatchesReferenceWrong : ChangeSpec := { name := "predCodecMatchesReference", fn := fun _ => fun
  | [d1, d2, d3] => { results := [.lit (.bool false)], args := [d1, d2, d3] }
  | _ => none }
def PredCodecMatchesReferenceWrongFalsely : Prop := predCodecMatchesReferenceRow.holds Tryz.pinned (OpenSpec.ofChange predCodecMatchesReferenceWrong)

/- THE SECOND FORM. 'bulk': how many values and letters a reading holds, each counted each time it is reached (what is shared counts as often as it is met; a slice's spare places count too). A statement '..UptoSaid' is the law's where the arguments, and the package variables that the reading takes, are together of bulk at most 1048576: NARROWER than '..Said'. Prove '..Said' where nothing that the law and all that it calls make is longer than what came in: it says more and counts as full. Else prove '..UptoSaid'. A law counts once. -/
mutual
def uptoBulk {H : Type} : DataW H → Nat
  | .lit (.string bytes) => bytes.length + 1
  | .lit _ => 1
  | .nil => 1
  | .ptr d => uptoBulk d + 1
  | .slice elems spare => uptoBulkAll elems + uptoBulkAll spare + 1
  | .agg parts => uptoBulkAll parts + 1
  | .iface _ d => uptoBulk d + 1
  | .map entries => uptoBulkEntries entries + 1
  | .held _ => 1
def uptoBulkAll {H : Type} : List (DataW H) → Nat
  | [] => 0
  | d :: r => uptoBulk d + uptoBulkAll r
def uptoBulkEntries {H : Type} : List (Lit × DataW H) → Nat
  | [] => 0
  | x :: r => uptoBulkEntry x + uptoBulkEntries r
def uptoBulkEntry {H : Type} : Lit × DataW H → Nat
  | (.string bytes, d) => bytes.length + uptoBulk d + 1
  | (_, d) => uptoBulk d + 1
 end
def uptoSmall : (H : Type) → List (DataW H) → Bool := fun _ ds => decide (uptoBulkAll ds ≤ 1048576)
def OpenSpec.upto (s : _root_.Go.ChangeSpec) : _root_.Go.OpenSpec := { _root_.Go.OpenSpec.ofChange s with cond := some uptoSmall }

/-- 'fenlandlaw08.PredMatchesReference', WHERE WHAT IT READS IS OF BULK AT MOST 1048576: true; the input reads as it did. -/
def predMatchesReferenceUptoRow : OpenClaim := { program := "ytbfkhepfgibonaagreat", sum := "716ac9c4f3da30530a4ec5f16cb493035d1e0cbb6ebd2aa01f7e48727869d4fe", func := "fenland/fenlandlaw08.PredMatchesReference", spec := "predMatchesReference", inPlace := ["internal/bytealg.abigen_runtime_cmpstring"], unfollowed := true, recurses := true, loops := true, apart := false, narrowed := true }
def PredMatchesReferenceUptoSaid : Prop := predMatchesReferenceUptoRow.holds Tryz.pinned (OpenSpec.upto predMatchesReferenceSpec)

/-- 'fenlandlaw08.PredValidMatchesReference', WHERE WHAT IT READS IS OF BULK AT MOST 1048576: true; the input reads as it did. -/
def predValidMatchesReferenceUptoRow : OpenClaim := { program := "ytbfkhepfgibonaagreat", sum := "716ac9c4f3da30530a4ec5f16cb493035d1e0cbb6ebd2aa01f7e48727869d4fe", func := "fenland/fenlandlaw08.PredValidMatchesReference", spec := "predValidMatchesReference", inPlace := ["internal/bytealg.abigen_runtime_cmpstring"], unfollowed := true, recurses := true, loops := true, apart := false, narrowed := true }
def PredValidMatchesReferenceUptoSaid : Prop := predValidMatchesReferenceUptoRow.holds Tryz.pinned (OpenSpec.upto predValidMatchesReferenceSpec)

/-- 'fenlandlaw08.PredCodecMatchesReference', WHERE WHAT IT READS IS OF BULK AT MOST 1048576: true; the input reads as it did. -/
def predCodecMatchesReferenceUptoRow : OpenClaim := { program := "ytbfkhepfgibonaagreat", sum := "716ac9c4f3da30530a4ec5f16cb493035d1e0cbb6ebd2aa01f7e48727869d4fe", func := "fenland/fenlandlaw08.PredCodecMatchesReference", spec := "predCodecMatchesReference", inPlace := ["internal/bytealg.abigen_runtime_cmpstring"], unfollowed := true, recurses := true, loops := true, apart := false, narrowed := true }
def PredCodecMatchesReferenceUptoSaid : Prop := predCodecMatchesReferenceUptoRow.holds Tryz.pinned (OpenSpec.upto predCodecMatchesReferenceSpec)

end Rows
end Go.Proofs.YtbfkhepfgibonaaGreat
