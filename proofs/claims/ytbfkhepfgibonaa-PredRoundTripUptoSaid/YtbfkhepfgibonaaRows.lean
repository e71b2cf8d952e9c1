/-
  NARROWER THAN 'FOR EVERY INPUT', by the rows' own cells (each row's printed sentence says how): PredLogic: loops · PredLocal: loops · PredMissing: loops · PredRoundTrip: loops · PredAtoms: loops.
  DERIVED. THE GIVEN ROWS OF THIS SEAT. 5 by the template 'for every input the law returns true; each argument reads behind the call as it read before'; 0 by the template 'total and deterministic' (their statements: YtbfkhepfgibonaaTotals.lean).
  GIVEN WITH THE SEED: the statements are not yours to turn. If you find one false, say at which input.
  Laid BY PROGRAM, IN A SANDBOX (cutbox-rows.mjs): the forced cells as the released guide's own fill.sh prints them over the translation 258aec248cb293e1… (all of the seat's roots in one cut). By AI agents, Wed Nov 11 2026. No macro, syntax, notation, axiom, sorry.
-/
import Derived.Test.YtbfkhepfgibonaaChecked
import GoSem.Claim
import GoSem.ClaimJoined
import GoSem.ClaimMapViews
import Derived.JoinedTies
import Derived.KernelRfl
namespace Go.Proofs.Ytbfkhepfgibonaa
/- THE CELL 'sum', in the pinned program and in every row, IS THE sha256 OF THE DUMP (.gsa) THAT YtbfkhepfgibonaaProg.lean LOADS. Nothing in Lean hashes anything: it is a label: what it is worth is what the hold of that sum in a sandbox is worth. -/
noncomputable def Try.pinned : Pinned := { name := "ytbfkhepfgibonaa", sum := "258aec248cb293e1e50170d811f3f2f7b352d18ad7d04b74384c076439114efa", checked := Try.checked }
namespace Rows
def none {H : Type} : Left H := { results := [], args := [] }

/-- 'fenlandlaw08.PredLogic': WHATEVER THE INPUT: true; the input reads as it did. -/
def predLogicSpec : ChangeSpec := { name := "predLogic", fn := fun _ => fun
  | [d1, d2] => { results := [.lit (.bool true)], args := [d1, d2] }
  | _ => none }
def predLogicRow : OpenClaim := { program := "ytbfkhepfgibonaa", sum := "258aec248cb293e1e50170d811f3f2f7b352d18ad7d04b74384c076439114efa", func := "fenland/fenlandlaw08.PredLogic", spec := "predLogic", inPlace := ["internal/bytealg.abigen_runtime_cmpstring"], unfollowed := true, recurses := true, loops := true, apart := false }
def PredLogicSaid : Prop := predLogicRow.holds Try.pinned (OpenSpec.ofChange predLogicSpec)

/-- ITS FALSE NEIGHBOUR: 'it returns false'. Refute it at one input. -/
def predLogicWrong : ChangeSpec := { name := "predLogic", fn := fun _ => fun
  | [d1, d2] => { results := [.lit (.bool false)], args := [d1, d2] }
  | _ => none }
def PredLogicWrongFalsely : Prop := predLogicRow.holds Try.pinned (OpenSpec.ofChange predLogicWrong)

/-- 'fenlandlaw08.PredLocal': WHATEVER THE INPUT: true; the input reads as it did. -/
def predLocalSpec : ChangeSpec := { name := "predLocal", fn := fun _ => fun
  | [d1, d2, d3] => { results := [.lit (.bool true)], args := [d1, d2, d3] }
  | _ => none }
def predLocalRow : OpenClaim := { program := "ytbfkhepfgibonaa", sum := "258aec248cb293e1e50170d811f3f2f7b352d18ad7d04b74384c076439114efa", func := "fenland/fenlandlaw08.PredLocal", spec := "predLocal", inPlace := ["internal/bytealg.abigen_runtime_cmpstring"], unfollowed := true, recurses := true, loops := true, apart := false }
def PredLocalSaid : Prop := predLocalRow.holds Try.pinned (OpenSpec.ofChange predLocalSpec)

/-- ITS FALSE NEIGHBOUR: 'it returns false'. Refute it at one input. -/
def predLocalWrong : ChangeSpec := { name := "predLocal", fn := fun _ => fun
  | [d1, d2, d3] => { results := [.lit (.bool false)], args := [d1, d2, d3] }
  | _ => none }
def PredLocalWrongFalsely : Prop := predLocalRow.holds Try.pinned (OpenSpec.ofChange predLocalWrong)

/-- 'fenlandlaw08.PredMissing': WHATEVER THE INPUT: true; the input reads as it did. -/
def predMissingSpec : ChangeSpec := { name := "predMissing", fn := fun _ => fun
  | [d1, d2, d3] => { results := [.lit (.bool true)], args := [d1, d2, d3] }
  | _ => none }
def predMissingRow : OpenClaim := { program := "ytbfkhepfgibonaa", sum := "258aec248cb293e1e50170d811f3f2f7b352d18ad7d04b74384c076439114efa", func := "fenland/fenlandlaw08.PredMissing", spec := "predMissing", inPlace := ["internal/bytealg.abigen_runtime_cmpstring"], unfollowed := true, recurses := true, loops := true, apart := false }
def PredMissingSaid : Prop := predMissingRow.holds Try.pinned (OpenSpec.ofChange predMissingSpec)

/-- ITS FALSE NEIGHBOUR: 'it returns false'. Refute it at one input. -/
def predMissingWrong : ChangeSpec := { name := "predMissing", fn := fun _ => fun
  | [d1, d2, d3] => { results := [.lit (.bool false)], args := [d1, d2, d3] }
  | _ => none }
def PredMissingWrongFalsely : Prop := predMissingRow.holds Try.pinned (OpenSpec.ofChange predMissingWrong)

/-- 'fenlandlaw08.PredRoundTrip': WHATEVER THE INPUT: true; the input reads as it did. -/
def predRoundTripSpec : ChangeSpec := { name := "predRoundTrip", fn := fun _ => fun
  | [d1, d2, d3] => { results := [.lit (.bool true)], args := [d1, d2, d3] }
  | _ => none }
def predRoundTripRow : OpenClaim := { program := "ytbfkhepfgibonaa", sum := "258aec248cb293e1e50170d811f3f2f7b352d18ad7d04b74384c076439114efa", func := "fenland/fenlandlaw08.PredRoundTrip", spec := "predRoundTrip", inPlace := ["internal/bytealg.abigen_runtime_cmpstring"], unfollowed := true, recurses := true, loops := true, apart := false }
def PredRoundTripSaid : Prop := predRoundTripRow.holds Try.pinned (OpenSpec.ofChange predRoundTripSpec)

/-- ITS FALSE NEIGHBOUR: 'it returns false'. Refute it at one input. -/
def predRoundTripWrong : ChangeSpec := { name := "predRoundTrip", fn := fun _ => fun
  | [d1, d2, d3] => { results := [.lit (.bool false)], args := [d1, d2, d3] }
  | _ => none }
def PredRoundTripWrongFalsely : Prop := predRoundTripRow.holds Try.pinned (OpenSpec.ofChange predRoundTripWrong)

/-- 'fenlandlaw08.PredAtoms': WHATEVER THE INPUT: true; the input reads as it did. -/
def predAtomsSpec : ChangeSpec := { name := "predAtoms", fn := fun _ => fun
  | [d1, d2, d3] => { results := [.lit (.bool true)], args := [d1, d2, d3] }
  | _ => none }
def predAtomsRow : OpenClaim := { program := "ytbfkhepfgibonaa", sum := "258aec248cb293e1e50170d811f3f2f7b352d18ad7d04b74384c076439114efa", func := "fenland/fenlandlaw08.PredAtoms", spec := "predAtoms", inPlace := ["internal/bytealg.abigen_runtime_cmpstring"], unfollowed := true, recurses := true, loops := true, apart := false }
def PredAtomsSaid : Prop := predAtomsRow.holds Try.pinned (OpenSpec.ofChange predAtomsSpec)

/-- ITS FALSE NEIGHBOUR: 'it returns false'. Refute it at one input. -/
def predAtomsWrong : ChangeSpec := { name := "predAtoms", fn := fun _ => fun
  | [d1, d2, d3] => { results := [.lit (.bool false)], args := [d1, d2, d3] }
  | _ => none }
def PredAtomsWrongFalsely : Prop := predAtomsRow.holds Try.pinned (OpenSpec.ofChange predAtomsWrong)

/- THE SECOND FORM. 'bulk': how many values and letters a reading holds, each counted each time it is reached (what is shared counts as often as it is met; a slice's spare places count too). A statement '..UptoSaid' is the law's where the arguments, and the package variables that the reading takes, are together of bulk at most 1048576: NARROWER than '..Said'. Prove '..Said' where nothing that the law and all that it calls make is longer than what came in: it says more and counts as full. Else prove '..UptoSaid'. A law counts once. -/
mutual
def uptoBulk {H : Type} : DataW H → Nat
  | .lit (.string bytes) => bytes.length + 1
  | .lit _ => 1
  | .nil => 1
  | .ptr d => uptoBulk d + 1
  | .slice elems spare => uptoBulkAll elems + uptoBulkAll spare + 1
  | .agg parts => uptoBulkAll parts + 1
  | .iface _ d => uptoBulk d + 1
  | .map entries => uptoBulkEntries entries + 1
  | .held _ => 1
def uptoBulkAll {H : Type} : List (DataW H) → Nat
  | [] => 0
  | d :: r => uptoBulk d + uptoBulkAll r
def uptoBulkEntries {H : Type} : List (Lit × DataW H) → Nat
  | [] => 0
  | x :: r => uptoBulkEntry x + uptoBulkEntries r
def uptoBulkEntry {H : Type} : Lit × DataW H → Nat
  | (.string bytes, d) => bytes.length + uptoBulk d + 1
  | (_, d) => uptoBulk d + 1
 end
def uptoSmall : (H : Type) → List (DataW H) → Bool := fun _ ds => decide (uptoBulkAll ds ≤ 1048576)
def OpenSpec.upto (s : _root_.Go.ChangeSpec) : _root_.Go.OpenSpec := { _root_.Go.OpenSpec.ofChange s with cond := some uptoSmall }

/-- 'fenlandlaw08.PredLogic', WHERE WHAT IT READS IS OF BULK AT MOST 1048576: true; the input reads as it did. -/
def predLogicUptoRow : OpenClaim := { program := "ytbfkhepfgibonaa", sum := "258aec248cb293e1e50170d811f3f2f7b352d18ad7d04b74384c076439114efa", func := "fenland/fenlandlaw08.PredLogic", spec := "predLogic", inPlace := ["internal/bytealg.abigen_runtime_cmpstring"], unfollowed := true, recurses := true, loops := true, apart := false, narrowed := true }
def PredLogicUptoSaid : Prop := predLogicUptoRow.holds Try.pinned (OpenSpec.upto predLogicSpec)

/-- 'fenlandlaw08.PredLocal', WHERE WHAT IT READS IS OF BULK AT MOST 1048576: true; the input reads as it did. -/
def predLocalUptoRow : OpenClaim := { program := "ytbfkhepfgibonaa", sum := "258aec248cb293e1e50170d811f3f2f7b352d18ad7d04b74384c076439114efa", func := "fenland/fenlandlaw08.PredLocal", spec := "predLocal", inPlace := ["internal/bytealg.abigen_runtime_cmpstring"], unfollowed := true, recurses := true, loops := true, apart := false, narrowed := true }
def PredLocalUptoSaid : Prop := predLocalUptoRow.holds Try.pinned (OpenSpec.upto predLocalSpec)

/-- 'fenlandlaw08.PredMissing', WHERE WHAT IT READS IS OF BULK AT MOST 1048576: true; the input reads as it did. -/
def predMissingUptoRow : OpenClaim := { program := "ytbfkhepfgibonaa", sum := "258aec248cb293e1e50170d811f3f2f7b352d18ad7d04b74384c076439114efa", func := "fenland/fenlandlaw08.PredMissing", spec := "predMissing", inPlace := ["internal/bytealg.abigen_runtime_cmpstring"], unfollowed := true, recurses := true, loops := true, apart := false, narrowed := true }
def PredMissingUptoSaid : Prop := predMissingUptoRow.holds Try.pinned (OpenSpec.upto predMissingSpec)

/-- 'fenlandlaw08.PredRoundTrip', WHERE WHAT IT READS IS OF BULK AT MOST 1048576: true; the input reads as it did. -/
def predRoundTripUptoRow : OpenClaim := { program := "ytbfkhepfgibonaa", sum := "258aec248cb293e1e50170d811f3f2f7b352d18ad7d04b74384c076439114efa", func := "fenland/fenlandlaw08.PredRoundTrip", spec := "predRoundTrip", inPlace := ["internal/bytealg.abigen_runtime_cmpstring"], unfollowed := true, recurses := true, loops := true, apart := false, narrowed := true }
def PredRoundTripUptoSaid : Prop := predRoundTripUptoRow.holds Try.pinned (OpenSpec.upto predRoundTripSpec)

/-- 'fenlandlaw08.PredAtoms', WHERE WHAT IT READS IS OF BULK AT MOST 1048576: true; the input reads as it did. -/
def predAtomsUptoRow : OpenClaim := { program := "ytbfkhepfgibonaa", sum := "258aec248cb293e1e50170d811f3f2f7b352d18ad7d04b74384c076439114efa", func := "fenland/fenlandlaw08.PredAtoms", spec := "predAtoms", inPlace := ["internal/bytealg.abigen_runtime_cmpstring"], unfollowed := true, recurses := true, loops := true, apart := false, narrowed := true }
def PredAtomsUptoSaid : Prop := predAtomsUptoRow.holds Try.pinned (OpenSpec.upto predAtomsSpec)

end Rows
end Go.Proofs.Ytbfkhepfgibonaa
