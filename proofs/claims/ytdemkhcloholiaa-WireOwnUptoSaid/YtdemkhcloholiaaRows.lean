/-
  No cell of these rows narrows 'for every input' (looked for: loops, veiled, ifaces, maps, wideKeys, modest, calm, conditions, laid).
  DERIVED. THE GIVEN ROWS OF THIS SEAT. 8 by the template 'for every input the law returns true; each argument reads behind the call as it read before'; 0 by the template 'total and deterministic' (their statements: YtdemkhcloholiaaTotals.lean).
  GIVEN WITH THE SEED: the statements are not yours to turn. If you find one false, say at which input.
  Laid BY PROGRAM, IN A SANDBOX (cutbox-rows.mjs): the forced cells as the released guide's own fill.sh prints them over the translation 1c1188e846ec44c3… (all of the seat's roots in one cut). By AI agents, Wed Nov 11 2026. No macro, syntax, notation, axiom, sorry.
-/
import Derived.Test.YtdemkhcloholiaaChecked
import GoSem.Claim
import GoSem.ClaimJoined
import GoSem.ClaimMapViews
import Derived.JoinedTies
import Derived.KernelRfl
namespace Go.Proofs.Ytdemkhcloholiaa
/- THE CELL 'sum', in the pinned program and in every row, IS THE sha256 OF THE DUMP (.gsa) THAT YtdemkhcloholiaaProg.lean LOADS. Nothing in Lean hashes anything: it is a label: what it is worth is what the hold of that sum in a sandbox is worth. -/
noncomputable def Try.pinned : Pinned := { name := "ytdemkhcloholiaa", sum := "1c1188e846ec44c39054928fc0ad3c92a6bb8ce4151cef9aebd480a3a66f905c", checked := Try.checked }
namespace Rows
def none {H : Type} : Left H := { results := [], args := [] }

/-- 'fenlandlaw01.WireWritesMatchReference': WHATEVER THE INPUT: true; the input reads as it did. -/
def wireWritesMatchReferenceSpec : ChangeSpec := { name := "wireWritesMatchReference", fn := fun _ => fun
  | [d1, d2] => { results := [.lit (.bool true)], args := [d1, d2] }
  | _ => none }
def wireWritesMatchReferenceRow : OpenClaim := { program := "ytdemkhcloholiaa", sum := "1c1188e846ec44c39054928fc0ad3c92a6bb8ce4151cef9aebd480a3a66f905c", func := "fenland/fenlandlaw01.WireWritesMatchReference", spec := "wireWritesMatchReference", apart := false }
def WireWritesMatchReferenceSaid : Prop := wireWritesMatchReferenceRow.holds Try.pinned (OpenSpec.ofChange wireWritesMatchReferenceSpec)

/-- ITS FALSE NEIGHBOUR: 'it returns false'. Refute it at one input. -/
def wireWritesMatchReferenceWrong : ChangeSpec := { name := "wireWritesMatchReference", fn := fun _ => fun
  | [d1, d2] => { results := [.lit (.bool false)], args := [d1, d2] }
  | _ => none }
def WireWritesMatchReferenceWrongFalsely : Prop := wireWritesMatchReferenceRow.holds Try.pinned (OpenSpec.ofChange wireWritesMatchReferenceWrong)

/-- 'fenlandlaw01.WireReadsMatchReference': WHATEVER THE INPUT: true; the input reads as it did. -/
def wireReadsMatchReferenceSpec : ChangeSpec := { name := "wireReadsMatchReference", fn := fun _ => fun
  | [d1, d2] => { results := [.lit (.bool true)], args := [d1, d2] }
  | _ => none }
def wireReadsMatchReferenceRow : OpenClaim := { program := "ytdemkhcloholiaa", sum := "1c1188e846ec44c39054928fc0ad3c92a6bb8ce4151cef9aebd480a3a66f905c", func := "fenland/fenlandlaw01.WireReadsMatchReference", spec := "wireReadsMatchReference", apart := false }
def WireReadsMatchReferenceSaid : Prop := wireReadsMatchReferenceRow.holds Try.pinned (OpenSpec.ofChange wireReadsMatchReferenceSpec)

/-- ITS FALSE NEIGHBOUR: 'it returns false'. Refute it at one input. -/
def wireReadsMatchReferenceWrong : ChangeSpec := { name := "wireReadsMatchReference", fn := fun _ => fun
  | [d1, d2] => { results := [.lit (.bool false)], args := [d1, d2] }
  | _ => none }
def WireReadsMatchReferenceWrongFalsely : Prop := wireReadsMatchReferenceRow.holds Try.pinned (OpenSpec.ofChange wireReadsMatchReferenceWrong)

/-- 'fenlandlaw01.WireRoundTrip': WHATEVER THE INPUT: true; the input reads as it did. -/
def wireRoundTripSpec : ChangeSpec := { name := "wireRoundTrip", fn := fun _ => fun
  | [d1, d2, d3] => { results := [.lit (.bool true)], args := [d1, d2, d3] }
  | _ => none }
def wireRoundTripRow : OpenClaim := { program := "ytdemkhcloholiaa", sum := "1c1188e846ec44c39054928fc0ad3c92a6bb8ce4151cef9aebd480a3a66f905c", func := "fenland/fenlandlaw01.WireRoundTrip", spec := "wireRoundTrip", apart := false }
def WireRoundTripSaid : Prop := wireRoundTripRow.holds Try.pinned (OpenSpec.ofChange wireRoundTripSpec)

/-- ITS FALSE NEIGHBOUR: 'it returns false'. Refute it at one input. -/
def wireRoundTripWrong : ChangeSpec := { name := "wireRoundTrip", fn := fun _ => fun
  | [d1, d2, d3] => { results := [.lit (.bool false)], args := [d1, d2, d3] }
  | _ => none }
def WireRoundTripWrongFalsely : Prop := wireRoundTripRow.holds Try.pinned (OpenSpec.ofChange wireRoundTripWrong)

/-- 'fenlandlaw01.WireUnique': WHATEVER THE INPUT: true; the input reads as it did. -/
def wireUniqueSpec : ChangeSpec := { name := "wireUnique", fn := fun _ => fun
  | [d1, d2] => { results := [.lit (.bool true)], args := [d1, d2] }
  | _ => none }
def wireUniqueRow : OpenClaim := { program := "ytdemkhcloholiaa", sum := "1c1188e846ec44c39054928fc0ad3c92a6bb8ce4151cef9aebd480a3a66f905c", func := "fenland/fenlandlaw01.WireUnique", spec := "wireUnique", apart := false }
def WireUniqueSaid : Prop := wireUniqueRow.holds Try.pinned (OpenSpec.ofChange wireUniqueSpec)

/-- ITS FALSE NEIGHBOUR: 'it returns false'. Refute it at one input. -/
def wireUniqueWrong : ChangeSpec := { name := "wireUnique", fn := fun _ => fun
  | [d1, d2] => { results := [.lit (.bool false)], args := [d1, d2] }
  | _ => none }
def WireUniqueWrongFalsely : Prop := wireUniqueRow.holds Try.pinned (OpenSpec.ofChange wireUniqueWrong)

/-- 'fenlandlaw01.WireLength': WHATEVER THE INPUT: true; the input reads as it did. -/
def wireLengthSpec : ChangeSpec := { name := "wireLength", fn := fun _ => fun
  | [d1, d2] => { results := [.lit (.bool true)], args := [d1, d2] }
  | _ => none }
def wireLengthRow : OpenClaim := { program := "ytdemkhcloholiaa", sum := "1c1188e846ec44c39054928fc0ad3c92a6bb8ce4151cef9aebd480a3a66f905c", func := "fenland/fenlandlaw01.WireLength", spec := "wireLength", apart := false }
def WireLengthSaid : Prop := wireLengthRow.holds Try.pinned (OpenSpec.ofChange wireLengthSpec)

/-- ITS FALSE NEIGHBOUR: 'it returns false'. Refute it at one input. -/
def wireLengthWrong : ChangeSpec := { name := "wireLength", fn := fun _ => fun
  | [d1, d2] => { results := [.lit (.bool false)], args := [d1, d2] }
  | _ => none }
def WireLengthWrongFalsely : Prop := wireLengthRow.holds Try.pinned (OpenSpec.ofChange wireLengthWrong)

/-- 'fenlandlaw01.WirePrefix': WHATEVER THE INPUT: true; the input reads as it did. -/
def wirePrefixSpec : ChangeSpec := { name := "wirePrefix", fn := fun _ => fun
  | [d1, d2] => { results := [.lit (.bool true)], args := [d1, d2] }
  | _ => none }
def wirePrefixRow : OpenClaim := { program := "ytdemkhcloholiaa", sum := "1c1188e846ec44c39054928fc0ad3c92a6bb8ce4151cef9aebd480a3a66f905c", func := "fenland/fenlandlaw01.WirePrefix", spec := "wirePrefix", apart := false }
def WirePrefixSaid : Prop := wirePrefixRow.holds Try.pinned (OpenSpec.ofChange wirePrefixSpec)

/-- ITS FALSE NEIGHBOUR: 'it returns false'. Refute it at one input. -/
def wirePrefixWrong : ChangeSpec := { name := "wirePrefix", fn := fun _ => fun
  | [d1, d2] => { results := [.lit (.bool false)], args := [d1, d2] }
  | _ => none }
def WirePrefixWrongFalsely : Prop := wirePrefixRow.holds Try.pinned (OpenSpec.ofChange wirePrefixWrong)

/-- 'fenlandlaw01.WireSequence': WHATEVER THE INPUT: true; the input reads as it did. -/
def wireSequenceSpec : ChangeSpec := { name := "wireSequence", fn := fun _ => fun
  | [d] => { results := [.lit (.bool true)], args := [d] }
  | _ => none }
def wireSequenceRow : OpenClaim := { program := "ytdemkhcloholiaa", sum := "1c1188e846ec44c39054928fc0ad3c92a6bb8ce4151cef9aebd480a3a66f905c", func := "fenland/fenlandlaw01.WireSequence", spec := "wireSequence", apart := false }
def WireSequenceSaid : Prop := wireSequenceRow.holds Try.pinned (OpenSpec.ofChange wireSequenceSpec)

/-- ITS FALSE NEIGHBOUR: 'it returns false'. Refute it at one input. -/
def wireSequenceWrong : ChangeSpec := { name := "wireSequence", fn := fun _ => fun
  | [d] => { results := [.lit (.bool false)], args := [d] }
  | _ => none }
def WireSequenceWrongFalsely : Prop := wireSequenceRow.holds Try.pinned (OpenSpec.ofChange wireSequenceWrong)

/-- 'fenlandlaw01.WireOwn': WHATEVER THE INPUT: true; the input reads as it did. -/
def wireOwnSpec : ChangeSpec := { name := "wireOwn", fn := fun _ => fun
  | [d1, d2] => { results := [.lit (.bool true)], args := [d1, d2] }
  | _ => none }
def wireOwnRow : OpenClaim := { program := "ytdemkhcloholiaa", sum := "1c1188e846ec44c39054928fc0ad3c92a6bb8ce4151cef9aebd480a3a66f905c", func := "fenland/fenlandlaw01.WireOwn", spec := "wireOwn", apart := false }
def WireOwnSaid : Prop := wireOwnRow.holds Try.pinned (OpenSpec.ofChange wireOwnSpec)

/-- ITS FALSE NEIGHBOUR: 'it returns false'. Refute it at one input. -/
def wireOwnWrong : ChangeSpec := { name := "wireOwn", fn := fun _ => fun
  | [d1, d2] => { results := [.lit (.bool false)], args := [d1, d2] }
  | _ => none }
def WireOwnWrongFalsely : Prop := wireOwnRow.holds Try.pinned (OpenSpec.ofChange wireOwnWrong)

/- THE SECOND FORM. 'bulk': how many values and letters a reading holds, each counted each time it is reached (what is shared counts as often as it is met; a slice's spare places count too). A statement '..UptoSaid' is the law's where the arguments, and the package variables that the reading takes, are together of bulk at most 1048576: NARROWER than '..Said'. Prove '..Said' where nothing that the law and all that it calls make is longer than what came in: it says more and counts as full. Else prove '..UptoSaid'. A law counts once. -/
mutual
def uptoBulk {H : Type} : DataW H → Nat
  | .lit (.string bytes) => bytes.length + 1
  | .lit _ => 1
  | .nil => 1
  | .ptr d => uptoBulk d + 1
  | .slice elems spare => uptoBulkAll elems + uptoBulkAll spare + 1
  | .agg parts => uptoBulkAll parts + 1
  | .iface _ d => uptoBulk d + 1
  | .map entries => uptoBulkEntries entries + 1
  | .held _ => 1
def uptoBulkAll {H : Type} : List (DataW H) → Nat
  | [] => 0
  | d :: r => uptoBulk d + uptoBulkAll r
def uptoBulkEntries {H : Type} : List (Lit × DataW H) → Nat
  | [] => 0
  | x :: r => uptoBulkEntry x + uptoBulkEntries r
def uptoBulkEntry {H : Type} : Lit × DataW H → Nat
  | (.string bytes, d) => bytes.length + uptoBulk d + 1
  | (_, d) => uptoBulk d + 1
 end
def uptoSmall : (H : Type) → List (DataW H) → Bool := fun _ ds => decide (uptoBulkAll ds ≤ 1048576)
def OpenSpec.upto (s : _root_.Go.ChangeSpec) : _root_.Go.OpenSpec := { _root_.Go.OpenSpec.ofChange s with cond := some uptoSmall }

/-- 'fenlandlaw01.WireWritesMatchReference', WHERE WHAT IT READS IS OF BULK AT MOST 1048576: true; the input reads as it did. -/
def wireWritesMatchReferenceUptoRow : OpenClaim := { program := "ytdemkhcloholiaa", sum := "1c1188e846ec44c39054928fc0ad3c92a6bb8ce4151cef9aebd480a3a66f905c", func := "fenland/fenlandlaw01.WireWritesMatchReference", spec := "wireWritesMatchReference", apart := false, narrowed := true }
def WireWritesMatchReferenceUptoSaid : Prop := wireWritesMatchReferenceUptoRow.holds Try.pinned (OpenSpec.upto wireWritesMatchReferenceSpec)

/-- 'fenlandlaw01.WireReadsMatchReference', WHERE WHAT IT READS IS OF BULK AT MOST 1048576: true; the input reads as it did. -/
def wireReadsMatchReferenceUptoRow : OpenClaim := { program := "ytdemkhcloholiaa", sum := "1c1188e846ec44c39054928fc0ad3c92a6bb8ce4151cef9aebd480a3a66f905c", func := "fenland/fenlandlaw01.WireReadsMatchReference", spec := "wireReadsMatchReference", apart := false, narrowed := true }
def WireReadsMatchReferenceUptoSaid : Prop := wireReadsMatchReferenceUptoRow.holds Try.pinned (OpenSpec.upto wireReadsMatchReferenceSpec)

/-- 'fenlandlaw01.WireRoundTrip', WHERE WHAT IT READS IS OF BULK AT MOST 1048576: true; the input reads as it did. -/
def wireRoundTripUptoRow : OpenClaim := { program := "ytdemkhcloholiaa", sum := "1c1188e846ec44c39054928fc0ad3c92a6bb8ce4151cef9aebd480a3a66f905c", func := "fenland/fenlandlaw01.WireRoundTrip", spec := "wireRoundTrip", apart := false, narrowed := true }
def WireRoundTripUptoSaid : Prop := wireRoundTripUptoRow.holds Try.pinned (OpenSpec.upto wireRoundTripSpec)

/-- 'fenlandlaw01.WireUnique', WHERE WHAT IT READS IS OF BULK AT MOST 1048576: true; the input reads as it did. -/
def wireUniqueUptoRow : OpenClaim := { program := "ytdemkhcloholiaa", sum := "1c1188e846ec44c39054928fc0ad3c92a6bb8ce4151cef9aebd480a3a66f905c", func := "fenland/fenlandlaw01.WireUnique", spec := "wireUnique", apart := false, narrowed := true }
def WireUniqueUptoSaid : Prop := wireUniqueUptoRow.holds Try.pinned (OpenSpec.upto wireUniqueSpec)

/-- 'fenlandlaw01.WireLength', WHERE WHAT IT READS IS OF BULK AT MOST 1048576: true; the input reads as it did. -/
def wireLengthUptoRow : OpenClaim := { program := "ytdemkhcloholiaa", sum := "1c1188e846ec44c39054928fc0ad3c92a6bb8ce4151cef9aebd480a3a66f905c", func := "fenland/fenlandlaw01.WireLength", spec := "wireLength", apart := false, narrowed := true }
def WireLengthUptoSaid : Prop := wireLengthUptoRow.holds Try.pinned (OpenSpec.upto wireLengthSpec)

/-- 'fenlandlaw01.WirePrefix', WHERE WHAT IT READS IS OF BULK AT MOST 1048576: true; the input reads as it did. -/
def wirePrefixUptoRow : OpenClaim := { program := "ytdemkhcloholiaa", sum := "1c1188e846ec44c39054928fc0ad3c92a6bb8ce4151cef9aebd480a3a66f905c", func := "fenland/fenlandlaw01.WirePrefix", spec := "wirePrefix", apart := false, narrowed := true }
def WirePrefixUptoSaid : Prop := wirePrefixUptoRow.holds Try.pinned (OpenSpec.upto wirePrefixSpec)

/-- 'fenlandlaw01.WireSequence', WHERE WHAT IT READS IS OF BULK AT MOST 1048576: true; the input reads as it did. -/
def wireSequenceUptoRow : OpenClaim := { program := "ytdemkhcloholiaa", sum := "1c1188e846ec44c39054928fc0ad3c92a6bb8ce4151cef9aebd480a3a66f905c", func := "fenland/fenlandlaw01.WireSequence", spec := "wireSequence", apart := false, narrowed := true }
def WireSequenceUptoSaid : Prop := wireSequenceUptoRow.holds Try.pinned (OpenSpec.upto wireSequenceSpec)

/-- 'fenlandlaw01.WireOwn', WHERE WHAT IT READS IS OF BULK AT MOST 1048576: true; the input reads as it did. -/
def wireOwnUptoRow : OpenClaim := { program := "ytdemkhcloholiaa", sum := "1c1188e846ec44c39054928fc0ad3c92a6bb8ce4151cef9aebd480a3a66f905c", func := "fenland/fenlandlaw01.WireOwn", spec := "wireOwn", apart := false, narrowed := true }
def WireOwnUptoSaid : Prop := wireOwnUptoRow.holds Try.pinned (OpenSpec.upto wireOwnSpec)

end Rows
end Go.Proofs.Ytdemkhcloholiaa
