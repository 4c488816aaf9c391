/-
  No cell of these rows narrows 'for every input' (looked for: loops, veiled, ifaces, maps, wideKeys, modest, calm, conditions, laid).
  DERIVED. THE GIVEN ROWS OF THIS SEAT. 8 by the template 'for every input the law returns true; each argument reads behind the call as it read before'; 0 by the template 'total and deterministic' (their statements: YtclflfglhbkfkaaTotals.lean).
  GIVEN WITH THE SEED: the statements are not yours to turn. If you find one false, say at which input.
  Laid BY PROGRAM, IN A SANDBOX (cutbox-rows.mjs): the forced cells as the released guide's own fill.sh prints them over the translation 6ff0757281ddbd0e… (all of the seat's roots in one cut). By AI agents, Wed Nov 11 2026. No macro, syntax, notation, axiom, sorry.
-/
import Derived.Test.YtclflfglhbkfkaaChecked
import GoSem.Claim
import GoSem.ClaimJoined
import GoSem.ClaimMapViews
import Derived.JoinedTies
import Derived.KernelRfl
namespace Go.Proofs.Ytclflfglhbkfkaa
/- THE CELL 'sum', in the pinned program and in every row, IS THE sha256 OF THE DUMP (.gsa) THAT YtclflfglhbkfkaaProg.lean LOADS. Nothing in Lean hashes anything: it is a label: what it is worth is what the hold of that sum in a sandbox is worth. -/
noncomputable def Try.pinned : Pinned := { name := "ytclflfglhbkfkaa", sum := "6ff0757281ddbd0e5273b177b02485f845b742ac856ecb306d57637704ebb6a8", checked := Try.checked }
namespace Rows
def none {H : Type} : Left H := { results := [], args := [] }

/-- 'testgatelaw22.NoiseMonotone': WHATEVER THE INPUT: true; the input reads as it did. -/
def noiseMonotoneSpec : ChangeSpec := { name := "noiseMonotone", fn := fun _ => fun
  | [d1, d2, d3] => { results := [.lit (.bool true)], args := [d1, d2, d3] }
  | _ => none }
def noiseMonotoneRow : OpenClaim := { program := "ytclflfglhbkfkaa", sum := "6ff0757281ddbd0e5273b177b02485f845b742ac856ecb306d57637704ebb6a8", func := "testgate/testgatelaw22.NoiseMonotone", spec := "noiseMonotone", unfollowed := true, recurses := true, apart := false }
def NoiseMonotoneSaid : Prop := noiseMonotoneRow.holds Try.pinned (OpenSpec.ofChange noiseMonotoneSpec)

/-- ITS FALSE NEIGHBOUR: 'it returns false'. Refute it at one input. -/
def noiseMonotoneWrong : ChangeSpec := { name := "noiseMonotone", fn := fun _ => fun
  | [d1, d2, d3] => { results := [.lit (.bool false)], args := [d1, d2, d3] }
  | _ => none }
def NoiseMonotoneWrongFalsely : Prop := noiseMonotoneRow.holds Try.pinned (OpenSpec.ofChange noiseMonotoneWrong)

/-- 'testgatelaw22.NoiseCounts': WHATEVER THE INPUT: true; the input reads as it did. -/
def noiseCountsSpec : ChangeSpec := { name := "noiseCounts", fn := fun _ => fun
  | [d1, d2, d3, d4] => { results := [.lit (.bool true)], args := [d1, d2, d3, d4] }
  | _ => none }
def noiseCountsRow : OpenClaim := { program := "ytclflfglhbkfkaa", sum := "6ff0757281ddbd0e5273b177b02485f845b742ac856ecb306d57637704ebb6a8", func := "testgate/testgatelaw22.NoiseCounts", spec := "noiseCounts", unfollowed := true, recurses := true, apart := false }
def NoiseCountsSaid : Prop := noiseCountsRow.holds Try.pinned (OpenSpec.ofChange noiseCountsSpec)

/-- ITS FALSE NEIGHBOUR: 'it returns false'. Refute it at one input. -/
def noiseCountsWrong : ChangeSpec := { name := "noiseCounts", fn := fun _ => fun
  | [d1, d2, d3, d4] => { results := [.lit (.bool false)], args := [d1, d2, d3, d4] }
  | _ => none }
def NoiseCountsWrongFalsely : Prop := noiseCountsRow.holds Try.pinned (OpenSpec.ofChange noiseCountsWrong)

/-- 'testgatelaw22.NoiseTails': WHATEVER THE INPUT: true; the input reads as it did. -/
def noiseTailsSpec : ChangeSpec := { name := "noiseTails", fn := fun _ => fun
  | [d1, d2, d3] => { results := [.lit (.bool true)], args := [d1, d2, d3] }
  | _ => none }
def noiseTailsRow : OpenClaim := { program := "ytclflfglhbkfkaa", sum := "6ff0757281ddbd0e5273b177b02485f845b742ac856ecb306d57637704ebb6a8", func := "testgate/testgatelaw22.NoiseTails", spec := "noiseTails", unfollowed := true, recurses := true, apart := false }
def NoiseTailsSaid : Prop := noiseTailsRow.holds Try.pinned (OpenSpec.ofChange noiseTailsSpec)

/-- ITS FALSE NEIGHBOUR: 'it returns false'. Refute it at one input. -/
def noiseTailsWrong : ChangeSpec := { name := "noiseTails", fn := fun _ => fun
  | [d1, d2, d3] => { results := [.lit (.bool false)], args := [d1, d2, d3] }
  | _ => none }
def NoiseTailsWrongFalsely : Prop := noiseTailsRow.holds Try.pinned (OpenSpec.ofChange noiseTailsWrong)

/-- 'testgatelaw22.NoiseChooses': WHATEVER THE INPUT: true; the input reads as it did. -/
def noiseChoosesSpec : ChangeSpec := { name := "noiseChooses", fn := fun _ => fun
  | [d1, d2] => { results := [.lit (.bool true)], args := [d1, d2] }
  | _ => none }
def noiseChoosesRow : OpenClaim := { program := "ytclflfglhbkfkaa", sum := "6ff0757281ddbd0e5273b177b02485f845b742ac856ecb306d57637704ebb6a8", func := "testgate/testgatelaw22.NoiseChooses", spec := "noiseChooses", unfollowed := true, recurses := true, apart := false }
def NoiseChoosesSaid : Prop := noiseChoosesRow.holds Try.pinned (OpenSpec.ofChange noiseChoosesSpec)

/-- ITS FALSE NEIGHBOUR: 'it returns false'. Refute it at one input. -/
def noiseChoosesWrong : ChangeSpec := { name := "noiseChooses", fn := fun _ => fun
  | [d1, d2] => { results := [.lit (.bool false)], args := [d1, d2] }
  | _ => none }
def NoiseChoosesWrongFalsely : Prop := noiseChoosesRow.holds Try.pinned (OpenSpec.ofChange noiseChoosesWrong)

/-- 'testgatelaw22.NoiseChecks': WHATEVER THE INPUT: true; the input reads as it did. -/
def noiseChecksSpec : ChangeSpec := { name := "noiseChecks", fn := fun _ => fun
  | [d1, d2, d3] => { results := [.lit (.bool true)], args := [d1, d2, d3] }
  | _ => none }
def noiseChecksRow : OpenClaim := { program := "ytclflfglhbkfkaa", sum := "6ff0757281ddbd0e5273b177b02485f845b742ac856ecb306d57637704ebb6a8", func := "testgate/testgatelaw22.NoiseChecks", spec := "noiseChecks", unfollowed := true, recurses := true, apart := false }
def NoiseChecksSaid : Prop := noiseChecksRow.holds Try.pinned (OpenSpec.ofChange noiseChecksSpec)

/-- ITS FALSE NEIGHBOUR: 'it returns false'. Refute it at one input. -/
def noiseChecksWrong : ChangeSpec := { name := "noiseChecks", fn := fun _ => fun
  | [d1, d2, d3] => { results := [.lit (.bool false)], args := [d1, d2, d3] }
  | _ => none }
def NoiseChecksWrongFalsely : Prop := noiseChecksRow.holds Try.pinned (OpenSpec.ofChange noiseChecksWrong)

/-- 'testgatelaw22.NoiseSequences': WHATEVER THE INPUT: true; the input reads as it did. -/
def noiseSequencesSpec : ChangeSpec := { name := "noiseSequences", fn := fun _ => fun
  | [d1, d2, d3] => { results := [.lit (.bool true)], args := [d1, d2, d3] }
  | _ => none }
def noiseSequencesRow : OpenClaim := { program := "ytclflfglhbkfkaa", sum := "6ff0757281ddbd0e5273b177b02485f845b742ac856ecb306d57637704ebb6a8", func := "testgate/testgatelaw22.NoiseSequences", spec := "noiseSequences", unfollowed := true, recurses := true, apart := false }
def NoiseSequencesSaid : Prop := noiseSequencesRow.holds Try.pinned (OpenSpec.ofChange noiseSequencesSpec)

/-- ITS FALSE NEIGHBOUR: 'it returns false'. Refute it at one input. -/
def noiseSequencesWrong : ChangeSpec := { name := "noiseSequences", fn := fun _ => fun
  | [d1, d2, d3] => { results := [.lit (.bool false)], args := [d1, d2, d3] }
  | _ => none }
def NoiseSequencesWrongFalsely : Prop := noiseSequencesRow.holds Try.pinned (OpenSpec.ofChange noiseSequencesWrong)

/-- 'testgatelaw22.NoiseWhole': WHATEVER THE INPUT: true; the input reads as it did. -/
def noiseWholeSpec : ChangeSpec := { name := "noiseWhole", fn := fun _ => fun
  | [d1, d2] => { results := [.lit (.bool true)], args := [d1, d2] }
  | _ => none }
def noiseWholeRow : OpenClaim := { program := "ytclflfglhbkfkaa", sum := "6ff0757281ddbd0e5273b177b02485f845b742ac856ecb306d57637704ebb6a8", func := "testgate/testgatelaw22.NoiseWhole", spec := "noiseWhole", unfollowed := true, recurses := true, apart := false }
def NoiseWholeSaid : Prop := noiseWholeRow.holds Try.pinned (OpenSpec.ofChange noiseWholeSpec)

/-- ITS FALSE NEIGHBOUR: 'it returns false'. Refute it at one input. -/
def noiseWholeWrong : ChangeSpec := { name := "noiseWhole", fn := fun _ => fun
  | [d1, d2] => { results := [.lit (.bool false)], args := [d1, d2] }
  | _ => none }
def NoiseWholeWrongFalsely : Prop := noiseWholeRow.holds Try.pinned (OpenSpec.ofChange noiseWholeWrong)

/-- 'testgatelaw22.NoiseSums': WHATEVER THE INPUT: true; the input reads as it did. -/
def noiseSumsSpec : ChangeSpec := { name := "noiseSums", fn := fun _ => fun
  | [d1, d2, d3] => { results := [.lit (.bool true)], args := [d1, d2, d3] }
  | _ => none }
def noiseSumsRow : OpenClaim := { program := "ytclflfglhbkfkaa", sum := "6ff0757281ddbd0e5273b177b02485f845b742ac856ecb306d57637704ebb6a8", func := "testgate/testgatelaw22.NoiseSums", spec := "noiseSums", unfollowed := true, recurses := true, apart := false }
def NoiseSumsSaid : Prop := noiseSumsRow.holds Try.pinned (OpenSpec.ofChange noiseSumsSpec)

/-- ITS FALSE NEIGHBOUR: 'it returns false'. Refute it at one input. -/
def noiseSumsWrong : ChangeSpec := { name := "noiseSums", fn := fun _ => fun
  | [d1, d2, d3] => { results := [.lit (.bool false)], args := [d1, d2, d3] }
  | _ => none }
def NoiseSumsWrongFalsely : Prop := noiseSumsRow.holds Try.pinned (OpenSpec.ofChange noiseSumsWrong)

/- THE SECOND FORM. 'bulk': how many values and letters a reading holds, each counted each time it is reached (what is shared counts as often as it is met; a slice's spare places count too). A statement '..UptoSaid' is the law's where the arguments, and the package variables that the reading takes, are together of bulk at most 1048576: NARROWER than '..Said'. Prove '..Said' where nothing that the law and all that it calls make is longer than what came in: it says more and counts as full. Else prove '..UptoSaid'. A law counts once. -/
mutual
def uptoBulk {H : Type} : DataW H → Nat
  | .lit (.string bytes) => bytes.length + 1
  | .lit _ => 1
  | .nil => 1
  | .ptr d => uptoBulk d + 1
  | .slice elems spare => uptoBulkAll elems + uptoBulkAll spare + 1
  | .agg parts => uptoBulkAll parts + 1
  | .iface _ d => uptoBulk d + 1
  | .map entries => uptoBulkEntries entries + 1
  | .held _ => 1
def uptoBulkAll {H : Type} : List (DataW H) → Nat
  | [] => 0
  | d :: r => uptoBulk d + uptoBulkAll r
def uptoBulkEntries {H : Type} : List (Lit × DataW H) → Nat
  | [] => 0
  | x :: r => uptoBulkEntry x + uptoBulkEntries r
def uptoBulkEntry {H : Type} : Lit × DataW H → Nat
  | (.string bytes, d) => bytes.length + uptoBulk d + 1
  | (_, d) => uptoBulk d + 1
 end
def uptoSmall : (H : Type) → List (DataW H) → Bool := fun _ ds => decide (uptoBulkAll ds ≤ 1048576)
def OpenSpec.upto (s : _root_.Go.ChangeSpec) : _root_.Go.OpenSpec := { _root_.Go.OpenSpec.ofChange s with cond := some uptoSmall }

/-- 'testgatelaw22.NoiseMonotone', WHERE WHAT IT READS IS OF BULK AT MOST 1048576: true; the input reads as it did. -/
def noiseMonotoneUptoRow : OpenClaim := { program := "ytclflfglhbkfkaa", sum := "6ff0757281ddbd0e5273b177b02485f845b742ac856ecb306d57637704ebb6a8", func := "testgate/testgatelaw22.NoiseMonotone", spec := "noiseMonotone", unfollowed := true, recurses := true, apart := false, narrowed := true }
def NoiseMonotoneUptoSaid : Prop := noiseMonotoneUptoRow.holds Try.pinned (OpenSpec.upto noiseMonotoneSpec)

/-- 'testgatelaw22.NoiseCounts', WHERE WHAT IT READS IS OF BULK AT MOST 1048576: true; the input reads as it did. -/
def noiseCountsUptoRow : OpenClaim := { program := "ytclflfglhbkfkaa", sum := "6ff0757281ddbd0e5273b177b02485f845b742ac856ecb306d57637704ebb6a8", func := "testgate/testgatelaw22.NoiseCounts", spec := "noiseCounts", unfollowed := true, recurses := true, apart := false, narrowed := true }
def NoiseCountsUptoSaid : Prop := noiseCountsUptoRow.holds Try.pinned (OpenSpec.upto noiseCountsSpec)

/-- 'testgatelaw22.NoiseTails', WHERE WHAT IT READS IS OF BULK AT MOST 1048576: true; the input reads as it did. -/
def noiseTailsUptoRow : OpenClaim := { program := "ytclflfglhbkfkaa", sum := "6ff0757281ddbd0e5273b177b02485f845b742ac856ecb306d57637704ebb6a8", func := "testgate/testgatelaw22.NoiseTails", spec := "noiseTails", unfollowed := true, recurses := true, apart := false, narrowed := true }
def NoiseTailsUptoSaid : Prop := noiseTailsUptoRow.holds Try.pinned (OpenSpec.upto noiseTailsSpec)

/-- 'testgatelaw22.NoiseChooses', WHERE WHAT IT READS IS OF BULK AT MOST 1048576: true; the input reads as it did. -/
def noiseChoosesUptoRow : OpenClaim := { program := "ytclflfglhbkfkaa", sum := "6ff0757281ddbd0e5273b177b02485f845b742ac856ecb306d57637704ebb6a8", func := "testgate/testgatelaw22.NoiseChooses", spec := "noiseChooses", unfollowed := true, recurses := true, apart := false, narrowed := true }
def NoiseChoosesUptoSaid : Prop := noiseChoosesUptoRow.holds Try.pinned (OpenSpec.upto noiseChoosesSpec)

/-- 'testgatelaw22.NoiseChecks', WHERE WHAT IT READS IS OF BULK AT MOST 1048576: true; the input reads as it did. -/
def noiseChecksUptoRow : OpenClaim := { program := "ytclflfglhbkfkaa", sum := "6ff0757281ddbd0e5273b177b02485f845b742ac856ecb306d57637704ebb6a8", func := "testgate/testgatelaw22.NoiseChecks", spec := "noiseChecks", unfollowed := true, recurses := true, apart := false, narrowed := true }
def NoiseChecksUptoSaid : Prop := noiseChecksUptoRow.holds Try.pinned (OpenSpec.upto noiseChecksSpec)

/-- 'testgatelaw22.NoiseSequences', WHERE WHAT IT READS IS OF BULK AT MOST 1048576: true; the input reads as it did. -/
def noiseSequencesUptoRow : OpenClaim := { program := "ytclflfglhbkfkaa", sum := "6ff0757281ddbd0e5273b177b02485f845b742ac856ecb306d57637704ebb6a8", func := "testgate/testgatelaw22.NoiseSequences", spec := "noiseSequences", unfollowed := true, recurses := true, apart := false, narrowed := true }
def NoiseSequencesUptoSaid : Prop := noiseSequencesUptoRow.holds Try.pinned (OpenSpec.upto noiseSequencesSpec)

/-- 'testgatelaw22.NoiseWhole', WHERE WHAT IT READS IS OF BULK AT MOST 1048576: true; the input reads as it did. -/
def noiseWholeUptoRow : OpenClaim := { program := "ytclflfglhbkfkaa", sum := "6ff0757281ddbd0e5273b177b02485f845b742ac856ecb306d57637704ebb6a8", func := "testgate/testgatelaw22.NoiseWhole", spec := "noiseWhole", unfollowed := true, recurses := true, apart := false, narrowed := true }
def NoiseWholeUptoSaid : Prop := noiseWholeUptoRow.holds Try.pinned (OpenSpec.upto noiseWholeSpec)

/-- 'testgatelaw22.NoiseSums', WHERE WHAT IT READS IS OF BULK AT MOST 1048576: true; the input reads as it did. -/
def noiseSumsUptoRow : OpenClaim := { program := "ytclflfglhbkfkaa", sum := "6ff0757281ddbd0e5273b177b02485f845b742ac856ecb306d57637704ebb6a8", func := "testgate/testgatelaw22.NoiseSums", spec := "noiseSums", unfollowed := true, recurses := true, apart := false, narrowed := true }
def NoiseSumsUptoSaid : Prop := noiseSumsUptoRow.holds Try.pinned (OpenSpec.upto noiseSumsSpec)

end Rows
end Go.Proofs.Ytclflfglhbkfkaa
