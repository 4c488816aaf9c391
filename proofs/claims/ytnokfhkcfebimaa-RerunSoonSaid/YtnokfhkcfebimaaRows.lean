/-
  No cell of these rows narrows 'for every input' (looked for: loops, veiled, ifaces, maps, wideKeys, modest, calm, conditions, laid).
  DERIVED. THE GIVEN ROWS OF THIS SEAT. 16 by the template 'for every input the law returns true; each argument reads behind the call as it read before'; 0 by the template 'total and deterministic' (their statements: YtnokfhkcfebimaaTotals.lean).
  GIVEN WITH THE SEED: the statements are not yours to turn. If you find one false, say at which input.
  Laid BY PROGRAM, IN A SANDBOX (cutbox-rows.mjs): the forced cells as the released guide's own fill.sh prints them over the translation b5cea3bdd0553b32… (all of the seat's roots in one cut). By AI agents, Wed Nov 11 2026. No macro, syntax, notation, axiom, sorry.
-/
import Derived.Test.YtnokfhkcfebimaaChecked
import GoSem.Claim
import GoSem.ClaimJoined
import GoSem.ClaimMapViews
import Derived.JoinedTies
import Derived.KernelRfl
namespace Go.Proofs.Ytnokfhkcfebimaa
/- THE CELL 'sum', in the pinned program and in every row, IS THE sha256 OF THE DUMP (.gsa) THAT YtnokfhkcfebimaaProg.lean LOADS. Nothing in Lean hashes anything: it is a label: what it is worth is what the hold of that sum in a sandbox is worth. -/
noncomputable def Try.pinned : Pinned := { name := "ytnokfhkcfebimaa", sum := "b5cea3bdd0553b32dd1430e81a5f80e9e3a8f9c19f14ced5cb1cf6a6471ba3f6", checked := Try.checked }
namespace Rows
def none {H : Type} : Left H := { results := [], args := [] }

/-- 'testgatelaw23.SequentialLimits': WHATEVER THE INPUT: true; the input reads as it did. -/
def sequentialLimitsSpec : ChangeSpec := { name := "sequentialLimits", fn := fun _ => fun
  | [d1, d2] => { results := [.lit (.bool true)], args := [d1, d2] }
  | _ => none }
def sequentialLimitsRow : OpenClaim := { program := "ytnokfhkcfebimaa", sum := "b5cea3bdd0553b32dd1430e81a5f80e9e3a8f9c19f14ced5cb1cf6a6471ba3f6", func := "testgate/testgatelaw23.SequentialLimits", spec := "sequentialLimits", unfollowed := true, recurses := true, apart := false }
def SequentialLimitsSaid : Prop := sequentialLimitsRow.holds Try.pinned (OpenSpec.ofChange sequentialLimitsSpec)

/-- ITS FALSE NEIGHBOUR: 'it returns false'. Refute it at one input. -/
def sequentialLimitsWrong : ChangeSpec := { name := "sequentialLimits", fn := fun _ => fun
  | [d1, d2] => { results := [.lit (.bool false)], args := [d1, d2] }
  | _ => none }
def SequentialLimitsWrongFalsely : Prop := sequentialLimitsRow.holds Try.pinned (OpenSpec.ofChange sequentialLimitsWrong)

/-- 'testgatelaw23.SequentialRatios': WHATEVER THE INPUT: true; the input reads as it did. -/
def sequentialRatiosSpec : ChangeSpec := { name := "sequentialRatios", fn := fun _ => fun
  | [d1, d2, d3] => { results := [.lit (.bool true)], args := [d1, d2, d3] }
  | _ => none }
def sequentialRatiosRow : OpenClaim := { program := "ytnokfhkcfebimaa", sum := "b5cea3bdd0553b32dd1430e81a5f80e9e3a8f9c19f14ced5cb1cf6a6471ba3f6", func := "testgate/testgatelaw23.SequentialRatios", spec := "sequentialRatios", unfollowed := true, recurses := true, apart := false }
def SequentialRatiosSaid : Prop := sequentialRatiosRow.holds Try.pinned (OpenSpec.ofChange sequentialRatiosSpec)

/-- ITS FALSE NEIGHBOUR: 'it returns false'. Refute it at one input. -/
def sequentialRatiosWrong : ChangeSpec := { name := "sequentialRatios", fn := fun _ => fun
  | [d1, d2, d3] => { results := [.lit (.bool false)], args := [d1, d2, d3] }
  | _ => none }
def SequentialRatiosWrongFalsely : Prop := sequentialRatiosRow.holds Try.pinned (OpenSpec.ofChange sequentialRatiosWrong)

/-- 'testgatelaw23.SequentialRuns': WHATEVER THE INPUT: true; the input reads as it did. -/
def sequentialRunsSpec : ChangeSpec := { name := "sequentialRuns", fn := fun _ => fun
  | [d1, d2] => { results := [.lit (.bool true)], args := [d1, d2] }
  | _ => none }
def sequentialRunsRow : OpenClaim := { program := "ytnokfhkcfebimaa", sum := "b5cea3bdd0553b32dd1430e81a5f80e9e3a8f9c19f14ced5cb1cf6a6471ba3f6", func := "testgate/testgatelaw23.SequentialRuns", spec := "sequentialRuns", unfollowed := true, recurses := true, apart := false }
def SequentialRunsSaid : Prop := sequentialRunsRow.holds Try.pinned (OpenSpec.ofChange sequentialRunsSpec)

/-- ITS FALSE NEIGHBOUR: 'it returns false'. Refute it at one input. -/
def sequentialRunsWrong : ChangeSpec := { name := "sequentialRuns", fn := fun _ => fun
  | [d1, d2] => { results := [.lit (.bool false)], args := [d1, d2] }
  | _ => none }
def SequentialRunsWrongFalsely : Prop := sequentialRunsRow.holds Try.pinned (OpenSpec.ofChange sequentialRunsWrong)

/-- 'testgatelaw23.SequentialFirst': WHATEVER THE INPUT: true; the input reads as it did. -/
def sequentialFirstSpec : ChangeSpec := { name := "sequentialFirst", fn := fun _ => fun
  | [d1, d2, d3] => { results := [.lit (.bool true)], args := [d1, d2, d3] }
  | _ => none }
def sequentialFirstRow : OpenClaim := { program := "ytnokfhkcfebimaa", sum := "b5cea3bdd0553b32dd1430e81a5f80e9e3a8f9c19f14ced5cb1cf6a6471ba3f6", func := "testgate/testgatelaw23.SequentialFirst", spec := "sequentialFirst", unfollowed := true, recurses := true, apart := false }
def SequentialFirstSaid : Prop := sequentialFirstRow.holds Try.pinned (OpenSpec.ofChange sequentialFirstSpec)

/-- ITS FALSE NEIGHBOUR: 'it returns false'. Refute it at one input. -/
def sequentialFirstWrong : ChangeSpec := { name := "sequentialFirst", fn := fun _ => fun
  | [d1, d2, d3] => { results := [.lit (.bool false)], args := [d1, d2, d3] }
  | _ => none }
def SequentialFirstWrongFalsely : Prop := sequentialFirstRow.holds Try.pinned (OpenSpec.ofChange sequentialFirstWrong)

/-- 'testgatelaw23.SequentialChecks': WHATEVER THE INPUT: true; the input reads as it did. -/
def sequentialChecksSpec : ChangeSpec := { name := "sequentialChecks", fn := fun _ => fun
  | [d1, d2, d3] => { results := [.lit (.bool true)], args := [d1, d2, d3] }
  | _ => none }
def sequentialChecksRow : OpenClaim := { program := "ytnokfhkcfebimaa", sum := "b5cea3bdd0553b32dd1430e81a5f80e9e3a8f9c19f14ced5cb1cf6a6471ba3f6", func := "testgate/testgatelaw23.SequentialChecks", spec := "sequentialChecks", unfollowed := true, recurses := true, apart := false }
def SequentialChecksSaid : Prop := sequentialChecksRow.holds Try.pinned (OpenSpec.ofChange sequentialChecksSpec)

/-- ITS FALSE NEIGHBOUR: 'it returns false'. Refute it at one input. -/
def sequentialChecksWrong : ChangeSpec := { name := "sequentialChecks", fn := fun _ => fun
  | [d1, d2, d3] => { results := [.lit (.bool false)], args := [d1, d2, d3] }
  | _ => none }
def SequentialChecksWrongFalsely : Prop := sequentialChecksRow.holds Try.pinned (OpenSpec.ofChange sequentialChecksWrong)

/-- 'testgatelaw23.SequentialAlpha': WHATEVER THE INPUT: true; the input reads as it did. -/
def sequentialAlphaSpec : ChangeSpec := { name := "sequentialAlpha", fn := fun _ => fun
  | [d] => { results := [.lit (.bool true)], args := [d] }
  | _ => none }
def sequentialAlphaRow : OpenClaim := { program := "ytnokfhkcfebimaa", sum := "b5cea3bdd0553b32dd1430e81a5f80e9e3a8f9c19f14ced5cb1cf6a6471ba3f6", func := "testgate/testgatelaw23.SequentialAlpha", spec := "sequentialAlpha", unfollowed := true, recurses := true, apart := false }
def SequentialAlphaSaid : Prop := sequentialAlphaRow.holds Try.pinned (OpenSpec.ofChange sequentialAlphaSpec)

/-- ITS FALSE NEIGHBOUR: 'it returns false'. Refute it at one input. -/
def sequentialAlphaWrong : ChangeSpec := { name := "sequentialAlpha", fn := fun _ => fun
  | [d] => { results := [.lit (.bool false)], args := [d] }
  | _ => none }
def SequentialAlphaWrongFalsely : Prop := sequentialAlphaRow.holds Try.pinned (OpenSpec.ofChange sequentialAlphaWrong)

/-- 'testgatelaw23.SequentialBeyond': WHATEVER THE INPUT: true; the input reads as it did. -/
def sequentialBeyondSpec : ChangeSpec := { name := "sequentialBeyond", fn := fun _ => fun
  | [d] => { results := [.lit (.bool true)], args := [d] }
  | _ => none }
def sequentialBeyondRow : OpenClaim := { program := "ytnokfhkcfebimaa", sum := "b5cea3bdd0553b32dd1430e81a5f80e9e3a8f9c19f14ced5cb1cf6a6471ba3f6", func := "testgate/testgatelaw23.SequentialBeyond", spec := "sequentialBeyond", unfollowed := true, recurses := true, apart := false }
def SequentialBeyondSaid : Prop := sequentialBeyondRow.holds Try.pinned (OpenSpec.ofChange sequentialBeyondSpec)

/-- ITS FALSE NEIGHBOUR: 'it returns false'. Refute it at one input. -/
def sequentialBeyondWrong : ChangeSpec := { name := "sequentialBeyond", fn := fun _ => fun
  | [d] => { results := [.lit (.bool false)], args := [d] }
  | _ => none }
def SequentialBeyondWrongFalsely : Prop := sequentialBeyondRow.holds Try.pinned (OpenSpec.ofChange sequentialBeyondWrong)

/-- 'testgatelaw23.SequentialWhole': WHATEVER THE INPUT: true; the input reads as it did. -/
def sequentialWholeSpec : ChangeSpec := { name := "sequentialWhole", fn := fun _ => fun
  | [d] => { results := [.lit (.bool true)], args := [d] }
  | _ => none }
def sequentialWholeRow : OpenClaim := { program := "ytnokfhkcfebimaa", sum := "b5cea3bdd0553b32dd1430e81a5f80e9e3a8f9c19f14ced5cb1cf6a6471ba3f6", func := "testgate/testgatelaw23.SequentialWhole", spec := "sequentialWhole", unfollowed := true, recurses := true, apart := false }
def SequentialWholeSaid : Prop := sequentialWholeRow.holds Try.pinned (OpenSpec.ofChange sequentialWholeSpec)

/-- ITS FALSE NEIGHBOUR: 'it returns false'. Refute it at one input. -/
def sequentialWholeWrong : ChangeSpec := { name := "sequentialWhole", fn := fun _ => fun
  | [d] => { results := [.lit (.bool false)], args := [d] }
  | _ => none }
def SequentialWholeWrongFalsely : Prop := sequentialWholeRow.holds Try.pinned (OpenSpec.ofChange sequentialWholeWrong)

/-- 'testgatelaw25.RerunFirst': WHATEVER THE INPUT: true; the input reads as it did. -/
def rerunFirstSpec : ChangeSpec := { name := "rerunFirst", fn := fun _ => fun
  | [d] => { results := [.lit (.bool true)], args := [d] }
  | _ => none }
def rerunFirstRow : OpenClaim := { program := "ytnokfhkcfebimaa", sum := "b5cea3bdd0553b32dd1430e81a5f80e9e3a8f9c19f14ced5cb1cf6a6471ba3f6", func := "testgate/testgatelaw25.RerunFirst", spec := "rerunFirst", unfollowed := true, recurses := true, apart := false }
def RerunFirstSaid : Prop := rerunFirstRow.holds Try.pinned (OpenSpec.ofChange rerunFirstSpec)

/-- ITS FALSE NEIGHBOUR: 'it returns false'. Refute it at one input. -/
def rerunFirstWrong : ChangeSpec := { name := "rerunFirst", fn := fun _ => fun
  | [d] => { results := [.lit (.bool false)], args := [d] }
  | _ => none }
def RerunFirstWrongFalsely : Prop := rerunFirstRow.holds Try.pinned (OpenSpec.ofChange rerunFirstWrong)

/-- 'testgatelaw25.RerunHides': WHATEVER THE INPUT: true; the input reads as it did. -/
def rerunHidesSpec : ChangeSpec := { name := "rerunHides", fn := fun _ => fun
  | [d] => { results := [.lit (.bool true)], args := [d] }
  | _ => none }
def rerunHidesRow : OpenClaim := { program := "ytnokfhkcfebimaa", sum := "b5cea3bdd0553b32dd1430e81a5f80e9e3a8f9c19f14ced5cb1cf6a6471ba3f6", func := "testgate/testgatelaw25.RerunHides", spec := "rerunHides", unfollowed := true, recurses := true, apart := false }
def RerunHidesSaid : Prop := rerunHidesRow.holds Try.pinned (OpenSpec.ofChange rerunHidesSpec)

/-- ITS FALSE NEIGHBOUR: 'it returns false'. Refute it at one input. -/
def rerunHidesWrong : ChangeSpec := { name := "rerunHides", fn := fun _ => fun
  | [d] => { results := [.lit (.bool false)], args := [d] }
  | _ => none }
def RerunHidesWrongFalsely : Prop := rerunHidesRow.holds Try.pinned (OpenSpec.ofChange rerunHidesWrong)

/-- 'testgatelaw25.RerunEnds': WHATEVER THE INPUT: true; the input reads as it did. -/
def rerunEndsSpec : ChangeSpec := { name := "rerunEnds", fn := fun _ => fun
  | [d1, d2] => { results := [.lit (.bool true)], args := [d1, d2] }
  | _ => none }
def rerunEndsRow : OpenClaim := { program := "ytnokfhkcfebimaa", sum := "b5cea3bdd0553b32dd1430e81a5f80e9e3a8f9c19f14ced5cb1cf6a6471ba3f6", func := "testgate/testgatelaw25.RerunEnds", spec := "rerunEnds", unfollowed := true, recurses := true, apart := false }
def RerunEndsSaid : Prop := rerunEndsRow.holds Try.pinned (OpenSpec.ofChange rerunEndsSpec)

/-- ITS FALSE NEIGHBOUR: 'it returns false'. Refute it at one input. -/
def rerunEndsWrong : ChangeSpec := { name := "rerunEnds", fn := fun _ => fun
  | [d1, d2] => { results := [.lit (.bool false)], args := [d1, d2] }
  | _ => none }
def RerunEndsWrongFalsely : Prop := rerunEndsRow.holds Try.pinned (OpenSpec.ofChange rerunEndsWrong)

/-- 'testgatelaw25.RerunSoon': WHATEVER THE INPUT: true; the input reads as it did. -/
def rerunSoonSpec : ChangeSpec := { name := "rerunSoon", fn := fun _ => fun
  | [d] => { results := [.lit (.bool true)], args := [d] }
  | _ => none }
def rerunSoonRow : OpenClaim := { program := "ytnokfhkcfebimaa", sum := "b5cea3bdd0553b32dd1430e81a5f80e9e3a8f9c19f14ced5cb1cf6a6471ba3f6", func := "testgate/testgatelaw25.RerunSoon", spec := "rerunSoon", unfollowed := true, recurses := true, apart := false }
def RerunSoonSaid : Prop := rerunSoonRow.holds Try.pinned (OpenSpec.ofChange rerunSoonSpec)

/-- ITS FALSE NEIGHBOUR: 'it returns false'. Refute it at one input. -/
def rerunSoonWrong : ChangeSpec := { name := "rerunSoon", fn := fun _ => fun
  | [d] => { results := [.lit (.bool false)], args := [d] }
  | _ => none }
def RerunSoonWrongFalsely : Prop := rerunSoonRow.holds Try.pinned (OpenSpec.ofChange rerunSoonWrong)

/-- 'testgatelaw25.RerunBounds': WHATEVER THE INPUT: true; the input reads as it did. -/
def rerunBoundsSpec : ChangeSpec := { name := "rerunBounds", fn := fun _ => fun
  | [d] => { results := [.lit (.bool true)], args := [d] }
  | _ => none }
def rerunBoundsRow : OpenClaim := { program := "ytnokfhkcfebimaa", sum := "b5cea3bdd0553b32dd1430e81a5f80e9e3a8f9c19f14ced5cb1cf6a6471ba3f6", func := "testgate/testgatelaw25.RerunBounds", spec := "rerunBounds", unfollowed := true, recurses := true, apart := false }
def RerunBoundsSaid : Prop := rerunBoundsRow.holds Try.pinned (OpenSpec.ofChange rerunBoundsSpec)

/-- ITS FALSE NEIGHBOUR: 'it returns false'. Refute it at one input. -/
def rerunBoundsWrong : ChangeSpec := { name := "rerunBounds", fn := fun _ => fun
  | [d] => { results := [.lit (.bool false)], args := [d] }
  | _ => none }
def RerunBoundsWrongFalsely : Prop := rerunBoundsRow.holds Try.pinned (OpenSpec.ofChange rerunBoundsWrong)

/-- 'testgatelaw38.ReportLeast': WHATEVER THE INPUT: true; the input reads as it did. -/
def reportLeastSpec : ChangeSpec := { name := "reportLeast", fn := fun _ => fun
  | [d1, d2, d3] => { results := [.lit (.bool true)], args := [d1, d2, d3] }
  | _ => none }
def reportLeastRow : OpenClaim := { program := "ytnokfhkcfebimaa", sum := "b5cea3bdd0553b32dd1430e81a5f80e9e3a8f9c19f14ced5cb1cf6a6471ba3f6", func := "testgate/testgatelaw38.ReportLeast", spec := "reportLeast", unfollowed := true, recurses := true, apart := false }
def ReportLeastSaid : Prop := reportLeastRow.holds Try.pinned (OpenSpec.ofChange reportLeastSpec)

/-- ITS FALSE NEIGHBOUR: 'it returns false'. Refute it at one input. -/
def reportLeastWrong : ChangeSpec := { name := "reportLeast", fn := fun _ => fun
  | [d1, d2, d3] => { results := [.lit (.bool false)], args := [d1, d2, d3] }
  | _ => none }
def ReportLeastWrongFalsely : Prop := reportLeastRow.holds Try.pinned (OpenSpec.ofChange reportLeastWrong)

/-- 'testgatelaw38.ReportGrows': WHATEVER THE INPUT: true; the input reads as it did. -/
def reportGrowsSpec : ChangeSpec := { name := "reportGrows", fn := fun _ => fun
  | [d1, d2, d3] => { results := [.lit (.bool true)], args := [d1, d2, d3] }
  | _ => none }
def reportGrowsRow : OpenClaim := { program := "ytnokfhkcfebimaa", sum := "b5cea3bdd0553b32dd1430e81a5f80e9e3a8f9c19f14ced5cb1cf6a6471ba3f6", func := "testgate/testgatelaw38.ReportGrows", spec := "reportGrows", unfollowed := true, recurses := true, apart := false }
def ReportGrowsSaid : Prop := reportGrowsRow.holds Try.pinned (OpenSpec.ofChange reportGrowsSpec)

/-- ITS FALSE NEIGHBOUR: 'it returns false'. Refute it at one input. -/
def reportGrowsWrong : ChangeSpec := { name := "reportGrows", fn := fun _ => fun
  | [d1, d2, d3] => { results := [.lit (.bool false)], args := [d1, d2, d3] }
  | _ => none }
def ReportGrowsWrongFalsely : Prop := reportGrowsRow.holds Try.pinned (OpenSpec.ofChange reportGrowsWrong)

/-- 'testgatelaw38.ReportCovers': WHATEVER THE INPUT: true; the input reads as it did. -/
def reportCoversSpec : ChangeSpec := { name := "reportCovers", fn := fun _ => fun
  | [d1, d2, d3] => { results := [.lit (.bool true)], args := [d1, d2, d3] }
  | _ => none }
def reportCoversRow : OpenClaim := { program := "ytnokfhkcfebimaa", sum := "b5cea3bdd0553b32dd1430e81a5f80e9e3a8f9c19f14ced5cb1cf6a6471ba3f6", func := "testgate/testgatelaw38.ReportCovers", spec := "reportCovers", unfollowed := true, recurses := true, apart := false }
def ReportCoversSaid : Prop := reportCoversRow.holds Try.pinned (OpenSpec.ofChange reportCoversSpec)

/-- ITS FALSE NEIGHBOUR: 'it returns false'. Refute it at one input. -/
def reportCoversWrong : ChangeSpec := { name := "reportCovers", fn := fun _ => fun
  | [d1, d2, d3] => { results := [.lit (.bool false)], args := [d1, d2, d3] }
  | _ => none }
def ReportCoversWrongFalsely : Prop := reportCoversRow.holds Try.pinned (OpenSpec.ofChange reportCoversWrong)

/- THE SECOND FORM. 'bulk': how many values and letters a reading holds, each counted each time it is reached (what is shared counts as often as it is met; a slice's spare places count too). A statement '..UptoSaid' is the law's where the arguments, and the package variables that the reading takes, are together of bulk at most 1048576: NARROWER than '..Said'. Prove '..Said' where nothing that the law and all that it calls make is longer than what came in: it says more and counts as full. Else prove '..UptoSaid'. A law counts once. -/
mutual
def uptoBulk {H : Type} : DataW H → Nat
  | .lit (.string bytes) => bytes.length + 1
  | .lit _ => 1
  | .nil => 1
  | .ptr d => uptoBulk d + 1
  | .slice elems spare => uptoBulkAll elems + uptoBulkAll spare + 1
  | .agg parts => uptoBulkAll parts + 1
  | .iface _ d => uptoBulk d + 1
  | .map entries => uptoBulkEntries entries + 1
  | .held _ => 1
def uptoBulkAll {H : Type} : List (DataW H) → Nat
  | [] => 0
  | d :: r => uptoBulk d + uptoBulkAll r
def uptoBulkEntries {H : Type} : List (Lit × DataW H) → Nat
  | [] => 0
  | x :: r => uptoBulkEntry x + uptoBulkEntries r
def uptoBulkEntry {H : Type} : Lit × DataW H → Nat
  | (.string bytes, d) => bytes.length + uptoBulk d + 1
  | (_, d) => uptoBulk d + 1
 end
def uptoSmall : (H : Type) → List (DataW H) → Bool := fun _ ds => decide (uptoBulkAll ds ≤ 1048576)
def OpenSpec.upto (s : _root_.Go.ChangeSpec) : _root_.Go.OpenSpec := { _root_.Go.OpenSpec.ofChange s with cond := some uptoSmall }

/-- 'testgatelaw23.SequentialLimits', WHERE WHAT IT READS IS OF BULK AT MOST 1048576: true; the input reads as it did. -/
def sequentialLimitsUptoRow : OpenClaim := { program := "ytnokfhkcfebimaa", sum := "b5cea3bdd0553b32dd1430e81a5f80e9e3a8f9c19f14ced5cb1cf6a6471ba3f6", func := "testgate/testgatelaw23.SequentialLimits", spec := "sequentialLimits", unfollowed := true, recurses := true, apart := false, narrowed := true }
def SequentialLimitsUptoSaid : Prop := sequentialLimitsUptoRow.holds Try.pinned (OpenSpec.upto sequentialLimitsSpec)

/-- 'testgatelaw23.SequentialRatios', WHERE WHAT IT READS IS OF BULK AT MOST 1048576: true; the input reads as it did. -/
def sequentialRatiosUptoRow : OpenClaim := { program := "ytnokfhkcfebimaa", sum := "b5cea3bdd0553b32dd1430e81a5f80e9e3a8f9c19f14ced5cb1cf6a6471ba3f6", func := "testgate/testgatelaw23.SequentialRatios", spec := "sequentialRatios", unfollowed := true, recurses := true, apart := false, narrowed := true }
def SequentialRatiosUptoSaid : Prop := sequentialRatiosUptoRow.holds Try.pinned (OpenSpec.upto sequentialRatiosSpec)

/-- 'testgatelaw23.SequentialRuns', WHERE WHAT IT READS IS OF BULK AT MOST 1048576: true; the input reads as it did. -/
def sequentialRunsUptoRow : OpenClaim := { program := "ytnokfhkcfebimaa", sum := "b5cea3bdd0553b32dd1430e81a5f80e9e3a8f9c19f14ced5cb1cf6a6471ba3f6", func := "testgate/testgatelaw23.SequentialRuns", spec := "sequentialRuns", unfollowed := true, recurses := true, apart := false, narrowed := true }
def SequentialRunsUptoSaid : Prop := sequentialRunsUptoRow.holds Try.pinned (OpenSpec.upto sequentialRunsSpec)

/-- 'testgatelaw23.SequentialFirst', WHERE WHAT IT READS IS OF BULK AT MOST 1048576: true; the input reads as it did. -/
def sequentialFirstUptoRow : OpenClaim := { program := "ytnokfhkcfebimaa", sum := "b5cea3bdd0553b32dd1430e81a5f80e9e3a8f9c19f14ced5cb1cf6a6471ba3f6", func := "testgate/testgatelaw23.SequentialFirst", spec := "sequentialFirst", unfollowed := true, recurses := true, apart := false, narrowed := true }
def SequentialFirstUptoSaid : Prop := sequentialFirstUptoRow.holds Try.pinned (OpenSpec.upto sequentialFirstSpec)

/-- 'testgatelaw23.SequentialChecks', WHERE WHAT IT READS IS OF BULK AT MOST 1048576: true; the input reads as it did. -/
def sequentialChecksUptoRow : OpenClaim := { program := "ytnokfhkcfebimaa", sum := "b5cea3bdd0553b32dd1430e81a5f80e9e3a8f9c19f14ced5cb1cf6a6471ba3f6", func := "testgate/testgatelaw23.SequentialChecks", spec := "sequentialChecks", unfollowed := true, recurses := true, apart := false, narrowed := true }
def SequentialChecksUptoSaid : Prop := sequentialChecksUptoRow.holds Try.pinned (OpenSpec.upto sequentialChecksSpec)

/-- 'testgatelaw23.SequentialAlpha', WHERE WHAT IT READS IS OF BULK AT MOST 1048576: true; the input reads as it did. -/
def sequentialAlphaUptoRow : OpenClaim := { program := "ytnokfhkcfebimaa", sum := "b5cea3bdd0553b32dd1430e81a5f80e9e3a8f9c19f14ced5cb1cf6a6471ba3f6", func := "testgate/testgatelaw23.SequentialAlpha", spec := "sequentialAlpha", unfollowed := true, recurses := true, apart := false, narrowed := true }
def SequentialAlphaUptoSaid : Prop := sequentialAlphaUptoRow.holds Try.pinned (OpenSpec.upto sequentialAlphaSpec)

/-- 'testgatelaw23.SequentialBeyond', WHERE WHAT IT READS IS OF BULK AT MOST 1048576: true; the input reads as it did. -/
def sequentialBeyondUptoRow : OpenClaim := { program := "ytnokfhkcfebimaa", sum := "b5cea3bdd0553b32dd1430e81a5f80e9e3a8f9c19f14ced5cb1cf6a6471ba3f6", func := "testgate/testgatelaw23.SequentialBeyond", spec := "sequentialBeyond", unfollowed := true, recurses := true, apart := false, narrowed := true }
def SequentialBeyondUptoSaid : Prop := sequentialBeyondUptoRow.holds Try.pinned (OpenSpec.upto sequentialBeyondSpec)

/-- 'testgatelaw23.SequentialWhole', WHERE WHAT IT READS IS OF BULK AT MOST 1048576: true; the input reads as it did. -/
def sequentialWholeUptoRow : OpenClaim := { program := "ytnokfhkcfebimaa", sum := "b5cea3bdd0553b32dd1430e81a5f80e9e3a8f9c19f14ced5cb1cf6a6471ba3f6", func := "testgate/testgatelaw23.SequentialWhole", spec := "sequentialWhole", unfollowed := true, recurses := true, apart := false, narrowed := true }
def SequentialWholeUptoSaid : Prop := sequentialWholeUptoRow.holds Try.pinned (OpenSpec.upto sequentialWholeSpec)

/-- 'testgatelaw25.RerunFirst', WHERE WHAT IT READS IS OF BULK AT MOST 1048576: true; the input reads as it did. -/
def rerunFirstUptoRow : OpenClaim := { program := "ytnokfhkcfebimaa", sum := "b5cea3bdd0553b32dd1430e81a5f80e9e3a8f9c19f14ced5cb1cf6a6471ba3f6", func := "testgate/testgatelaw25.RerunFirst", spec := "rerunFirst", unfollowed := true, recurses := true, apart := false, narrowed := true }
def RerunFirstUptoSaid : Prop := rerunFirstUptoRow.holds Try.pinned (OpenSpec.upto rerunFirstSpec)

/-- 'testgatelaw25.RerunHides', WHERE WHAT IT READS IS OF BULK AT MOST 1048576: true; the input reads as it did. -/
def rerunHidesUptoRow : OpenClaim := { program := "ytnokfhkcfebimaa", sum := "b5cea3bdd0553b32dd1430e81a5f80e9e3a8f9c19f14ced5cb1cf6a6471ba3f6", func := "testgate/testgatelaw25.RerunHides", spec := "rerunHides", unfollowed := true, recurses := true, apart := false, narrowed := true }
def RerunHidesUptoSaid : Prop := rerunHidesUptoRow.holds Try.pinned (OpenSpec.upto rerunHidesSpec)

/-- 'testgatelaw25.RerunEnds', WHERE WHAT IT READS IS OF BULK AT MOST 1048576: true; the input reads as it did. -/
def rerunEndsUptoRow : OpenClaim := { program := "ytnokfhkcfebimaa", sum := "b5cea3bdd0553b32dd1430e81a5f80e9e3a8f9c19f14ced5cb1cf6a6471ba3f6", func := "testgate/testgatelaw25.RerunEnds", spec := "rerunEnds", unfollowed := true, recurses := true, apart := false, narrowed := true }
def RerunEndsUptoSaid : Prop := rerunEndsUptoRow.holds Try.pinned (OpenSpec.upto rerunEndsSpec)

/-- 'testgatelaw25.RerunSoon', WHERE WHAT IT READS IS OF BULK AT MOST 1048576: true; the input reads as it did. -/
def rerunSoonUptoRow : OpenClaim := { program := "ytnokfhkcfebimaa", sum := "b5cea3bdd0553b32dd1430e81a5f80e9e3a8f9c19f14ced5cb1cf6a6471ba3f6", func := "testgate/testgatelaw25.RerunSoon", spec := "rerunSoon", unfollowed := true, recurses := true, apart := false, narrowed := true }
def RerunSoonUptoSaid : Prop := rerunSoonUptoRow.holds Try.pinned (OpenSpec.upto rerunSoonSpec)

/-- 'testgatelaw25.RerunBounds', WHERE WHAT IT READS IS OF BULK AT MOST 1048576: true; the input reads as it did. -/
def rerunBoundsUptoRow : OpenClaim := { program := "ytnokfhkcfebimaa", sum := "b5cea3bdd0553b32dd1430e81a5f80e9e3a8f9c19f14ced5cb1cf6a6471ba3f6", func := "testgate/testgatelaw25.RerunBounds", spec := "rerunBounds", unfollowed := true, recurses := true, apart := false, narrowed := true }
def RerunBoundsUptoSaid : Prop := rerunBoundsUptoRow.holds Try.pinned (OpenSpec.upto rerunBoundsSpec)

/-- 'testgatelaw38.ReportLeast', WHERE WHAT IT READS IS OF BULK AT MOST 1048576: true; the input reads as it did. -/
def reportLeastUptoRow : OpenClaim := { program := "ytnokfhkcfebimaa", sum := "b5cea3bdd0553b32dd1430e81a5f80e9e3a8f9c19f14ced5cb1cf6a6471ba3f6", func := "testgate/testgatelaw38.ReportLeast", spec := "reportLeast", unfollowed := true, recurses := true, apart := false, narrowed := true }
def ReportLeastUptoSaid : Prop := reportLeastUptoRow.holds Try.pinned (OpenSpec.upto reportLeastSpec)

/-- 'testgatelaw38.ReportGrows', WHERE WHAT IT READS IS OF BULK AT MOST 1048576: true; the input reads as it did. -/
def reportGrowsUptoRow : OpenClaim := { program := "ytnokfhkcfebimaa", sum := "b5cea3bdd0553b32dd1430e81a5f80e9e3a8f9c19f14ced5cb1cf6a6471ba3f6", func := "testgate/testgatelaw38.ReportGrows", spec := "reportGrows", unfollowed := true, recurses := true, apart := false, narrowed := true }
def ReportGrowsUptoSaid : Prop := reportGrowsUptoRow.holds Try.pinned (OpenSpec.upto reportGrowsSpec)

/-- 'testgatelaw38.ReportCovers', WHERE WHAT IT READS IS OF BULK AT MOST 1048576: true; the input reads as it did. -/
def reportCoversUptoRow : OpenClaim := { program := "ytnokfhkcfebimaa", sum := "b5cea3bdd0553b32dd1430e81a5f80e9e3a8f9c19f14ced5cb1cf6a6471ba3f6", func := "testgate/testgatelaw38.ReportCovers", spec := "reportCovers", unfollowed := true, recurses := true, apart := false, narrowed := true }
def ReportCoversUptoSaid : Prop := reportCoversUptoRow.holds Try.pinned (OpenSpec.upto reportCoversSpec)

end Rows
end Go.Proofs.Ytnokfhkcfebimaa
