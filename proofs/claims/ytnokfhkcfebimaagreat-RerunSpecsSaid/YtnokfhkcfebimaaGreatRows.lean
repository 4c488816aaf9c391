/-
  No cell of these rows narrows 'for every input' (looked for: loops, veiled, ifaces, maps, wideKeys, modest, calm, conditions, laid).
  DERIVED. THE GIVEN ROWS OF THIS SEAT. 5 by the template 'for every input the law returns true; each argument reads behind the call as it read before'; 0 by the template 'total and deterministic' (their statements: YtnokfhkcfebimaaGreatTotals.lean).
  GIVEN WITH THE SEED: the statements are not yours to turn. If you find one false, say at which input.
  Laid BY PROGRAM, IN A SANDBOX (cutbox-rows.mjs): the forced cells as the released guide's own fill.sh prints them over the translation 426e4d60c8960f4a… (all of the seat's roots in one cut). By AI agents, Wed Nov 11 2026. No macro, syntax, notation, axiom, sorry.
-/
import Derived.Test.YtnokfhkcfebimaaGreatChecked
import GoSem.Claim
import GoSem.ClaimJoined
import GoSem.ClaimMapViews
import Derived.JoinedTies
import Derived.KernelRfl
namespace Go.Proofs.YtnokfhkcfebimaaGreat
/- THE CELL 'sum', in the pinned program and in every row, IS THE sha256 OF THE DUMP (.gsa) THAT YtnokfhkcfebimaaGreatProg.lean LOADS. Nothing in Lean hashes anything: it is a label: what it is worth is what the hold of that sum in a sandbox is worth. -/
noncomputable def Tryz.pinned : Pinned := { name := "ytnokfhkcfebimaagreat", sum := "426e4d60c8960f4a2a1c71e15efbd1513843aba1794d25108908da80e6dc1baa", checked := Tryz.checked }
namespace Rows
def none {H : Type} : Left H := { results := [], args := [] }

/-- 'testgatelaw23.SequentialErrors': WHATEVER THE INPUT: true; the input reads as it did. -/
def sequentialErrorsSpec : ChangeSpec := { name := "sequentialErrors", fn := fun _ => fun
  | [d1, d2] => { results := [.lit (.bool true)], args := [d1, d2] }
  | _ => none }
def sequentialErrorsRow : OpenClaim := { program := "ytnokfhkcfebimaagreat", sum := "426e4d60c8960f4a2a1c71e15efbd1513843aba1794d25108908da80e6dc1baa", func := "testgate/testgatelaw23.SequentialErrors", spec := "sequentialErrors", unfollowed := true, recurses := true, apart := false }
def SequentialErrorsSaid : Prop := sequentialErrorsRow.holds Tryz.pinned (OpenSpec.ofChange sequentialErrorsSpec)

/-- ITS FALSE NEIGHBOUR: 'it returns false'. Refute it at one input. -/
def sequentialErrorsWrong : ChangeSpec := { name := "sequentialErrors", fn := fun _ => fun
  | [d1, d2] => { results := [.lit (.bool false)], args := [d1, d2] }
  | _ => none }
def SequentialErrorsWrongFalsely : Prop := sequentialErrorsRow.holds Tryz.pinned (OpenSpec.ofChange sequentialErrorsWrong)

/-- 'testgatelaw25.RerunJudges': WHATEVER THE INPUT: true; the input reads as it did. -/
def rerunJudgesSpec : ChangeSpec := { name := "rerunJudges", fn := fun _ => fun
  | [d1, d2] => { results := [.lit (.bool true)], args := [d1, d2] }
  | _ => none }
def rerunJudgesRow : OpenClaim := { program := "ytnokfhkcfebimaagreat", sum := "426e4d60c8960f4a2a1c71e15efbd1513843aba1794d25108908da80e6dc1baa", func := "testgate/testgatelaw25.RerunJudges", spec := "rerunJudges", unfollowed := true, recurses := true, apart := false }
def RerunJudgesSaid : Prop := rerunJudgesRow.holds Tryz.pinned (OpenSpec.ofChange rerunJudgesSpec)

/-- ITS FALSE NEIGHBOUR: 'it returns false'. Refute it at one input. -/
def rerunJudgesWrong : ChangeSpec := { name := "rerunJudges", fn := fun _ => fun
  | [d1, d2] => { results := [.lit (.bool false)], args := [d1, d2] }
  | _ => none }
def RerunJudgesWrongFalsely : Prop := rerunJudgesRow.holds Tryz.pinned (OpenSpec.ofChange rerunJudgesWrong)

/-- 'testgatelaw25.RerunLeast': WHATEVER THE INPUT: true; the input reads as it did. -/
def rerunLeastSpec : ChangeSpec := { name := "rerunLeast", fn := fun _ => fun
  | [d] => { results := [.lit (.bool true)], args := [d] }
  | _ => none }
def rerunLeastRow : OpenClaim := { program := "ytnokfhkcfebimaagreat", sum := "426e4d60c8960f4a2a1c71e15efbd1513843aba1794d25108908da80e6dc1baa", func := "testgate/testgatelaw25.RerunLeast", spec := "rerunLeast", unfollowed := true, recurses := true, apart := false }
def RerunLeastSaid : Prop := rerunLeastRow.holds Tryz.pinned (OpenSpec.ofChange rerunLeastSpec)

/-- ITS FALSE NEIGHBOUR: 'it returns false'. Refute it at one input. -/
def rerunLeastWrong : ChangeSpec := { name := "rerunLeast", fn := fun _ => fun
  | [d] => { results := [.lit (.bool false)], args := [d] }
  | _ => none }
def RerunLeastWrongFalsely : Prop := rerunLeastRow.holds Tryz.pinned (OpenSpec.ofChange rerunLeastWrong)

/-- 'testgatelaw25.RerunSpecs': WHATEVER THE INPUT: true; the input reads as it did. -/
def rerunSpecsSpec : ChangeSpec := { name := "rerunSpecs", fn := fun _ => fun
  | [d1, d2, d3] => { results := [.lit (.bool true)], args := [d1, d2, d3] }
  | _ => none }
def rerunSpecsRow : OpenClaim := { program := "ytnokfhkcfebimaagreat", sum := "426e4d60c8960f4a2a1c71e15efbd1513843aba1794d25108908da80e6dc1baa", func := "testgate/testgatelaw25.RerunSpecs", spec := "rerunSpecs", unfollowed := true, recurses := true, apart := false }
def RerunSpecsSaid : Prop := rerunSpecsRow.holds Tryz.pinned (OpenSpec.ofChange rerunSpecsSpec)

/-- ITS FALSE NEIGHBOUR: 'it returns false'. Refute it at one input. -/
def rerunSpecsWrong : ChangeSpec := { name := "rerunSpecs", fn := fun _ => fun
  | [d1, d2, d3] => { results := [.lit (.bool false)], args := [d1, d2, d3] }
  | _ => none }
def RerunSpecsWrongFalsely : Prop := rerunSpecsRow.holds Tryz.pinned (OpenSpec.ofChange rerunSpecsWrong)

/-- 'testgatelaw38.ReportBounds': WHATEVER THE INPUT: true; the input reads as it did. -/
def reportBoundsSpec : ChangeSpec := { name := "reportBounds", fn := fun _ => fun
  | [d1, d2, d3, d4] => { results := [.lit (.bool true)], args := [d1, d2, d3, d4] }
  | _ => none }
def reportBoundsRow : OpenClaim := { program := "ytnokfhkcfebimaagreat", sum := "426e4d60c8960f4a2a1c71e15efbd1513843aba1794d25108908da80e6dc1baa", func := "testgate/testgatelaw38.ReportBounds", spec := "reportBounds", unfollowed := true, recurses := true, apart := false }
def ReportBoundsSaid : Prop := reportBoundsRow.holds Tryz.pinned (OpenSpec.ofChange reportBoundsSpec)

/-- ITS FALSE NEIGHBOUR: 'it returns false'. Refute it at one input. -/
def reportBoundsWrong : ChangeSpec := { name := "reportBounds", fn := fun _ => fun
  | [d1, d2, d3, d4] => { results := [.lit (.bool false)], args := [d1, d2, d3, d4] }
  | _ => none }
def ReportBoundsWrongFalsely : Prop := reportBoundsRow.holds Tryz.pinned (OpenSpec.ofChange reportBoundsWrong)

/- THE SECOND FORM. 'bulk': how many values and letters a reading holds, each counted each time it is reached (what is shared counts as often as it is met; a slice's spare places count too). A statement '..UptoSaid' is the law's where the arguments, and the package variables that the reading takes, are together of bulk at most 1048576: NARROWER than '..Said'. Prove '..Said' where nothing that the law and all that it calls make is longer than what came in: it says more and counts as full. Else prove '..UptoSaid'. A law counts once. -/
mutual
def uptoBulk {H : Type} : DataW H → Nat
  | .lit (.string bytes) => bytes.length + 1
  | .lit _ => 1
  | .nil => 1
  | .ptr d => uptoBulk d + 1
  | .slice elems spare => uptoBulkAll elems + uptoBulkAll spare + 1
  | .agg parts => uptoBulkAll parts + 1
  | .iface _ d => uptoBulk d + 1
  | .map entries => uptoBulkEntries entries + 1
  | .held _ => 1
def uptoBulkAll {H : Type} : List (DataW H) → Nat
  | [] => 0
  | d :: r => uptoBulk d + uptoBulkAll r
def uptoBulkEntries {H : Type} : List (Lit × DataW H) → Nat
  | [] => 0
  | x :: r => uptoBulkEntry x + uptoBulkEntries r
def uptoBulkEntry {H : Type} : Lit × DataW H → Nat
  | (.string bytes, d) => bytes.length + uptoBulk d + 1
  | (_, d) => uptoBulk d + 1
 end
def uptoSmall : (H : Type) → List (DataW H) → Bool := fun _ ds => decide (uptoBulkAll ds ≤ 1048576)
def OpenSpec.upto (s : _root_.Go.ChangeSpec) : _root_.Go.OpenSpec := { _root_.Go.OpenSpec.ofChange s with cond := some uptoSmall }

/-- 'testgatelaw23.SequentialErrors', WHERE WHAT IT READS IS OF BULK AT MOST 1048576: true; the input reads as it did. -/
def sequentialErrorsUptoRow : OpenClaim := { program := "ytnokfhkcfebimaagreat", sum := "426e4d60c8960f4a2a1c71e15efbd1513843aba1794d25108908da80e6dc1baa", func := "testgate/testgatelaw23.SequentialErrors", spec := "sequentialErrors", unfollowed := true, recurses := true, apart := false, narrowed := true }
def SequentialErrorsUptoSaid : Prop := sequentialErrorsUptoRow.holds Tryz.pinned (OpenSpec.upto sequentialErrorsSpec)

/-- 'testgatelaw25.RerunJudges', WHERE WHAT IT READS IS OF BULK AT MOST 1048576: true; the input reads as it did. -/
def rerunJudgesUptoRow : OpenClaim := { program := "ytnokfhkcfebimaagreat", sum := "426e4d60c8960f4a2a1c71e15efbd1513843aba1794d25108908da80e6dc1baa", func := "testgate/testgatelaw25.RerunJudges", spec := "rerunJudges", unfollowed := true, recurses := true, apart := false, narrowed := true }
def RerunJudgesUptoSaid : Prop := rerunJudgesUptoRow.holds Tryz.pinned (OpenSpec.upto rerunJudgesSpec)

/-- 'testgatelaw25.RerunLeast', WHERE WHAT IT READS IS OF BULK AT MOST 1048576: true; the input reads as it did. -/
def rerunLeastUptoRow : OpenClaim := { program := "ytnokfhkcfebimaagreat", sum := "426e4d60c8960f4a2a1c71e15efbd1513843aba1794d25108908da80e6dc1baa", func := "testgate/testgatelaw25.RerunLeast", spec := "rerunLeast", unfollowed := true, recurses := true, apart := false, narrowed := true }
def RerunLeastUptoSaid : Prop := rerunLeastUptoRow.holds Tryz.pinned (OpenSpec.upto rerunLeastSpec)

/-- 'testgatelaw25.RerunSpecs', WHERE WHAT IT READS IS OF BULK AT MOST 1048576: true; the input reads as it did. -/
def rerunSpecsUptoRow : OpenClaim := { program := "ytnokfhkcfebimaagreat", sum := "426e4d60c8960f4a2a1c71e15efbd1513843aba1794d25108908da80e6dc1baa", func := "testgate/testgatelaw25.RerunSpecs", spec := "rerunSpecs", unfollowed := true, recurses := true, apart := false, narrowed := true }
def RerunSpecsUptoSaid : Prop := rerunSpecsUptoRow.holds Tryz.pinned (OpenSpec.upto rerunSpecsSpec)

/-- 'testgatelaw38.ReportBounds', WHERE WHAT IT READS IS OF BULK AT MOST 1048576: true; the input reads as it did. -/
def reportBoundsUptoRow : OpenClaim := { program := "ytnokfhkcfebimaagreat", sum := "426e4d60c8960f4a2a1c71e15efbd1513843aba1794d25108908da80e6dc1baa", func := "testgate/testgatelaw38.ReportBounds", spec := "reportBounds", unfollowed := true, recurses := true, apart := false, narrowed := true }
def ReportBoundsUptoSaid : Prop := reportBoundsUptoRow.holds Tryz.pinned (OpenSpec.upto reportBoundsSpec)

end Rows
end Go.Proofs.YtnokfhkcfebimaaGreat
