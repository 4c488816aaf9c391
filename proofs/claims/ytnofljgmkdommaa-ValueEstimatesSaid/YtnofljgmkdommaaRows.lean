/-
  No cell of these rows narrows 'for every input' (looked for: loops, veiled, ifaces, maps, wideKeys, modest, calm, conditions, laid).
  DERIVED. THE GIVEN ROWS OF THIS SEAT. 7 by the template 'for every input the law returns true; each argument reads behind the call as it read before'; 0 by the template 'total and deterministic' (their statements: YtnofljgmkdommaaTotals.lean).
  GIVEN WITH THE SEED: the statements are not yours to turn. If you find one false, say at which input.
  Laid BY PROGRAM, IN A SANDBOX (cutbox-rows.mjs): the forced cells as the released guide's own fill.sh prints them over the translation 3b90852c9702bcc0… (all of the seat's roots in one cut). By AI agents, Wed Nov 11 2026. No macro, syntax, notation, axiom, sorry.
-/
import Derived.Test.YtnofljgmkdommaaChecked
import GoSem.Claim
import GoSem.ClaimJoined
import GoSem.ClaimMapViews
import Derived.JoinedTies
import Derived.KernelRfl
namespace Go.Proofs.Ytnofljgmkdommaa
/- THE CELL 'sum', in the pinned program and in every row, IS THE sha256 OF THE DUMP (.gsa) THAT YtnofljgmkdommaaProg.lean LOADS. Nothing in Lean hashes anything: it is a label: what it is worth is what the hold of that sum in a sandbox is worth. -/
noncomputable def Try.pinned : Pinned := { name := "ytnofljgmkdommaa", sum := "3b90852c9702bcc0b1dd7e4317dcbf55c197c337108d3bd4cf3bd265e1011330", checked := Try.checked }
namespace Rows
def none {H : Type} : Left H := { results := [], args := [] }

/-- 'testgatelaw28.ValueEstimates': WHATEVER THE INPUT: true; the input reads as it did. -/
def valueEstimatesSpec : ChangeSpec := { name := "valueEstimates", fn := fun _ => fun
  | [d1, d2] => { results := [.lit (.bool true)], args := [d1, d2] }
  | _ => none }
def valueEstimatesRow : OpenClaim := { program := "ytnofljgmkdommaa", sum := "3b90852c9702bcc0b1dd7e4317dcbf55c197c337108d3bd4cf3bd265e1011330", func := "testgate/testgatelaw28.ValueEstimates", spec := "valueEstimates", unfollowed := true, recurses := true, apart := false }
def ValueEstimatesSaid : Prop := valueEstimatesRow.holds Try.pinned (OpenSpec.ofChange valueEstimatesSpec)

/-- ITS FALSE NEIGHBOUR: 'it returns false'. Refute it at one input. -/
def valueEstimatesWrong : ChangeSpec := { name := "valueEstimates", fn := fun _ => fun
  | [d1, d2] => { results := [.lit (.bool false)], args := [d1, d2] }
  | _ => none }
def ValueEstimatesWrongFalsely : Prop := valueEstimatesRow.holds Try.pinned (OpenSpec.ofChange valueEstimatesWrong)

/-- 'testgatelaw28.ValueDiscounts': WHATEVER THE INPUT: true; the input reads as it did. -/
def valueDiscountsSpec : ChangeSpec := { name := "valueDiscounts", fn := fun _ => fun
  | [d1, d2] => { results := [.lit (.bool true)], args := [d1, d2] }
  | _ => none }
def valueDiscountsRow : OpenClaim := { program := "ytnofljgmkdommaa", sum := "3b90852c9702bcc0b1dd7e4317dcbf55c197c337108d3bd4cf3bd265e1011330", func := "testgate/testgatelaw28.ValueDiscounts", spec := "valueDiscounts", unfollowed := true, recurses := true, apart := false }
def ValueDiscountsSaid : Prop := valueDiscountsRow.holds Try.pinned (OpenSpec.ofChange valueDiscountsSpec)

/-- ITS FALSE NEIGHBOUR: 'it returns false'. Refute it at one input. -/
def valueDiscountsWrong : ChangeSpec := { name := "valueDiscounts", fn := fun _ => fun
  | [d1, d2] => { results := [.lit (.bool false)], args := [d1, d2] }
  | _ => none }
def ValueDiscountsWrongFalsely : Prop := valueDiscountsRow.holds Try.pinned (OpenSpec.ofChange valueDiscountsWrong)

/-- 'testgatelaw28.ValueSame': WHATEVER THE INPUT: true; the input reads as it did. -/
def valueSameSpec : ChangeSpec := { name := "valueSame", fn := fun _ => fun
  | [d] => { results := [.lit (.bool true)], args := [d] }
  | _ => none }
def valueSameRow : OpenClaim := { program := "ytnofljgmkdommaa", sum := "3b90852c9702bcc0b1dd7e4317dcbf55c197c337108d3bd4cf3bd265e1011330", func := "testgate/testgatelaw28.ValueSame", spec := "valueSame", unfollowed := true, recurses := true, apart := false }
def ValueSameSaid : Prop := valueSameRow.holds Try.pinned (OpenSpec.ofChange valueSameSpec)

/-- ITS FALSE NEIGHBOUR: 'it returns false'. Refute it at one input. -/
def valueSameWrong : ChangeSpec := { name := "valueSame", fn := fun _ => fun
  | [d] => { results := [.lit (.bool false)], args := [d] }
  | _ => none }
def ValueSameWrongFalsely : Prop := valueSameRow.holds Try.pinned (OpenSpec.ofChange valueSameWrong)

/-- 'testgatelaw28.ValueInner': WHATEVER THE INPUT: true; the input reads as it did. -/
def valueInnerSpec : ChangeSpec := { name := "valueInner", fn := fun _ => fun
  | [d] => { results := [.lit (.bool true)], args := [d] }
  | _ => none }
def valueInnerRow : OpenClaim := { program := "ytnofljgmkdommaa", sum := "3b90852c9702bcc0b1dd7e4317dcbf55c197c337108d3bd4cf3bd265e1011330", func := "testgate/testgatelaw28.ValueInner", spec := "valueInner", unfollowed := true, recurses := true, apart := false }
def ValueInnerSaid : Prop := valueInnerRow.holds Try.pinned (OpenSpec.ofChange valueInnerSpec)

/-- ITS FALSE NEIGHBOUR: 'it returns false'. Refute it at one input. -/
def valueInnerWrong : ChangeSpec := { name := "valueInner", fn := fun _ => fun
  | [d] => { results := [.lit (.bool false)], args := [d] }
  | _ => none }
def ValueInnerWrongFalsely : Prop := valueInnerRow.holds Try.pinned (OpenSpec.ofChange valueInnerWrong)

/-- 'testgatelaw28.ValueNewer': WHATEVER THE INPUT: true; the input reads as it did. -/
def valueNewerSpec : ChangeSpec := { name := "valueNewer", fn := fun _ => fun
  | [d1, d2, d3, d4] => { results := [.lit (.bool true)], args := [d1, d2, d3, d4] }
  | _ => none }
def valueNewerRow : OpenClaim := { program := "ytnofljgmkdommaa", sum := "3b90852c9702bcc0b1dd7e4317dcbf55c197c337108d3bd4cf3bd265e1011330", func := "testgate/testgatelaw28.ValueNewer", spec := "valueNewer", unfollowed := true, recurses := true, apart := false }
def ValueNewerSaid : Prop := valueNewerRow.holds Try.pinned (OpenSpec.ofChange valueNewerSpec)

/-- ITS FALSE NEIGHBOUR: 'it returns false'. Refute it at one input. -/
def valueNewerWrong : ChangeSpec := { name := "valueNewer", fn := fun _ => fun
  | [d1, d2, d3, d4] => { results := [.lit (.bool false)], args := [d1, d2, d3, d4] }
  | _ => none }
def ValueNewerWrongFalsely : Prop := valueNewerRow.holds Try.pinned (OpenSpec.ofChange valueNewerWrong)

/-- 'testgatelaw28.ValueValues': WHATEVER THE INPUT: true; the input reads as it did. -/
def valueValuesSpec : ChangeSpec := { name := "valueValues", fn := fun _ => fun
  | [d1, d2, d3, d4, d5] => { results := [.lit (.bool true)], args := [d1, d2, d3, d4, d5] }
  | _ => none }
def valueValuesRow : OpenClaim := { program := "ytnofljgmkdommaa", sum := "3b90852c9702bcc0b1dd7e4317dcbf55c197c337108d3bd4cf3bd265e1011330", func := "testgate/testgatelaw28.ValueValues", spec := "valueValues", unfollowed := true, recurses := true, apart := false }
def ValueValuesSaid : Prop := valueValuesRow.holds Try.pinned (OpenSpec.ofChange valueValuesSpec)

/-- ITS FALSE NEIGHBOUR: 'it returns false'. Refute it at one input. -/
def valueValuesWrong : ChangeSpec := { name := "valueValues", fn := fun _ => fun
  | [d1, d2, d3, d4, d5] => { results := [.lit (.bool false)], args := [d1, d2, d3, d4, d5] }
  | _ => none }
def ValueValuesWrongFalsely : Prop := valueValuesRow.holds Try.pinned (OpenSpec.ofChange valueValuesWrong)

/-- 'testgatelaw28.ValueBetween': WHATEVER THE INPUT: true; the input reads as it did. -/
def valueBetweenSpec : ChangeSpec := { name := "valueBetween", fn := fun _ => fun
  | [d1, d2, d3] => { results := [.lit (.bool true)], args := [d1, d2, d3] }
  | _ => none }
def valueBetweenRow : OpenClaim := { program := "ytnofljgmkdommaa", sum := "3b90852c9702bcc0b1dd7e4317dcbf55c197c337108d3bd4cf3bd265e1011330", func := "testgate/testgatelaw28.ValueBetween", spec := "valueBetween", unfollowed := true, recurses := true, apart := false }
def ValueBetweenSaid : Prop := valueBetweenRow.holds Try.pinned (OpenSpec.ofChange valueBetweenSpec)

/-- ITS FALSE NEIGHBOUR: 'it returns false'. Refute it at one input. -/
def valueBetweenWrong : ChangeSpec := { name := "valueBetween", fn := fun _ => fun
  | [d1, d2, d3] => { results := [.lit (.bool false)], args := [d1, d2, d3] }
  | _ => none }
def ValueBetweenWrongFalsely : Prop := valueBetweenRow.holds Try.pinned (OpenSpec.ofChange valueBetweenWrong)

/- THE SECOND FORM. 'bulk': how many values and letters a reading holds, each counted each time it is reached (what is shared counts as often as it is met; a slice's spare places count too). A statement '..UptoSaid' is the law's where the arguments, and the package variables that the reading takes, are together of bulk at most 1048576: NARROWER than '..Said'. Prove '..Said' where nothing that the law and all that it calls make is longer than what came in: it says more and counts as full. Else prove '..UptoSaid'. A law counts once. -/
mutual
def uptoBulk {H : Type} : DataW H → Nat
  | .lit (.string bytes) => bytes.length + 1
  | .lit _ => 1
  | .nil => 1
  | .ptr d => uptoBulk d + 1
  | .slice elems spare => uptoBulkAll elems + uptoBulkAll spare + 1
  | .agg parts => uptoBulkAll parts + 1
  | .iface _ d => uptoBulk d + 1
  | .map entries => uptoBulkEntries entries + 1
  | .held _ => 1
def uptoBulkAll {H : Type} : List (DataW H) → Nat
  | [] => 0
  | d :: r => uptoBulk d + uptoBulkAll r
def uptoBulkEntries {H : Type} : List (Lit × DataW H) → Nat
  | [] => 0
  | x :: r => uptoBulkEntry x + uptoBulkEntries r
def uptoBulkEntry {H : Type} : Lit × DataW H → Nat
  | (.string bytes, d) => bytes.length + uptoBulk d + 1
  | (_, d) => uptoBulk d + 1
 end
def uptoSmall : (H : Type) → List (DataW H) → Bool := fun _ ds => decide (uptoBulkAll ds ≤ 1048576)
def OpenSpec.upto (s : _root_.Go.ChangeSpec) : _root_.Go.OpenSpec := { _root_.Go.OpenSpec.ofChange s with cond := some uptoSmall }

/-- 'testgatelaw28.ValueEstimates', WHERE WHAT IT READS IS OF BULK AT MOST 1048576: true; the input reads as it did. -/
def valueEstimatesUptoRow : OpenClaim := { program := "ytnofljgmkdommaa", sum := "3b90852c9702bcc0b1dd7e4317dcbf55c197c337108d3bd4cf3bd265e1011330", func := "testgate/testgatelaw28.ValueEstimates", spec := "valueEstimates", unfollowed := true, recurses := true, apart := false, narrowed := true }
def ValueEstimatesUptoSaid : Prop := valueEstimatesUptoRow.holds Try.pinned (OpenSpec.upto valueEstimatesSpec)

/-- 'testgatelaw28.ValueDiscounts', WHERE WHAT IT READS IS OF BULK AT MOST 1048576: true; the input reads as it did. -/
def valueDiscountsUptoRow : OpenClaim := { program := "ytnofljgmkdommaa", sum := "3b90852c9702bcc0b1dd7e4317dcbf55c197c337108d3bd4cf3bd265e1011330", func := "testgate/testgatelaw28.ValueDiscounts", spec := "valueDiscounts", unfollowed := true, recurses := true, apart := false, narrowed := true }
def ValueDiscountsUptoSaid : Prop := valueDiscountsUptoRow.holds Try.pinned (OpenSpec.upto valueDiscountsSpec)

/-- 'testgatelaw28.ValueSame', WHERE WHAT IT READS IS OF BULK AT MOST 1048576: true; the input reads as it did. -/
def valueSameUptoRow : OpenClaim := { program := "ytnofljgmkdommaa", sum := "3b90852c9702bcc0b1dd7e4317dcbf55c197c337108d3bd4cf3bd265e1011330", func := "testgate/testgatelaw28.ValueSame", spec := "valueSame", unfollowed := true, recurses := true, apart := false, narrowed := true }
def ValueSameUptoSaid : Prop := valueSameUptoRow.holds Try.pinned (OpenSpec.upto valueSameSpec)

/-- 'testgatelaw28.ValueInner', WHERE WHAT IT READS IS OF BULK AT MOST 1048576: true; the input reads as it did. -/
def valueInnerUptoRow : OpenClaim := { program := "ytnofljgmkdommaa", sum := "3b90852c9702bcc0b1dd7e4317dcbf55c197c337108d3bd4cf3bd265e1011330", func := "testgate/testgatelaw28.ValueInner", spec := "valueInner", unfollowed := true, recurses := true, apart := false, narrowed := true }
def ValueInnerUptoSaid : Prop := valueInnerUptoRow.holds Try.pinned (OpenSpec.upto valueInnerSpec)

/-- 'testgatelaw28.ValueNewer', WHERE WHAT IT READS IS OF BULK AT MOST 1048576: true; the input reads as it did. -/
def valueNewerUptoRow : OpenClaim := { program := "ytnofljgmkdommaa", sum := "3b90852c9702bcc0b1dd7e4317dcbf55c197c337108d3bd4cf3bd265e1011330", func := "testgate/testgatelaw28.ValueNewer", spec := "valueNewer", unfollowed := true, recurses := true, apart := false, narrowed := true }
def ValueNewerUptoSaid : Prop := valueNewerUptoRow.holds Try.pinned (OpenSpec.upto valueNewerSpec)

/-- 'testgatelaw28.ValueValues', WHERE WHAT IT READS IS OF BULK AT MOST 1048576: true; the input reads as it did. -/
def valueValuesUptoRow : OpenClaim := { program := "ytnofljgmkdommaa", sum := "3b90852c9702bcc0b1dd7e4317dcbf55c197c337108d3bd4cf3bd265e1011330", func := "testgate/testgatelaw28.ValueValues", spec := "valueValues", unfollowed := true, recurses := true, apart := false, narrowed := true }
def ValueValuesUptoSaid : Prop := valueValuesUptoRow.holds Try.pinned (OpenSpec.upto valueValuesSpec)

/-- 'testgatelaw28.ValueBetween', WHERE WHAT IT READS IS OF BULK AT MOST 1048576: true; the input reads as it did. -/
def valueBetweenUptoRow : OpenClaim := { program := "ytnofljgmkdommaa", sum := "3b90852c9702bcc0b1dd7e4317dcbf55c197c337108d3bd4cf3bd265e1011330", func := "testgate/testgatelaw28.ValueBetween", spec := "valueBetween", unfollowed := true, recurses := true, apart := false, narrowed := true }
def ValueBetweenUptoSaid : Prop := valueBetweenUptoRow.holds Try.pinned (OpenSpec.upto valueBetweenSpec)

end Rows
end Go.Proofs.Ytnofljgmkdommaa
