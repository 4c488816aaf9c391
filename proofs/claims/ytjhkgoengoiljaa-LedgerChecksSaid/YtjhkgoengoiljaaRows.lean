/-
  No cell of these rows narrows 'for every input' (looked for: loops, veiled, ifaces, maps, wideKeys, modest, calm, conditions, laid).
  DERIVED. THE GIVEN ROWS OF THIS SEAT. 7 by the template 'for every input the law returns true; each argument reads behind the call as it read before'; 0 by the template 'total and deterministic' (their statements: YtjhkgoengoiljaaTotals.lean).
  GIVEN WITH THE SEED: the statements are not yours to turn. If you find one false, say at which input.
  Laid BY PROGRAM, IN A SANDBOX (cutbox-rows.mjs): the forced cells as the released guide's own fill.sh prints them over the translation 897217644e309513… (all of the seat's roots in one cut). By AI agents, Wed Nov 11 2026. No macro, syntax, notation, axiom, sorry.
-/
import Derived.Test.YtjhkgoengoiljaaChecked
import GoSem.Claim
import GoSem.ClaimJoined
import GoSem.ClaimMapViews
import Derived.JoinedTies
import Derived.KernelRfl
namespace Go.Proofs.Ytjhkgoengoiljaa
/- THE CELL 'sum', in the pinned program and in every row, IS THE sha256 OF THE DUMP (.gsa) THAT YtjhkgoengoiljaaProg.lean LOADS. Nothing in Lean hashes anything: it is a label: what it is worth is what the hold of that sum in a sandbox is worth. -/
noncomputable def Try.pinned : Pinned := { name := "ytjhkgoengoiljaa", sum := "897217644e309513326c2c3d2ef9a5af91c2390eaaebf903df4b48385f1d566d", checked := Try.checked }
namespace Rows
def none {H : Type} : Left H := { results := [], args := [] }

/-- 'testgatelaw33.LedgerPlays': WHATEVER THE INPUT: true; the input reads as it did. -/
def ledgerPlaysSpec : ChangeSpec := { name := "ledgerPlays", fn := fun _ => fun
  | [d] => { results := [.lit (.bool true)], args := [d] }
  | _ => none }
def ledgerPlaysRow : OpenClaim := { program := "ytjhkgoengoiljaa", sum := "897217644e309513326c2c3d2ef9a5af91c2390eaaebf903df4b48385f1d566d", func := "testgate/testgatelaw33.LedgerPlays", spec := "ledgerPlays", unfollowed := true, recurses := true, apart := false }
def LedgerPlaysSaid : Prop := ledgerPlaysRow.holds Try.pinned (OpenSpec.ofChange ledgerPlaysSpec)

/-- ITS FALSE NEIGHBOUR: 'it returns false'. Refute it at one input. -/
def ledgerPlaysWrong : ChangeSpec := { name := "ledgerPlays", fn := fun _ => fun
  | [d] => { results := [.lit (.bool false)], args := [d] }
  | _ => none }
def LedgerPlaysWrongFalsely : Prop := ledgerPlaysRow.holds Try.pinned (OpenSpec.ofChange ledgerPlaysWrong)

/-- 'testgatelaw33.LedgerOnce': WHATEVER THE INPUT: true; the input reads as it did. -/
def ledgerOnceSpec : ChangeSpec := { name := "ledgerOnce", fn := fun _ => fun
  | [d] => { results := [.lit (.bool true)], args := [d] }
  | _ => none }
def ledgerOnceRow : OpenClaim := { program := "ytjhkgoengoiljaa", sum := "897217644e309513326c2c3d2ef9a5af91c2390eaaebf903df4b48385f1d566d", func := "testgate/testgatelaw33.LedgerOnce", spec := "ledgerOnce", unfollowed := true, recurses := true, apart := false }
def LedgerOnceSaid : Prop := ledgerOnceRow.holds Try.pinned (OpenSpec.ofChange ledgerOnceSpec)

/-- ITS FALSE NEIGHBOUR: 'it returns false'. Refute it at one input. -/
def ledgerOnceWrong : ChangeSpec := { name := "ledgerOnce", fn := fun _ => fun
  | [d] => { results := [.lit (.bool false)], args := [d] }
  | _ => none }
def LedgerOnceWrongFalsely : Prop := ledgerOnceRow.holds Try.pinned (OpenSpec.ofChange ledgerOnceWrong)

/-- 'testgatelaw33.LedgerTwice': WHATEVER THE INPUT: true; the input reads as it did. -/
def ledgerTwiceSpec : ChangeSpec := { name := "ledgerTwice", fn := fun _ => fun
  | [d1, d2] => { results := [.lit (.bool true)], args := [d1, d2] }
  | _ => none }
def ledgerTwiceRow : OpenClaim := { program := "ytjhkgoengoiljaa", sum := "897217644e309513326c2c3d2ef9a5af91c2390eaaebf903df4b48385f1d566d", func := "testgate/testgatelaw33.LedgerTwice", spec := "ledgerTwice", unfollowed := true, recurses := true, apart := false }
def LedgerTwiceSaid : Prop := ledgerTwiceRow.holds Try.pinned (OpenSpec.ofChange ledgerTwiceSpec)

/-- ITS FALSE NEIGHBOUR: 'it returns false'. Refute it at one input. -/
def ledgerTwiceWrong : ChangeSpec := { name := "ledgerTwice", fn := fun _ => fun
  | [d1, d2] => { results := [.lit (.bool false)], args := [d1, d2] }
  | _ => none }
def LedgerTwiceWrongFalsely : Prop := ledgerTwiceRow.holds Try.pinned (OpenSpec.ofChange ledgerTwiceWrong)

/-- 'testgatelaw33.LedgerEnds': WHATEVER THE INPUT: true; the input reads as it did. -/
def ledgerEndsSpec : ChangeSpec := { name := "ledgerEnds", fn := fun _ => fun
  | [d1, d2] => { results := [.lit (.bool true)], args := [d1, d2] }
  | _ => none }
def ledgerEndsRow : OpenClaim := { program := "ytjhkgoengoiljaa", sum := "897217644e309513326c2c3d2ef9a5af91c2390eaaebf903df4b48385f1d566d", func := "testgate/testgatelaw33.LedgerEnds", spec := "ledgerEnds", unfollowed := true, recurses := true, apart := false }
def LedgerEndsSaid : Prop := ledgerEndsRow.holds Try.pinned (OpenSpec.ofChange ledgerEndsSpec)

/-- ITS FALSE NEIGHBOUR: 'it returns false'. Refute it at one input. -/
def ledgerEndsWrong : ChangeSpec := { name := "ledgerEnds", fn := fun _ => fun
  | [d1, d2] => { results := [.lit (.bool false)], args := [d1, d2] }
  | _ => none }
def LedgerEndsWrongFalsely : Prop := ledgerEndsRow.holds Try.pinned (OpenSpec.ofChange ledgerEndsWrong)

/-- 'testgatelaw33.LedgerCounts': WHATEVER THE INPUT: true; the input reads as it did. -/
def ledgerCountsSpec : ChangeSpec := { name := "ledgerCounts", fn := fun _ => fun
  | [d] => { results := [.lit (.bool true)], args := [d] }
  | _ => none }
def ledgerCountsRow : OpenClaim := { program := "ytjhkgoengoiljaa", sum := "897217644e309513326c2c3d2ef9a5af91c2390eaaebf903df4b48385f1d566d", func := "testgate/testgatelaw33.LedgerCounts", spec := "ledgerCounts", unfollowed := true, recurses := true, apart := false }
def LedgerCountsSaid : Prop := ledgerCountsRow.holds Try.pinned (OpenSpec.ofChange ledgerCountsSpec)

/-- ITS FALSE NEIGHBOUR: 'it returns false'. Refute it at one input. -/
def ledgerCountsWrong : ChangeSpec := { name := "ledgerCounts", fn := fun _ => fun
  | [d] => { results := [.lit (.bool false)], args := [d] }
  | _ => none }
def LedgerCountsWrongFalsely : Prop := ledgerCountsRow.holds Try.pinned (OpenSpec.ofChange ledgerCountsWrong)

/-- 'testgatelaw33.LedgerChecks': WHATEVER THE INPUT: true; the input reads as it did. -/
def ledgerChecksSpec : ChangeSpec := { name := "ledgerChecks", fn := fun _ => fun
  | [d1, d2, d3, d4] => { results := [.lit (.bool true)], args := [d1, d2, d3, d4] }
  | _ => none }
def ledgerChecksRow : OpenClaim := { program := "ytjhkgoengoiljaa", sum := "897217644e309513326c2c3d2ef9a5af91c2390eaaebf903df4b48385f1d566d", func := "testgate/testgatelaw33.LedgerChecks", spec := "ledgerChecks", unfollowed := true, recurses := true, apart := false }
def LedgerChecksSaid : Prop := ledgerChecksRow.holds Try.pinned (OpenSpec.ofChange ledgerChecksSpec)

/-- ITS FALSE NEIGHBOUR: 'it returns false'. Refute it at one input. -/
def ledgerChecksWrong : ChangeSpec := { name := "ledgerChecks", fn := fun _ => fun
  | [d1, d2, d3, d4] => { results := [.lit (.bool false)], args := [d1, d2, d3, d4] }
  | _ => none }
def LedgerChecksWrongFalsely : Prop := ledgerChecksRow.holds Try.pinned (OpenSpec.ofChange ledgerChecksWrong)

/-- 'testgatelaw33.LedgerExact': WHATEVER THE INPUT: true; the input reads as it did. -/
def ledgerExactSpec : ChangeSpec := { name := "ledgerExact", fn := fun _ => fun
  | [d] => { results := [.lit (.bool true)], args := [d] }
  | _ => none }
def ledgerExactRow : OpenClaim := { program := "ytjhkgoengoiljaa", sum := "897217644e309513326c2c3d2ef9a5af91c2390eaaebf903df4b48385f1d566d", func := "testgate/testgatelaw33.LedgerExact", spec := "ledgerExact", unfollowed := true, recurses := true, apart := false }
def LedgerExactSaid : Prop := ledgerExactRow.holds Try.pinned (OpenSpec.ofChange ledgerExactSpec)

/-- ITS FALSE NEIGHBOUR: 'it returns false'. Refute it at one input. -/
def ledgerExactWrong : ChangeSpec := { name := "ledgerExact", fn := fun _ => fun
  | [d] => { results := [.lit (.bool false)], args := [d] }
  | _ => none }
def LedgerExactWrongFalsely : Prop := ledgerExactRow.holds Try.pinned (OpenSpec.ofChange ledgerExactWrong)

/- THE SECOND FORM. 'bulk': how many values and letters a reading holds, each counted each time it is reached (what is shared counts as often as it is met; a slice's spare places count too). A statement '..UptoSaid' is the law's where the arguments, and the package variables that the reading takes, are together of bulk at most 1048576: NARROWER than '..Said'. Prove '..Said' where nothing that the law and all that it calls make is longer than what came in: it says more and counts as full. Else prove '..UptoSaid'. A law counts once. -/
mutual
def uptoBulk {H : Type} : DataW H → Nat
  | .lit (.string bytes) => bytes.length + 1
  | .lit _ => 1
  | .nil => 1
  | .ptr d => uptoBulk d + 1
  | .slice elems spare => uptoBulkAll elems + uptoBulkAll spare + 1
  | .agg parts => uptoBulkAll parts + 1
  | .iface _ d => uptoBulk d + 1
  | .map entries => uptoBulkEntries entries + 1
  | .held _ => 1
def uptoBulkAll {H : Type} : List (DataW H) → Nat
  | [] => 0
  | d :: r => uptoBulk d + uptoBulkAll r
def uptoBulkEntries {H : Type} : List (Lit × DataW H) → Nat
  | [] => 0
  | x :: r => uptoBulkEntry x + uptoBulkEntries r
def uptoBulkEntry {H : Type} : Lit × DataW H → Nat
  | (.string bytes, d) => bytes.length + uptoBulk d + 1
  | (_, d) => uptoBulk d + 1
 end
def uptoSmall : (H : Type) → List (DataW H) → Bool := fun _ ds => decide (uptoBulkAll ds ≤ 1048576)
def OpenSpec.upto (s : _root_.Go.ChangeSpec) : _root_.Go.OpenSpec := { _root_.Go.OpenSpec.ofChange s with cond := some uptoSmall }

/-- 'testgatelaw33.LedgerPlays', WHERE WHAT IT READS IS OF BULK AT MOST 1048576: true; the input reads as it did. -/
def ledgerPlaysUptoRow : OpenClaim := { program := "ytjhkgoengoiljaa", sum := "897217644e309513326c2c3d2ef9a5af91c2390eaaebf903df4b48385f1d566d", func := "testgate/testgatelaw33.LedgerPlays", spec := "ledgerPlays", unfollowed := true, recurses := true, apart := false, narrowed := true }
def LedgerPlaysUptoSaid : Prop := ledgerPlaysUptoRow.holds Try.pinned (OpenSpec.upto ledgerPlaysSpec)

/-- 'testgatelaw33.LedgerOnce', WHERE WHAT IT READS IS OF BULK AT MOST 1048576: true; the input reads as it did. -/
def ledgerOnceUptoRow : OpenClaim := { program := "ytjhkgoengoiljaa", sum := "897217644e309513326c2c3d2ef9a5af91c2390eaaebf903df4b48385f1d566d", func := "testgate/testgatelaw33.LedgerOnce", spec := "ledgerOnce", unfollowed := true, recurses := true, apart := false, narrowed := true }
def LedgerOnceUptoSaid : Prop := ledgerOnceUptoRow.holds Try.pinned (OpenSpec.upto ledgerOnceSpec)

/-- 'testgatelaw33.LedgerTwice', WHERE WHAT IT READS IS OF BULK AT MOST 1048576: true; the input reads as it did. -/
def ledgerTwiceUptoRow : OpenClaim := { program := "ytjhkgoengoiljaa", sum := "897217644e309513326c2c3d2ef9a5af91c2390eaaebf903df4b48385f1d566d", func := "testgate/testgatelaw33.LedgerTwice", spec := "ledgerTwice", unfollowed := true, recurses := true, apart := false, narrowed := true }
def LedgerTwiceUptoSaid : Prop := ledgerTwiceUptoRow.holds Try.pinned (OpenSpec.upto ledgerTwiceSpec)

/-- 'testgatelaw33.LedgerEnds', WHERE WHAT IT READS IS OF BULK AT MOST 1048576: true; the input reads as it did. -/
def ledgerEndsUptoRow : OpenClaim := { program := "ytjhkgoengoiljaa", sum := "897217644e309513326c2c3d2ef9a5af91c2390eaaebf903df4b48385f1d566d", func := "testgate/testgatelaw33.LedgerEnds", spec := "ledgerEnds", unfollowed := true, recurses := true, apart := false, narrowed := true }
def LedgerEndsUptoSaid : Prop := ledgerEndsUptoRow.holds Try.pinned (OpenSpec.upto ledgerEndsSpec)

/-- 'testgatelaw33.LedgerCounts', WHERE WHAT IT READS IS OF BULK AT MOST 1048576: true; the input reads as it did. -/
def ledgerCountsUptoRow : OpenClaim := { program := "ytjhkgoengoiljaa", sum := "897217644e309513326c2c3d2ef9a5af91c2390eaaebf903df4b48385f1d566d", func := "testgate/testgatelaw33.LedgerCounts", spec := "ledgerCounts", unfollowed := true, recurses := true, apart := false, narrowed := true }
def LedgerCountsUptoSaid : Prop := ledgerCountsUptoRow.holds Try.pinned (OpenSpec.upto ledgerCountsSpec)

/-- 'testgatelaw33.LedgerChecks', WHERE WHAT IT READS IS OF BULK AT MOST 1048576: true; the input reads as it did. -/
def ledgerChecksUptoRow : OpenClaim := { program := "ytjhkgoengoiljaa", sum := "897217644e309513326c2c3d2ef9a5af91c2390eaaebf903df4b48385f1d566d", func := "testgate/testgatelaw33.LedgerChecks", spec := "ledgerChecks", unfollowed := true, recurses := true, apart := false, narrowed := true }
def LedgerChecksUptoSaid : Prop := ledgerChecksUptoRow.holds Try.pinned (OpenSpec.upto ledgerChecksSpec)

/-- 'testgatelaw33.LedgerExact', WHERE WHAT IT READS IS OF BULK AT MOST 1048576: true; the input reads as it did. -/
def ledgerExactUptoRow : OpenClaim := { program := "ytjhkgoengoiljaa", sum := "897217644e309513326c2c3d2ef9a5af91c2390eaaebf903df4b48385f1d566d", func := "testgate/testgatelaw33.LedgerExact", spec := "ledgerExact", unfollowed := true, recurses := true, apart := false, narrowed := true }
def LedgerExactUptoSaid : Prop := ledgerExactUptoRow.holds Try.pinned (OpenSpec.upto ledgerExactSpec)

end Rows
end Go.Proofs.Ytjhkgoengoiljaa
