/- Contracts of the functions that these laws reach: part 18: The state of rerun.judge between two rounds; contract: the iterator; A range over a function at the wide fence, for an iterator that keeps a count in a cell; plain facts of rerun.judge; Contract: rerun.judge; Contracts: rerun.Judge, the rerun laws' example; Contracts: the noise law's one and known; Contracts: the law's bits; Rows of attempts of a call's own; contract: the maker of attempts; Contract: the rerun laws' known; Plain laws of verdicts; boxes and the tape; Plain laws of verdicts: more attempts, fewer attempts; a row of attempts is appended; Plain laws of verdicts: what hides behind each; Plain laws: how many further attempts can decide; Plain laws: no fewer further attempts than Least decide, and some of Least ones do; Plain laws of the sequential tests' chances: the value of a run, the rows of chances, Wald's bounds; Plain laws: chances over a power of a denominator are small; Rows of fractions that a call owns; append onto them; Contracts: fraction.fold with Add, Sum; Contracts: fraction.Sum; Plain law: the chances of all sequences of n outcomes, by their numbers of failures; Plain law of RerunBounds: the sums over all sequences of further runs; Contract: SameFrac of two fractions that differ; Contract: sequential.add: a fraction is added to the one in a place; A block that holds a row of fractions: made, copied, changed in one place; The boxes of sequential.walk; contract: its spread (walk$2); Plain laws of runs of outcomes for the law SequentialFirst; rows of bools that grow by a row; Contract: the step of sequential.walk (walk$1); Contract: sequential.walk; Contracts: sequential.Errors, Expected; The walk of the law SequentialAlpha; Contract: rerun.Chances; rows of bools and of attempts beside each other; Rows of a call's own, of any kind of element, beside a tape and beside each other; Plain laws of the ledger: a step keeps a ledger well-formed; Plain law of the summary: the ledgers of the law's book, what was spent, the sums over choices, the audits that differ. No program here; Contracts of the leaves. -/
import Derived.Test.YtjkffgcikbkjeaaGreatP17
import Derived.Test.YtjkffgcikbkjeaaGreatP11
import Derived.Test.YtjkffgcikbkjeaaGreatP1
import Derived.Test.YtjkffgcikbkjeaaGreatP16
import Derived.IntWalk
import Derived.Test.YtjkffgcikbkjeaaGreatP3
import Derived.Test.YtjkffgcikbkjeaaGreatProg
set_option linter.unusedVariables false
set_option linter.unusedSimpArgs false

/- The state of rerun.judge between two rounds; contract: the iterator. -/
namespace Go.Proofs.YtjkffgcikbkjeaaGreat
open Go.RowKit Go.Shelf
attribute [local go_sem] Oper.semAt_some

/-- Nothing of the old has turned, and the verdict, the attempts used, the runs that failed lie in their boxes; so do the loop's record and the block of its deferred calls. -/
structure JW (w0 : World) (s : Sv) (A : Option Addr) (n c : Nat) (u f : Int) (D : Nat) (rc : Loop) (W : World) : Prop where
  bw : Below w0.heap.size w0 W
  sp : Cb W w0.heap.size s.cs
  li : Cb W (w0.heap.size + 1) [.slice A n c]
  vd : Cb W (w0.heap.size + 1 + 1) [.int .i64 0]
  us : Cb W (w0.heap.size + 1 + 1 + 1) [.int .i64 u]
  fa : Cb W (w0.heap.size + 1 + 1 + 1 + 1) [.int .i64 f]
  i0 : Cb W (w0.heap.size + 1 + 1 + 1 + 1 + 1) [.slice A n c]
  i1 : Cb W (w0.heap.size + 1 + 1 + 1 + 1 + 1 + 1) [.pointer (some ⟨w0.heap.size + 1 + 1 + 1, 0, none⟩)]
  df : W.heap[D]? = some (.deferred (some []))
  lo : W.heap[D + 1]? = some (.loop rc)
  dl : w0.heap.size + 7 ≤ D
section
variable {w0 : World} {s : Sv} {A : Option Addr} {n c : Nat} {u f : Int} {D : Nat} {rc : Loop} {W W' : World}
end

end Go.Proofs.YtjkffgcikbkjeaaGreat

/- A range over a function at the wide fence, for an iterator that keeps a count in a cell; plain facts of rerun.judge. -/
namespace Go.Proofs.YtjkffgcikbkjeaaGreat
open Go.RowKit Go.Shelf
attribute [local go_sem] Oper.semAt_some

/-- What a run of rounds has come to: k attempts are used, f of the random ones failed. -/
def JI (g : Nat → Nat → Int) (M : Nat) (xs : List (Bool × Bool)) (k : Nat) (f : Int) : Prop :=
  ∃ m : Nat, f = (m : Int) ∧ ((k = 0 ∧ m = 0) ∨ ∃ r0, xs[0]? = some (true, r0) ∧ 1 ≤ k ∧ m + 1 ≤ k ∧ k ≤ M ∧ (2 ≤ k → r0 = true) ∧ jud g xs = judL g r0 (xs.drop k) k (k - 1 - m) m)
/-- A round has left: the verdict and the attempts used lie in their boxes. -/
structure JX (w0 : World) (v u : Int) (D : Nat) (rc : Loop) (W : World) : Prop where
  bw : Below w0.heap.size w0 W
  vd : Cb W (w0.heap.size + 1 + 1) [.int .i64 v]
  us : Cb W (w0.heap.size + 1 + 1 + 1) [.int .i64 u]
  df : W.heap[D]? = some (.deferred (some []))
  lo : W.heap[D + 1]? = some (.loop rc)
  dl : w0.heap.size + 7 ≤ D
section
variable {w0 : World} {s : Sv} {A : Option Addr} {n c : Nat} {u f v : Int} {D : Nat} {rc : Loop} {W W' : World}
end
/-- Behind the call of the iterator's maker. -/
structure JP (w0 : World) (s : Sv) (A : Option Addr) (n c : Nat) (W : World) : Prop where
  bw : Below w0.heap.size w0 W
  sp : Cb W w0.heap.size s.cs
  li : Cb W (w0.heap.size + 1) [.slice A n c]
  vd : Cb W (w0.heap.size + 1 + 1) [.int .i64 0]
  us : Cb W (w0.heap.size + 1 + 1 + 1) [.int .i64 0]
  fa : Cb W (w0.heap.size + 1 + 1 + 1 + 1) [.int .i64 0]
  i0 : Cb W (w0.heap.size + 1 + 1 + 1 + 1 + 1) [.slice A n c]
  i1 : Cb W (w0.heap.size + 1 + 1 + 1 + 1 + 1 + 1) [.pointer (some ⟨w0.heap.size + 1 + 1 + 1, 0, none⟩)]
  sz : W.heap.size = w0.heap.size + 7
end Go.Proofs.YtjkffgcikbkjeaaGreat

/- Contract: rerun.judge. -/
namespace Go.Proofs.YtjkffgcikbkjeaaGreat
open Go.RowKit Go.Shelf
attribute [local go_sem] Oper.semAt_some

end Go.Proofs.YtjkffgcikbkjeaaGreat

/- Contracts: rerun.Judge, the rerun laws' example. -/
namespace Go.Proofs.YtjkffgcikbkjeaaGreat
open Go.RowKit

end Go.Proofs.YtjkffgcikbkjeaaGreat

/- Contracts: the noise law's one and known. -/
namespace Go.Proofs.YtjkffgcikbkjeaaGreat
open Go.RowKit

end Go.Proofs.YtjkffgcikbkjeaaGreat

/- Contracts: the law's bits. -/
namespace Go.Proofs.YtjkffgcikbkjeaaGreat
open Go.RowKit

/-- A slice of bools of a call's own. -/
structure OBl (w0 w : World) (A : Option Addr) (m c : Nat) (l : List Bool) : Prop where
  own : w.ownsRow w0.heap.size 4 1 (.slice A m c) m (l.flatMap bv)
  len : l.length = m
  fr : Fr w0 w (fun _ => False)
/-- The bits of a number, the least first. -/
def bitL (x n : Nat) : List Bool := (List.range n).map fun i => decide (x / 2 ^ i % 2 = 1)
end Go.Proofs.YtjkffgcikbkjeaaGreat

/- Rows of attempts of a call's own; contract: the maker of attempts. -/
namespace Go.Proofs.YtjkffgcikbkjeaaGreat
open Go.RowKit

section
variable {w0 w w' : World} {T : Nat} {A : Option Addr} {m c : Nat} {l : List (Bool × Bool)}
end
end Go.Proofs.YtjkffgcikbkjeaaGreat

/- Contract: the rerun laws' known. -/
namespace Go.Proofs.YtjkffgcikbkjeaaGreat
open Go.RowKit

end Go.Proofs.YtjkffgcikbkjeaaGreat

/- Plain laws of verdicts; boxes and the tape. -/
namespace Go.Proofs.YtjkffgcikbkjeaaGreat
open Go.RowKit

end Go.Proofs.YtjkffgcikbkjeaaGreat

/- Plain laws of verdicts: more attempts, fewer attempts; a row of attempts is appended. -/
namespace Go.Proofs.YtjkffgcikbkjeaaGreat
open Go.RowKit

end Go.Proofs.YtjkffgcikbkjeaaGreat

/- Plain laws of verdicts: what hides behind each. -/
namespace Go.Proofs.YtjkffgcikbkjeaaGreat
open Go.RowKit

/-- How many failed. -/
def cntF (xs : List (Bool × Bool)) : Nat := xs.countP (·.1)
/-- What a verdict says of the attempts used. -/
def Hides (M : Nat) (n : Nat) (r0 : Bool) (v : Int) (u F : Nat) : Prop :=
  u ≤ n ∧ 1 ≤ F ∧ ((v = 1 ∧ 2 ≤ F) ∨ (v = 2 ∧ F < u ∧ r0 = true) ∨ (v = 4 ∧ 2 ≤ u) ∨ (v = 3 ∧ u = M + 1) ∨ (v = 0 ∧ u = n))
end Go.Proofs.YtjkffgcikbkjeaaGreat

/- Plain laws: how many further attempts can decide. -/
namespace Go.Proofs.YtjkffgcikbkjeaaGreat
open Go.RowKit

/-- m further runs, all alike, can decide, and no fewer. -/
def lstP (g : Nat → Nat → Int) (p f m : Nat) : Prop := 1 ≤ m ∧ (g (p + m) f ≠ 0 ∨ g p (f + m) ≠ 0) ∧ ∀ j, 1 ≤ j → j < m → g (p + j) f = 0 ∧ g p (f + j) = 0
/-- What Least returns. -/
def IsLv (g : Nat → Nat → Int) (M : Nat) (xs : List (Bool × Bool)) (L : Nat) : Prop :=
  ((jud g xs).1 ≠ 0 ∧ L = 0) ∨
  ((jud g xs).1 = 0 ∧ xs = [] ∧ L = 1) ∨
  ((jud g xs).1 = 0 ∧ xs = [(true, false)] ∧ L = 1) ∨
  ∃ (t : List (Bool × Bool)), (jud g xs).1 = 0 ∧ xs = (true, true) :: t ∧ cntF t ≤ t.length ∧ t.length < M ∧ lstP g (t.length - cntF t) (cntF t) L ∧ (∀ x ∈ t, x.2 = true) ∧
    ∀ y, jud g (xs ++ y) = judL g true y (1 + t.length) (t.length - cntF t) (cntF t)
end Go.Proofs.YtjkffgcikbkjeaaGreat

/- Plain laws: no fewer further attempts than Least decide, and some of Least ones do. -/
namespace Go.Proofs.YtjkffgcikbkjeaaGreat
open Go.RowKit

/-- Further attempts: the bits of a number. -/
def moreL (x : Nat) (r : Bool) (n : Nat) : List (Bool × Bool) := (bitL x n).map fun b => (b, r)
/-- Whether further attempts are random. -/
def rrL (xs : List (Bool × Bool)) : Bool := match xs with
  | [] => true
  | x :: _ => x.2
section
variable {l h a b : Rat} {M : Nat}
end
end Go.Proofs.YtjkffgcikbkjeaaGreat

/- Plain laws of the sequential tests' chances: the value of a run, the rows of chances, Wald's bounds. -/
namespace Go.Proofs.YtjkffgcikbkjeaaGreat

/-- The value of a run that ends with a decision, or after k more outcomes. -/
def val (d : Nat → Nat → Int) (x : Rat) (g : Int → Nat → Rat) : Nat → Nat → Nat → Rat
  | 0, p, f => g (d p f) (p + f)
  | k + 1, p, f => if d p f ≠ 0 then g (d p f) (p + f) else x * val d x g k p (f + 1) + (1 - x) * val d x g k (p + 1) f
def gF (D : Int) (_ : Nat) : Rat := if D = 2 then 1 else 0
def gS (D : Int) (_ : Nat) : Rat := if D = 1 then 1 else 0
def gO (D : Int) (_ : Nat) : Rat := if D = 0 then 1 else 0
def gN (_ : Int) (n : Nat) : Rat := (n : Rat)
/-! ### Rows -/
/-- The sum of a row's chances, each with its value. -/
def dp (V : Nat → Rat) : List Rat → Nat → Rat
  | [], _ => 0
  | a :: t, i => a * V i + dp V t (i + 1)
/-- The next row: what was carried, and what passes and fails. -/
def spr (q x c : Rat) : List Rat → List Rat
  | [] => [c]
  | a :: t => (c + a * q) :: spr q x (a * x) t
/-- What is decided so. -/
def hit (d : Nat → Nat → Int) (D : Int) (n : Nat) : List Rat → Nat → Rat
  | [], _ => 0
  | a :: t, i => (if d (n - i) i = D then a else 0) + hit d D n t (i + 1)
/-- What is not decided. -/
def cln (d : Nat → Nat → Int) (n : Nat) : List Rat → Nat → List Rat
  | [], _ => []
  | a :: t, i => (if d (n - i) i = 0 then a else 0) :: cln d n t (i + 1)
def sumL : List Rat → Rat
  | [] => 0
  | a :: t => a + sumL t
/-- Chances stand only at open places. -/
def Und (d : Nat → Nat → Int) (n : Nat) : List Rat → Nat → Prop
  | [], _ => True
  | a :: t, i => (a ≠ 0 → d (n - i) i = 0) ∧ Und d n t (i + 1)
/-- The state of a run of rows: the row, the chances of Flaky and Stable, the expected number. -/
structure Wk where
  row : List Rat
  fl : Rat
  st : Rat
  ex : Rat
def Wk.zero : Wk := ⟨[1], 0, 0, 0⟩
def Wk.next (d : Nat → Nat → Int) (x : Rat) (n : Nat) (s : Wk) : Wk :=
  ⟨cln d n (spr (1 - x) x 0 s.row) 0, s.fl + hit d 2 n (spr (1 - x) x 0 s.row) 0, s.st + hit d 1 n (spr (1 - x) x 0 s.row) 0, s.ex + sumL s.row⟩
def Wk.after (d : Nat → Nat → Int) (x : Rat) : Nat → Wk
  | 0 => Wk.zero
  | n + 1 => (Wk.after d x n).next d x (n + 1)
section
variable {d : Nat → Nat → Int} (hd : ∀ p f, d p f = 0 ∨ d p f = 1 ∨ d p f = 2) (h0 : d 0 0 = 0) (x : Rat) (M : Nat)
include hd h0
end

/-! ### Chances -/
/-! ### Wald's bounds -/
section
variable {l h a b : Rat} (hl : Inn l) (hh : Inn h) (hlh : l < h) (ha : Inn a) (hb : Inn b)
omit ha hh
include hb
end

/-! ### More failures, a greater chance -/
section
variable {d : Nat → Nat → Int} (hd : ∀ p f, d p f = 0 ∨ d p f = 1 ∨ d p f = 2) (hf : ∀ p f, d (p + 1) f = 2 → d p (f + 1) = 2) (hs : ∀ p f, d p (f + 1) = 1 → d (p + 1) f = 1)
include hd hf hs
end
end Go.Proofs.YtjkffgcikbkjeaaGreat

/- Plain laws: chances over a power of a denominator are small. -/
namespace Go.Proofs.YtjkffgcikbkjeaaGreat

/-- A number over D^n, at most B. -/
def Dv (D n B : Nat) (r : Rat) : Prop := ∃ k : Nat, r * ((D ^ n : Nat) : Rat) = (k : Rat) ∧ k ≤ B * D ^ n
/-! ### The rows' sizes -/
end Go.Proofs.YtjkffgcikbkjeaaGreat

/- Rows of fractions that a call owns; append onto them. -/
namespace Go.Proofs.YtjkffgcikbkjeaaGreat
open Go.RowKit

section
variable {P : Program}
/-- Each cell of a block is such a one. -/
def CellsP (w : World) (g : Nat) (Pr : Value → Prop) : Prop := ∀ j u, w.cell? ⟨g, j, none⟩ = some u → Pr u
end
def fvv (c : Fa) : List Value := [.slice c.A c.n c.c, .slice c.B c.m c.d]
/-- A slice of fractions of a call's own. -/
structure OFr (w0 w : World) (A : Option Addr) (m c : Nat) (fs : List Fa) (os : List Rat) : Prop where
  own : w.ownsRow w0.heap.size 52 2 (.slice A m c) m (fs.flatMap fvv)
  nb : ∀ g, (Value.slice A m c).ownBlock = some g → NB w g
  len : fs.length = m
  lo : os.length = m
  el : ∀ (i : Nat) (x : Fa) (r : Rat), fs[i]? = some x → os[i]? = some r → Fo w x (some r)
  fr : Fr w0 w (fun _ => False)
section
variable {w0 w w' : World} {A : Option Addr} {m c : Nat} {fs : List Fa} {os : List Rat}
end
end Go.Proofs.YtjkffgcikbkjeaaGreat

/- Contracts: fraction.fold with Add, Sum. -/
namespace Go.Proofs.YtjkffgcikbkjeaaGreat
open Go.RowKit

/-- A slice of fractions. -/
structure FSl (w : World) (A : Option Addr) (n : Nat) (fs : List Fa) (os : List Rat) : Prop where
  rs : Rs w none 2 fvv A fs
  len : fs.length = n
  lo : os.length = n
  el : ∀ (i : Nat) (x : Fa) (r : Rat), fs[i]? = some x → os[i]? = some r → Fo w x (some r)
def sumQ (l : List Rat) : Rat := l.foldl (· + ·) 0
structure GS (w wr : World) (b6 : Nat) (c6 : Fa) (sv : Rat) : Prop where
  bw : Below w.heap.size w wr
  rb : Rb wr w.heap.size
  x6 : Fx wr b6 c6 (some sv)
  g : w.heap.size < b6
end Go.Proofs.YtjkffgcikbkjeaaGreat

/- Contracts: fraction.Sum. -/
namespace Go.Proofs.YtjkffgcikbkjeaaGreat
open Go.RowKit

end Go.Proofs.YtjkffgcikbkjeaaGreat

/- Plain law: the chances of all sequences of n outcomes, by their numbers of failures. -/
namespace Go.Proofs.YtjkffgcikbkjeaaGreat

def cntL (l : List Bool) : Nat := l.count true
/-- The chances of the sequences with the numbers below m whose number of failures counts. -/
def trm (r : Rat) (n : Nat) (f : Nat → Bool) (m : Nat) : List Rat := ((List.range m).filter fun x => f (cntL (bitL x n))).map fun x => sqL r (bitL x n)
end Go.Proofs.YtjkffgcikbkjeaaGreat

/- Plain law of RerunBounds: the sums over all sequences of further runs. -/
namespace Go.Proofs.YtjkffgcikbkjeaaGreat
open Go.RowKit

/-- The sum over the numbers below m. -/
def sumX (F : Nat → Rat) : Nat → Rat
  | 0 => 0
  | m + 1 => sumX F m + F m
/-- The sum over all sequences of n outcomes. -/
def sumB (F : List Bool → Rat) (n : Nat) : Rat := sumX (fun x => F (bitL x n)) (2 ^ n)
/-- Random attempts. -/
def rndL (l : List Bool) : List (Bool × Bool) := l.map fun b => (b, true)
/-- The chance of a sequence with this verdict. -/
def vw (G : Nat → Nat → Int) (v : Int) (r : Rat) (k p f : Nat) (l : List Bool) : Rat := if (judL G true (rndL l) k p f).1 = v then sqL r l else 0
/-- The sum up to some number. -/
def vsum (G : Nat → Nat → Int) (v : Int) (r : Rat) (M : Nat) (x : Nat) : Rat := sumX (fun y => vw G v r 1 0 0 (bitL y M)) x
end Go.Proofs.YtjkffgcikbkjeaaGreat

/- Contract: SameFrac of two fractions that differ. -/
namespace Go.Proofs.YtjkffgcikbkjeaaGreat
open Go.RowKit

end Go.Proofs.YtjkffgcikbkjeaaGreat

/- Contract: sequential.add: a fraction is added to the one in a place. -/
namespace Go.Proofs.YtjkffgcikbkjeaaGreat
open Go.RowKit

/-- The place of a fraction. -/
structure Fp (w : World) (g o : Nat) (x : Fa) (r : Rat) : Prop where
  c0 : w.cell? ⟨g, o, none⟩ = some (.slice x.A x.n x.c)
  c1 : w.cell? ⟨g, o + 1, none⟩ = some (.slice x.B x.m x.d)
  fz : ∀ j, w.frozen? ⟨g, j, none⟩ = false
  sz : g < w.heap.size
  nb : NB w g
  o : Fo w x (some r)
/-- What it leaves: a fraction above, and it is stored. -/
def AddP (w : World) (g o : Nat) (q : Rat) (w' : World) : Prop := ∃ (c : Fa) (w1 : World), Below w.heap.size w w1 ∧ Fo w1 c (some q) ∧ w' = (w1.setCell ⟨g, o, none⟩ (.slice c.A c.n c.c)).setCell ⟨g, o + 1, none⟩ (.slice c.B c.m c.d)
end Go.Proofs.YtjkffgcikbkjeaaGreat

/- A block that holds a row of fractions: made, copied, changed in one place. -/
namespace Go.Proofs.YtjkffgcikbkjeaaGreat
open Go.RowKit

/-- The block g holds these fractions. -/
structure Fw (w : World) (g m : Nat) (fs : List Fa) (os : List (Option Rat)) : Prop where
  sz : g < w.heap.size
  nb : NB w g
  fz : ∀ j, w.frozen? ⟨g, j, none⟩ = false
  len : fs.length = m
  lo : os.length = m
  c : ∀ (i : Nat) (x : Fa), fs[i]? = some x → w.cell? ⟨g, i * 2, none⟩ = some (.slice x.A x.n x.c) ∧ w.cell? ⟨g, i * 2 + 1, none⟩ = some (.slice x.B x.m x.d)
  el : ∀ (i : Nat) (x : Fa) (o : Option Rat), fs[i]? = some x → os[i]? = some o → Fo w x o
section
variable {w w' : World} {g m : Nat} {fs : List Fa} {os : List (Option Rat)}
end
end Go.Proofs.YtjkffgcikbkjeaaGreat

/- The boxes of sequential.walk; contract: its spread (walk$2). -/
namespace Go.Proofs.YtjkffgcikbkjeaaGreat
open Go.RowKit

/-- The boxes: specification, chance, odds, expected number, row. -/
structure WS (w0 v : World) (br : Nat) (s : Sv) (fp : Fa) (x : Rat) (g n : Nat) (rs : List Rat) (fl st ex : Rat) : Prop where
  bw : Below w0.heap.size w0 v
  fs : Cb v w0.heap.size s.cs
  q : SQ v s
  pp : Fp v (w0.heap.size + 1) 0 fp x
  o0 : ∃ f, Fp v (w0.heap.size + 2) 0 f fl
  o2 : ∃ f, Fp v (w0.heap.size + 2) 2 f st
  o4 : ∃ f, Fp v (w0.heap.size + 2) 4 f 0
  ee : ∃ f, Fp v (w0.heap.size + 3) 0 f ex
  rb : Cb v br [.slice (some ⟨g, 0, none⟩) n n]
  row : ∃ fs, Fw v g n fs (rs.map some)
  hb : w0.heap.size + 3 < br
  hg : w0.heap.size + 3 < g
  hn : g ≠ br
section
variable {w0 v v' : World} {br : Nat} {s : Sv} {fp : Fa} {x : Rat} {g n : Nat} {rs : List Rat} {fl st ex : Rat}
end
/-- Part way through a spread: the old row, the next one, the chance's box. -/
structure SP (wz w0 v : World) (br : Nat) (s : Sv) (fp : Fa) (x : Rat) (g n : Nat) (rs : List Rat) (fl st ex : Rat) (bq : Nat) (q : Fa) (qv : Rat) (g1 g2 : Nat) (os : List (Option Rat)) : Prop where
  ws : WS w0 v br s fp x g n rs fl st ex
  qb : Bq v bq q
  qo : Fo v q (some qv)
  ol : ∃ fs, Fw v g1 n fs (rs.map some)
  nx : ∃ fs, Fw v g2 (n + 1) fs os
  h0 : w0.heap.size + 3 < bq
  hb : br < bq
  hg : g < bq
  h1 : bq < g1
  h2 : g1 < g2
  fr : Fr wz v (fun b => b = w0.heap.size + 3)
  hz : wz.heap.size ≤ g2
section
variable {wz w0 v v' : World} {br : Nat} {s : Sv} {fp : Fa} {x : Rat} {g n : Nat} {rs : List Rat} {fl st ex : Rat} {bq : Nat} {q : Fa} {qv : Rat} {g1 g2 : Nat} {os : List (Option Rat)}
end
/-- A box with a fraction. -/
structure Bf (v : World) (b : Nat) (c : Fa) (r : Rat) : Prop where
  b : Bq v b c
  o : Fo v c (some r)
theorem Bf.below {v v' : World} {b : Nat} {c : Fa} {r : Rat} (h : Bf v b c r) (hb : Below v.heap.size v v') : Bf v' b c r := ⟨h.b.below hb, h.o.below hb⟩
theorem Bf.alloc {v : World} {b : Nat} {c : Fa} {r : Rat} (h : Bf v b c r) (o : Obj) : Bf (v.alloc o) b c r := ⟨h.b.alloc o, h.o.alloc o⟩
/-- The zeros of the next row. -/
def zrow (j m : Nat) : List (Option Rat) := List.replicate j (some 0) ++ List.replicate (m - j) none
/-- The next row part way: what is done, what was carried, zeros. -/
def nrow (done : List Rat) (c : Rat) (k : Nat) : List (Option Rat) := (done ++ c :: List.replicate k 0).map some
end Go.Proofs.YtjkffgcikbkjeaaGreat

/- Plain laws of runs of outcomes for the law SequentialFirst; rows of bools that grow by a row. -/
namespace Go.Proofs.YtjkffgcikbkjeaaGreat
open Go.RowKit

end Go.Proofs.YtjkffgcikbkjeaaGreat

/- Contract: the step of sequential.walk (walk$1). -/
namespace Go.Proofs.YtjkffgcikbkjeaaGreat
open Go.RowKit

section
variable {w0 v v' : World} {br : Nat} {s : Sv} {fp : Fa} {x : Rat} {g n : Nat} {rs : List Rat} {fl st ex : Rat}
end
/-- The step's state: the boxes and the next row. -/
structure ST (wz w0 v : World) (br : Nat) (s : Sv) (fp : Fa) (x : Rat) (g n : Nat) (rs : List Rat) (fl st ex : Rat) (g2 m : Nat) (os : List (Option Rat)) : Prop where
  ws : WS w0 v br s fp x g n rs fl st ex
  nx : ∃ fs, Fw v g2 m fs os
  h2 : w0.heap.size + 3 < g2
  hb : g2 ≠ br
  hg : g2 ≠ g
  fr : Fr wz v (fun b => b = w0.heap.size + 2 ∨ b = g2 ∨ b = br)
section
variable {wz w0 v v' : World} {br : Nat} {s : Sv} {fp : Fa} {x : Rat} {g n : Nat} {rs : List Rat} {fl st ex : Rat} {g2 m : Nat} {os : List (Option Rat)}
end
/-- The row part way: cleaned up to j. -/
def srow (d : Nat → Nat → Int) (N : Nat) (ns : List Rat) (j : Nat) : List (Option Rat) := (cln d N (ns.take j) 0 ++ ns.drop j).map some
end Go.Proofs.YtjkffgcikbkjeaaGreat

/- Contract: sequential.walk. -/
namespace Go.Proofs.YtjkffgcikbkjeaaGreat
open Go.RowKit

def z6 : List Value := [.slice none 0 0, .slice none 0 0, .slice none 0 0, .slice none 0 0, .slice none 0 0, .slice none 0 0]
/-- The four results. -/
structure WP (w0 v : World) (f0 f2 f4 f5 : Fa) (fl st op ex : Rat) : Prop where
  bw : Below w0.heap.size w0 v
  o0 : Fp v (w0.heap.size + 2) 0 f0 fl
  o2 : Fp v (w0.heap.size + 2) 2 f2 st
  o4 : Fp v (w0.heap.size + 2) 4 f4 op
  ee : Fp v (w0.heap.size + 3) 0 f5 ex
/-- The last sum: the results' boxes and the row. -/
structure WO (w0 v : World) (g n : Nat) (rs : List Rat) (fl st op ex : Rat) : Prop where
  bw : Below w0.heap.size w0 v
  o0 : ∃ f, Fp v (w0.heap.size + 2) 0 f fl
  o2 : ∃ f, Fp v (w0.heap.size + 2) 2 f st
  o4 : ∃ f, Fp v (w0.heap.size + 2) 4 f op
  ee : ∃ f, Fp v (w0.heap.size + 3) 0 f ex
  row : ∃ fs, Fw v g n fs (rs.map some)
  hg : w0.heap.size + 3 < g
end Go.Proofs.YtjkffgcikbkjeaaGreat

/- Contracts: sequential.Errors, Expected. -/
namespace Go.Proofs.YtjkffgcikbkjeaaGreat
open Go.RowKit

theorem chance_o (w : World) (a : Fa) (o : Option Rat) (ha : Fo w a o) : Calls Tryz.prog 53 #[.agg #[.slice a.A a.n a.c, .slice a.B a.m a.d]] w fun e w' => e = .returned (.bool (chO o)) ∧ Below w.heap.size w w' := by
  have := chance_any w a _ _ ha.1
  rwa [fracOf_self ha.2] at this
/-- What Errors returns. -/
def ErrV (d : Nat → Nat → Int) (x : Rat) (M : Nat) (w : World) (e : Ending) (w' : World) : Prop :=
  ∃ f0 f2 f4 : Fa, e = .returned (.tuple #[.agg #[.slice f0.A f0.n f0.c, .slice f0.B f0.m f0.d, .slice f2.A f2.n f2.c, .slice f2.B f2.m f2.d, .slice f4.A f4.n f4.c, .slice f4.B f4.m f4.d], .int .i64 0]) ∧
      Fo w' f0 (some (val d x gF M 0 0)) ∧ Fo w' f2 (some (val d x gS M 0 0)) ∧ Fo w' f4 (some (val d x gO M 0 0)) ∧ Below w.heap.size w w'
end Go.Proofs.YtjkffgcikbkjeaaGreat

/- The walk of the law SequentialAlpha. -/
namespace Go.Proofs.YtjkffgcikbkjeaaGreat
open Go.RowKit

/-- A box with odds. -/
structure OdB (v : World) (g : Nat) (f0 f2 f4 : Fa) (r0 r2 r4 : Rat) : Prop where
  cb : Cb v g [.slice f0.A f0.n f0.c, .slice f0.B f0.m f0.d, .slice f2.A f2.n f2.c, .slice f2.B f2.m f2.d, .slice f4.A f4.n f4.c, .slice f4.B f4.m f4.d]
  o0 : Fo v f0 (some r0)
  o2 : Fo v f2 (some r2)
  o4 : Fo v f4 (some r4)
end Go.Proofs.YtjkffgcikbkjeaaGreat

/- Contract: rerun.Chances; rows of bools and of attempts beside each other. -/
namespace Go.Proofs.YtjkffgcikbkjeaaGreat
open Go.RowKit

/-- Own rows of other types lie in other blocks. -/
theorem own_apart {w : World} {b1 b2 : Nat} {e1 e2 : TypeId} {s1 s2 n1 n2 : Nat} {v1 v2 : Value} {x1 x2 : List Value} (h1 : w.ownsRow b1 e1 s1 v1 n1 x1) (h2 : w.ownsRow b2 e2 s2 v2 n2 x2) (he : e1 ≠ e2) : v1.ownBlock = none ∨ v1.ownBlock ≠ v2.ownBlock := by
  rcases h1.2 with ⟨e, _⟩ | ⟨g, cap, cur, hv, hb, hh, _⟩
  · left; rw [e]; rfl
  · right
    rw [hv]
    rcases h2.2 with ⟨e, _⟩ | ⟨g', cap', cur', hv', hb', hh', _⟩
    · rw [e]; simp [Value.ownBlock]
    · rw [hv']
      simp only [Value.ownBlock]
      intro e
      obtain rfl : g = g' := by simpa using e
      rw [hh] at hh'
      injection hh' with hh'
      injection hh' with _ hh' _
      exact he hh'
theorem grown_fr {w w' : World} {v : Value} (hf : Fr w w' (fun b => v.ownBlock = some b)) : w.grownBy w' v.ownBlock := ⟨hf.os, hf.tape, hf.output, hf.size, fun k hk hne => hf.block k hk (fun e => hne e.symm)⟩
/-- The specification's box, the chance's box and the two sums. -/
structure BB (w0 v : World) (g : Nat) (s : Sv) (b5 : Nat) (pf : Fa) (r : Rat) (b6 b7 : Nat) (u o : Rat) : Prop where
  f : FS w0 v g s
  p : Bf v b5 pf r
  u : ∃ c, Bf v b6 c u
  o : ∃ c, Bf v b7 c o
  h0 : g < w0.heap.size
  h1 : w0.heap.size ≤ b5
  h2 : b5 < b6
  h3 : b6 < b7
section
variable {w0 v v' : World} {g : Nat} {s : Sv} {b5 : Nat} {pf : Fa} {r : Rat} {b6 b7 : Nat} {u o : Rat}
end
end Go.Proofs.YtjkffgcikbkjeaaGreat

/- Rows of a call's own, of any kind of element, beside a tape and beside each other. -/
namespace Go.Proofs.YtjkffgcikbkjeaaGreat
open Go.RowKit

/-- A kind of row: the element's type, its cells, how an element reads, its zero, its bytes. -/
structure RK (α : Type) where
  et : TypeId
  s : Nat
  f : α → List Value
  z : Value
  by_ : Nat
structure RK.Ok {α : Type} (K : RK α) : Prop where
  info : (Tryz.prog.info? K.et).map (fun i => (i.zero, i.size, i.bytes)) = some (some K.z, K.s, K.by_)
  hz : K.z.cells.size = K.s
  pos : 0 < K.s
  len : ∀ a, (K.f a).length = K.s
  one : ∀ a, ∀ u ∈ K.f a, u.oneCell' = true
  by4 : K.by_ ≤ 4096
/-- A row of a call's own; the tape may have moved. -/
structure OW {α : Type} (K : RK α) (w0 w : World) (T : Nat) (A : Option Addr) (m c : Nat) (l : List α) : Prop where
  own : w.ownsRow w0.heap.size K.et K.s (.slice A m c) m (l.flatMap K.f)
  len : l.length = m
  fr : Fr w0 w (fun b => b = T)
section
variable {α β : Type} {K : RK α} {J : RK β} {w0 w w' : World} {T : Nat} {A B : Option Addr} {m c k d : Nat} {l : List α} {l' : List β}
theorem OW.rs (h : OW K w0 w T A m c l) (hk : K.Ok) : Rs w none K.s K.f A l := Rs.of_own h.own hk.len h.len (by simp)
theorem OW.nil (hf : Fr w0 w (fun b => b = T)) : OW K w0 w T none 0 0 [] := ⟨World.ownsRow_nil _ _ _ _, rfl, hf⟩
theorem OW.lo (h : OW K w0 w T A m c l) {g : Nat} (hg : (Value.slice A m c).ownBlock = some g) : w0.heap.size ≤ g ∧ g < w.heap.size := by
  rcases h.own.2 with ⟨h1, _⟩ | ⟨g', cap, cur, hv, hb, hh, _⟩
  · rw [h1] at hg; simp [Value.ownBlock] at hg
  · rw [hv] at hg
    simp [Value.ownBlock] at hg
    subst hg
    exact ⟨hb, (Array.getElem?_eq_some_iff.1 hh).1⟩
theorem OW.below (h : OW K w0 w T A m c l) (hb : Below w.heap.size w w') : OW K w0 w' T A m c l := ⟨h.own.kept (grown_of_below hb none) (Classical.em _), h.len, h.fr.below_ hb⟩
theorem OW.alloc (h : OW K w0 w T A m c l) (o : Obj) : OW K w0 (w.alloc o) T A m c l := h.below ((Below.refl _ _).alloc (Nat.le_refl _) _)
theorem OW.tape (h : OW K w0 w T A m c l) (hf : Fr w w' (fun b => b = T)) (hT : T < w0.heap.size) : OW K w0 w' T A m c l :=
  ⟨h.own.kept (row := some T) ⟨hf.os, hf.tape, hf.output, hf.size, fun k hk hne => hf.block k hk (fun e => hne (by rw [e]))⟩ (by
      cases hob : (Value.slice A m c).ownBlock with
      | none => exact .inl rfl
      | some b => right; intro e; injection e with e; have := (h.lo hob).1; omega),
    h.len, h.fr.trans hf⟩
theorem OW.tp (h : OW K w0 w T A m c l) {TA : Option Addr} {tn tc : Nat} {tl : List Int} {a0 a : Nat} (h0 : Tp w0 T TA tn tc tl a0) (hp : Tp w T TA tn tc tl a) (hf : Fr w w' (fun b => (Value.slice A m c).ownBlock = some b)) : Tp w' T TA tn tc tl a := by
  cases hob : (Value.slice A m c).ownBlock with
  | none =>
    refine hp.below ((hf.mono (T := fun _ => False) (fun k hk e => ?_)).below (Nat.le_refl _) (fun _ _ h => h))
    rw [hob] at e; simp at e
  | some b => exact h0.one hp (h.lo hob).1 (hf.mono (fun k hk e => by rw [hob] at e; injection e with e; exact e.symm))
/-- Another row, of another type, grew. -/
theorem OW.other (h : OW K w0 w T A m c l) (hb : OW J w0 w T B k d l') (he : K.et ≠ J.et) (hf : Fr w w' (fun b => (Value.slice B k d).ownBlock = some b)) : OW K w0 w' T A m c l :=
  ⟨h.own.kept (grown_fr hf) (own_apart h.own hb.own he), h.len, h.fr.grown (grown_fr hf) (fun g hg => .inl (hb.lo hg).1)⟩
/-- An append grows it: what is kept. -/
theorem OW.grow {M : List α} {n : Nat} {A' : Option Addr} {c' : Nat} (h : OW K w0 w T A m c l) (hM : M.length = n) (hown : w'.ownsRow w0.heap.size K.et K.s (.slice A' (m + n) c') (m + n) ((l ++ M).flatMap K.f)) (hgr : w.grownBy w' (Value.slice A m c).ownBlock) :
    OW K w0 w' T A' (m + n) c' (l ++ M) ∧ Fr w w' (fun b => (Value.slice A m c).ownBlock = some b) :=
  ⟨⟨hown, by simp [h.len, hM], h.fr.grown hgr (fun g hg => .inl (h.lo hg).1)⟩, ⟨hgr.os, hgr.tape, hgr.output, hgr.size, fun k hk hS => hgr.block k hk (fun e => hS e.symm)⟩⟩
end
theorem wl_app_ow {α : Type} {K : RK α} {w0 w : World} {ops : Array Oper} {rest : List Oper} {o : Oper} {a : Act} {Q : Exit → Act → World → Prop} (hk : K.Ok) (hgd : o.guard = none) (s x : Operand) (t : TypeId) (ht : Tryz.prog.underlying t = some (.slice K.et))
    (ho : o.op = .call { callee := .builtin .append, args := #[s, x], argTypes := #[t, t] })
    (T : Nat) (A : Option Addr) (m c : Nat) (l : List α) (B : Option Addr) (k d : Nat) (M : List α) (hs : a.eval s = .slice A m c) (hx : a.eval x = .slice B k d) (hO : OW K w0 w T A m c l) (hR : Rs w none K.s K.f B M) (hM : M.length = k) (h63 : m + k ≤ 4294967296)
    (h : ∀ A' c' w', OW K w0 w' T A' (m + k) c' (l ++ M) → Fr w w' (fun b => (Value.slice A m c).ownBlock = some b) → wpList Tryz.prog ops Q rest (a.put o.dst (.slice A' (m + k) c')) w') :
    wpList Tryz.prog ops Q (o :: rest) a w := by
  refine wl_append _ hgd s x t ho w0.heap.size K.et _ K.s K.by_ ht hk.info hk.hz hk.pos (.slice A m c) m l hs hO.own B k d M hx hR hM hk.len hk.one h63 hk.by4 hO.fr.size ?_
  intro A' c' w' hown hgr _
  obtain ⟨h1, h2⟩ := hO.grow hM hown hgr
  exact h A' c' w' h1 h2
theorem one_ow {α : Type} {K : RK α} {w : World} (x : α) (o : Obj) (h : ∀ j u, (K.f x)[j]? = some u → (w.alloc o).cell? ⟨w.heap.size, j, none⟩ = some u) : Rs (w.alloc o) none K.s K.f (some ⟨w.heap.size, 0, none⟩) [x] :=
  rs_one (av := none) (by simp) (by simp) h
end Go.Proofs.YtjkffgcikbkjeaaGreat

/- Plain laws of the ledger: a step keeps a ledger well-formed. -/
namespace Go.Proofs.YtjkffgcikbkjeaaGreat

theorem accOf_set : ∀ (l : List Tk) (k : Nat) (t t' : Tk), l[k]? = some t → accOf (l.set k t') + (if repB t.out then 1 else 0) = accOf l + if repB t'.out then 1 else 0
  | [], k, t, t', h => by simp at h
  | x :: l, 0, t, t', h => by
    simp at h
    subst h
    simp only [List.set_cons_zero, accOf]
    omega
  | x :: l, k + 1, t, t', h => by
    have := accOf_set l k t t' (by simpa using h)
    simp only [List.set_cons_succ, accOf]
    omega

theorem ok_iff (L : Ld) : L.ok = true ↔ L.tks.length ≤ 128 ∧ L.repsOk = true ∧ (∀ t ∈ L.tks, tkOk t = true) ∧ L.r1 = accOf L.tks := by
  simp only [Ld.ok, Bool.and_eq_true, decide_eq_true_eq, List.all_eq_true, beq_iff_eq]
  exact ⟨fun ⟨⟨⟨a, b⟩, c⟩, d⟩ => ⟨a, b, c, d⟩, fun ⟨a, b, c, d⟩ => ⟨⟨⟨a, b⟩, c⟩, d⟩⟩
theorem ok_set {L : Ld} {i : Nat} {t t' : Tk} (h : L.ok = true) (ht : L.tks[i]? = some t) (ht' : tkOk t' = true) (hr : repB t.out = repB t'.out) : ({ L with tks := L.tks.set i t' } : Ld).ok = true := by
  rw [ok_iff] at h ⊢
  obtain ⟨h1, h2, h3, h4⟩ := h
  refine ⟨by simpa using h1, h2, fun x hx => ?_, ?_⟩
  · rcases List.mem_or_eq_of_mem_set hx with hx | rfl
    · exact h3 x hx
    · exact ht'
  · have := accOf_set L.tks i t t' ht
    rw [hr] at this
    show L.r1 = accOf (L.tks.set i t')
    omega
theorem get_some' {L : Ld} {k : Int} {t : Tk} (h : L.get? k = some t) : L.tks[k.toNat]? = some t := by
  unfold Ld.get? at h
  split at h
  · exact h
  · cases h
theorem tk_of {L : Ld} {k : Int} {t : Tk} (hok : L.ok = true) (h : L.get? k = some t) : tkOk t = true := ((ok_iff L).1 hok).2.2.1 t (List.mem_of_getElem? (get_some' h))

theorem begin_ok' {L : Ld} {k r e : Int} (hok : L.ok = true) (h : (L.begin k r e).2.2 = 0) : (L.begin k r e).1.ok = true := by
  unfold Ld.begin at h ⊢
  rw [if_neg (by simp [hok])] at h ⊢
  cases hg : L.get? k with
  | none => simp [hg] at h
  | some t =>
    simp only [hg] at h ⊢
    cases hr : ranB 1 r e
    · simp [hr] at h
    · by_cases hs : t.st = 0
      · simp only [hs, ne_eq, not_true, if_false, Bool.true_eq_false] at h ⊢
        have ht := tk_of hok hg
        refine ok_set hok (get_some' hg) ?_ rfl
        simp only [tkOk, Bool.and_eq_true, stateB, hs, if_true, restB, decide_eq_true_eq, beq_iff_eq, ranB] at ht hr ⊢
        simp only [taskOk, usableB, placeB, costB, revB, Bool.and_eq_true, decide_eq_true_eq, beq_iff_eq, ranB] at ht ⊢
        simp only [show ¬ (1 : Int) = 0 by decide, if_false, if_true, Bool.and_eq_true, decide_eq_true_eq, beq_iff_eq]
        omega
      · simp [hs, hr] at h

theorem reps_iff (L : Ld) : L.repsOk = true ↔ L.r0 = 0 ∧ (0 ≤ L.r1 ∧ L.r1 ≤ 1073741824) ∧ (0 ≤ L.r2 ∧ L.r2 ≤ 1073741824) ∧ (0 ≤ L.r3 ∧ L.r3 ≤ 1073741824) ∧ (0 ≤ L.r4 ∧ L.r4 ≤ 1073741824) ∧ (0 ≤ L.r5 ∧ L.r5 ≤ 1073741824) := by
  simp [Ld.repsOk, cntB, and_assoc]
end Go.Proofs.YtjkffgcikbkjeaaGreat

/- Plain law of the summary: the ledgers of the law's book, what was spent, the sums over choices, the audits that differ. No program here. -/
namespace Go.Proofs.YtjkffgcikbkjeaaGreat

/-- A waiting ticket of the book: its cost, how often it was begun. -/
def tkB (x : Nat × Nat) : Tk := ⟨⟨#[112]⟩, ⟨#[116]⟩, 0, (x.1 : Int), 1, 0, (x.2 : Int), 0, 0, 0⟩
def tkR (x : Nat × Nat) : Tk := ⟨⟨#[112]⟩, ⟨#[116]⟩, 0, (x.1 : Int), 1, 1, (x.2 : Int) + 1, 0, 1, 0⟩
def okX (x : Nat × Nat) : Prop := 1 ≤ x.1 ∧ x.1 ≤ 9 ∧ x.2 ≤ 3
def bkL (cs : List (Nat × Nat)) : Ld := ⟨cs.map tkB, 0, 0, 0, 0, 0, 0⟩
def spentOf : List Tk → Int
  | [] => 0
  | t :: l => spentOf l + t.cost * t.att
def sumBk : List (Nat × Nat) → Nat
  | [] => 0
  | x :: l => sumBk l + x.1 * x.2
theorem spentOf_append (t : Tk) : ∀ l : List Tk, spentOf (l ++ [t]) = spentOf l + t.cost * t.att
  | [] => by simp [spentOf]
  | x :: l => by simp only [List.cons_append, spentOf, spentOf_append t l]; omega
theorem sumBk_append (t : Nat × Nat) : ∀ l : List (Nat × Nat), sumBk (l ++ [t]) = sumBk l + t.1 * t.2
  | [] => by simp [sumBk]
  | x :: l => by simp only [List.cons_append, sumBk, sumBk_append t l]; omega
theorem spent_bk : ∀ cs : List (Nat × Nat), spentOf (cs.map tkB) = (sumBk cs : Int)
  | [] => rfl
  | x :: l => by
    simp only [List.map_cons, spentOf, sumBk, spent_bk l, tkB]
    push_cast
    rfl
theorem tkB_ok {x : Nat × Nat} (h : okX x) : tkOk (tkB x) = true := by
  obtain ⟨h1, h2, h3⟩ := h
  have e1 : usableB ⟨#[112]⟩ ⟨#[116]⟩ = true := by decide
  simp [tkOk, taskOk, tkB, e1, placeB, costB, revB, stateB, restB]
  exact ⟨⟨decide_eq_true (by omega), decide_eq_true (by omega)⟩, decide_eq_true (by omega)⟩
theorem acc_bk : ∀ cs : List (Nat × Nat), accOf (cs.map tkB) = 0
  | [] => rfl
  | x :: l => by simp only [List.map_cons, accOf, acc_bk l]; rfl
theorem bk_ok {cs : List (Nat × Nat)} (h : ∀ x ∈ cs, okX x) (hl : cs.length ≤ 128) : (bkL cs).ok = true := by
  refine (ok_iff _).2 ⟨by simp [bkL]; omega, by simp [bkL, Ld.repsOk, cntB], fun t ht => ?_, by simp [bkL, acc_bk]⟩
  simp only [bkL, List.mem_map] at ht
  obtain ⟨x, hx, rfl⟩ := ht
  exact tkB_ok (h x hx)
theorem bk_bad (L : Ld) : ({ L with r0 := 1 } : Ld).ok = false := by
  cases h : ({ L with r0 := 1 } : Ld).ok with
  | false => rfl
  | true =>
    have := ((reps_iff _).1 ((ok_iff _).1 h).2.1).1
    simp at this
theorem bk_plan {cs : List (Nat × Nat)} (h : ∀ x ∈ cs, okX x) (hl : cs.length < 128) {c : Nat} (h1 : 1 ≤ c) (h9 : c ≤ 9) :
    (bkL cs).plan (tkB (c, 0)) 1 = (bkL (cs ++ [(c, 0)]), (cs.length : Int), 0) := by
  have e1 : usableB ⟨#[112]⟩ ⟨#[116]⟩ = true := by decide
  have e2 : taskOk (tkB (c, 0)) = true := by
    simp [taskOk, tkB, e1, placeB, costB]
    exact ⟨decide_eq_true (by omega), decide_eq_true (by omega)⟩
  unfold Ld.plan
  rw [if_neg (by rw [bk_ok h (by omega), e2]; simp), if_neg (by decide), if_neg (by simp [bkL]; omega)]
  simp [bkL, tkB]
theorem bk_get {cs : List (Nat × Nat)} (t : Tk) : ({ bkL cs with tks := cs.map tkB ++ [t] } : Ld).get? (cs.length : Int) = some t := by
  unfold Ld.get?
  rw [if_pos ⟨by omega, by simp; omega⟩]
  simp
/-- The book while its last ticket runs. -/
def bkR (cs : List (Nat × Nat)) (x : Nat × Nat) : Ld := { bkL cs with tks := cs.map tkB ++ [tkR x] }
theorem bk_begin {cs : List (Nat × Nat)} {c i : Nat} (h : ∀ x ∈ cs, okX x) (hl : cs.length < 128) (h1 : 1 ≤ c) (h9 : c ≤ 9) (hi : i ≤ 2) :
    (bkL (cs ++ [(c, i)])).begin (cs.length : Int) 0 1 = (bkR cs (c, i), (i : Int) + 1, 0) := by
  have hok : (bkL (cs ++ [(c, i)])).ok = true := bk_ok (by
    intro x hx
    rcases List.mem_append.1 hx with hx | hx
    · exact h x hx
    · simp at hx; subst hx; exact ⟨h1, h9, by show i ≤ 3; omega⟩) (by simp; omega)
  have hg : (bkL (cs ++ [(c, i)])).get? (cs.length : Int) = some (tkB (c, i)) := by
    have := bk_get (cs := cs) (tkB (c, i))
    rw [show bkL (cs ++ [(c, i)]) = ({ bkL cs with tks := cs.map tkB ++ [tkB (c, i)] } : Ld) by simp [bkL]]
    exact this
  unfold Ld.begin
  rw [if_neg (by simp [hok]), hg]
  have e : ranB 1 0 1 = true := by decide
  simp only [e, Bool.true_eq_false, if_false, show (tkB (c, i)).st = 0 from rfl, ne_eq, not_true]
  refine Prod.ext ?_ rfl
  simp [Ld.put, bkL, bkR, tkB, tkR, List.map_append]
theorem bkR_ok {cs : List (Nat × Nat)} {c i : Nat} (h : ∀ x ∈ cs, okX x) (hl : cs.length < 128) (h1 : 1 ≤ c) (h9 : c ≤ 9) (hi : i ≤ 2) : (bkR cs (c, i)).ok = true := by
  have hb := bk_begin h hl h1 h9 hi
  have := begin_ok' (L := bkL (cs ++ [(c, i)])) (k := (cs.length : Int)) (r := 0) (e := 1) (bk_ok (by
    intro x hx
    rcases List.mem_append.1 hx with hx | hx
    · exact h x hx
    · simp at hx; subst hx; exact ⟨h1, h9, by show i ≤ 3; omega⟩) (by simp; omega)) (by rw [hb])
  rw [hb] at this
  exact this
theorem bk_fail {cs : List (Nat × Nat)} {c i : Nat} (h : ∀ x ∈ cs, okX x) (hl : cs.length < 128) (h1 : 1 ≤ c) (h9 : c ≤ 9) (hi : i ≤ 2) :
    (bkR cs (c, i)).fail (cs.length : Int) 5 = (bkL (cs ++ [(c, i + 1)]), 0) := by
  unfold Ld.fail
  rw [if_neg (by simp [bkR_ok h hl h1 h9 hi]), show (bkR cs (c, i)).get? (cs.length : Int) = some (tkR (c, i)) from bk_get _]
  have e4 : ¬ (tkR (c, i)).att = 4 := by simp [tkR]; omega
  simp only [show ¬ ((5 : Int) ≠ 4 ∧ (5 : Int) ≠ 5) by decide, if_false, show (tkR (c, i)).st = 1 from rfl, ne_eq, not_true, Tk.failed, if_neg e4]
  refine Prod.ext ?_ rfl
  simp [Ld.put, bkL, bkR, tkB, tkR, List.map_append]
/-- The sums over the choices: carried, run, saved; none: a cost is out of range. -/
def smC : List (Int × Int) → Int → Int → Int → Option (Int × Int × Int)
  | [], C, R, S => some (C, R, S)
  | x :: l, C, R, S => if x.2 < 0 ∨ 1048576 < x.2 then none else if x.1 = 0 then smC l (C + 1) R (S + x.2) else if x.1 = 5 then smC l C R S else smC l C (R + 1) S
end Go.Proofs.YtjkffgcikbkjeaaGreat

/- Contracts of the leaves. -/
namespace Go.Proofs.YtjkffgcikbkjeaaGreat
open Go.RowKit


set_option maxHeartbeats 400000 in
theorem reported_any (n : Int) (w : World) :
    Calls Tryz.prog 44 #[.int .i64 n] w fun e w' => e = .returned (.bool (repB n)) ∧ w = w' := by
  go_enter Tryz.func44, Tryz.ntmps44
  go_wp2
  all_goals (go_ret; exact ⟨ret_bool (by rw [Bool.eq_iff_iff]; simp [repB]; omega), rfl⟩)

set_option maxHeartbeats 400000 in
theorem place_any (n : Int) (w : World) :
    Calls Tryz.prog 98 #[.int .i64 n] w fun e w' => e = .returned (.bool (placeB n)) ∧ w = w' := by
  go_enter Tryz.func98, Tryz.ntmps98
  go_wp2
  all_goals (go_ret; exact ⟨ret_bool (by rw [Bool.eq_iff_iff]; simp [placeB]; omega), rfl⟩)

set_option maxHeartbeats 400000 in
theorem runs_any (t : Tk) (w : World) :
    Calls Tryz.prog 31 #[.agg #[.string t.pk, .string t.ts, .int .i64 t.env, .int .i64 t.cost, .int .i64 t.rev, .int .i64 t.st, .int .i64 t.att, .int .i64 t.run, .int .i64 t.ep, .int .i64 t.out]] w fun e w' => e = .returned (.bool (ranB t.att t.run t.ep)) ∧ Below w.heap.size w w' := by
  go_enter Tryz.func31, Tryz.ntmps31
  go_wp2
  all_goals (go_ret; exact ⟨ret_bool (by rw [Bool.eq_iff_iff]; simp [ranB]; omega), (Below.refl _ _).alloc (Nat.le_refl _) _⟩)

set_option maxHeartbeats 400000 in
theorem rests_any (t : Tk) (w : World) :
    Calls Tryz.prog 62 #[.agg #[.string t.pk, .string t.ts, .int .i64 t.env, .int .i64 t.cost, .int .i64 t.rev, .int .i64 t.st, .int .i64 t.att, .int .i64 t.run, .int .i64 t.ep, .int .i64 t.out]] w fun e w' => e = .returned (.bool (restB t.att t.run t.ep)) ∧ Below w.heap.size w w' := by
  go_enter Tryz.func62, Tryz.ntmps62
  go_wp2
  all_goals (go_ret; exact ⟨ret_bool (by rw [Bool.eq_iff_iff]; simp [restB]; omega), (Below.refl _ _).alloc (Nat.le_refl _) _⟩)

set_option maxHeartbeats 400000 in
theorem ran_any (t : Tk) (w : World) :
    Calls Tryz.prog 80 #[.agg #[.string t.pk, .string t.ts, .int .i64 t.env, .int .i64 t.cost, .int .i64 t.rev, .int .i64 t.st, .int .i64 t.att, .int .i64 t.run, .int .i64 t.ep, .int .i64 t.out]] w fun e w' => e = .returned (.bool (ranB t.att t.run t.ep)) ∧ Below w.heap.size w w' := by
  go_enter Tryz.func80, Tryz.ntmps80
  go_wp2
  all_goals (go_ret; exact ⟨ret_bool (by rw [Bool.eq_iff_iff]; simp [ranB]; omega), (Below.refl _ _).alloc (Nat.le_refl _) _⟩)

set_option maxHeartbeats 400000 in
theorem idle_any (t : Tk) (w : World) :
    Calls Tryz.prog 79 #[.agg #[.string t.pk, .string t.ts, .int .i64 t.env, .int .i64 t.cost, .int .i64 t.rev, .int .i64 t.st, .int .i64 t.att, .int .i64 t.run, .int .i64 t.ep, .int .i64 t.out]] w fun e w' => e = .returned (.bool (restB t.att t.run t.ep)) ∧ Below w.heap.size w w' := by
  go_enter Tryz.func79, Tryz.ntmps79
  go_wp2
  all_goals (go_ret; exact ⟨ret_bool (by rw [Bool.eq_iff_iff]; simp [restB]; omega), (Below.refl _ _).alloc (Nat.le_refl _) _⟩)

set_option maxHeartbeats 400000 in
theorem has_any (A : Option Addr) (n c : Nat) (L : Ld) (k : Int) (w : World) :
    Calls Tryz.prog 51 #[.agg #[.slice A n c, .int .i64 L.r0, .int .i64 L.r1, .int .i64 L.r2, .int .i64 L.r3, .int .i64 L.r4, .int .i64 L.r5], .int .i64 k] w fun e w' => e = .returned (.bool (decide (0 ≤ k) && decide (k < n))) ∧ Below w.heap.size w w' := by
  go_enter Tryz.func51, Tryz.ntmps51
  go_wp2
  all_goals (go_ret; exact ⟨ret_bool (by rw [Bool.eq_iff_iff]; simp; omega), (Below.refl _ _).alloc (Nat.le_refl _) _⟩)

theorem bl (p : ByteArray) : p.toList = [] ↔ p.size = 0 := by
  rw [ByteArray.toList_eq, ← List.length_eq_zero_iff]; rfl
theorem bls (p : ByteArray) : p.toList.isEmpty = decide (p.size = 0) := by
  rw [Bool.eq_iff_iff, List.isEmpty_iff, bl, decide_eq_true_eq]

set_option maxHeartbeats 400000 in
theorem usable_any (p t : ByteArray) (w : World) :
    Calls Tryz.prog 65 #[.agg #[.string p, .string t]] w fun e w' => e = .returned (.bool (usableB p t)) ∧ Below w.heap.size w w' := by
  go_enter Tryz.func65, Tryz.ntmps65
  go_wp2
  all_goals (go_ret; refine ⟨ret_bool ?_, (Below.refl _ _).alloc (Nat.le_refl _) _⟩)
  all_goals (simp only [bl] at *; rw [Bool.eq_iff_iff]; simp only [usableB, bls, Bool.and_eq_true, decide_eq_true_eq, Bool.not_eq_true', decide_eq_false_iff_not, Bool.false_eq_true, false_iff]; omega)

set_option maxHeartbeats 400000 in
theorem usabler_any (p t : ByteArray) (w : World) :
    Calls Tryz.prog 97 #[.agg #[.string p, .string t]] w fun e w' => e = .returned (.bool (usableB p t)) ∧ Below w.heap.size w w' := by
  go_enter Tryz.func97, Tryz.ntmps97
  go_wp2
  all_goals (go_ret; refine ⟨ret_bool ?_, (Below.refl _ _).alloc (Nat.le_refl _) _⟩)
  all_goals (rw [Bool.eq_iff_iff]; simp [usableB]; omega)

end Go.Proofs.YtjkffgcikbkjeaaGreat
