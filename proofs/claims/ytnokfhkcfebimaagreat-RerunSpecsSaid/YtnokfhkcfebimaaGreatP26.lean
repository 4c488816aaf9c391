/- Contracts of the functions that these laws reach: part 26: Contracts: noise.Choose; Contracts: the reference's Choose; Contract: the reference's Exactly. -/
import Derived.Test.YtnokfhkcfebimaaGreatP17
import Derived.Test.YtnokfhkcfebimaaGreatP3
set_option linter.unusedVariables false
set_option linter.unusedSimpArgs false

/- Contracts: noise.Choose. -/
namespace Go.Proofs.YtnokfhkcfebimaaGreat
open Go.RowKit

def chooseL (n k : Int) : List Nat := if n < 0 ∨ 32 < n then [] else if k < 0 ∨ n < k then [] else lm (ch n.toNat k.toNat)
def chooseE (n : Int) : Int := if n < 0 ∨ 32 < n then 3 else 0
end Go.Proofs.YtnokfhkcfebimaaGreat

/- Contracts: the reference's Choose. -/
namespace Go.Proofs.YtnokfhkcfebimaaGreat
open Go.RowKit

end Go.Proofs.YtnokfhkcfebimaaGreat

/- Contract: the reference's Exactly. -/
namespace Go.Proofs.YtnokfhkcfebimaaGreat
open Go.RowKit

theorem r2mul_ok (w : World) (a b : Fa) (r s : Rat) (ha : Fo w a (some r)) (hb : Fo w b (some s)) (hf : fitsR (r * s) = true) : Calls Tryz.prog 88 #[.agg #[.slice a.A a.n a.c, .slice a.B a.m a.d], .agg #[.slice b.A b.n b.c, .slice b.B b.m b.d]] w fun e w' => RetV w (r * s) e w' :=
  (r2mul_o w a b (some r) (some s) ha hb).mono fun e w' h => Ret.ok (by show limR (r * s) = _; rw [limR_fit hf]) h
theorem r2add_ok (w : World) (a b : Fa) (r s : Rat) (ha : Fo w a (some r)) (hb : Fo w b (some s)) (hf : fitsR (r + s) = true) : Calls Tryz.prog 90 #[.agg #[.slice a.A a.n a.c, .slice a.B a.m a.d], .agg #[.slice b.A b.n b.c, .slice b.B b.m b.d]] w fun e w' => RetV w (r + s) e w' :=
  (r2add_o w a b (some r) (some s) ha hb).mono fun e w' h => Ret.ok (by show limR (r + s) = _; rw [limR_fit hf]) h
end Go.Proofs.YtnokfhkcfebimaaGreat
