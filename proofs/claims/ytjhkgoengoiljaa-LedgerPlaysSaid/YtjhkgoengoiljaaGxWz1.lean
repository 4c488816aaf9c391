/- The walk of the first law. -/
import Derived.Test.YtjhkgoengoiljaaG23
import Derived.Test.YtjhkgoengoiljaaG22
import Derived.Test.YtjhkgoengoiljaaG3
set_option linter.unusedVariables false
set_option linter.unusedSimpArgs false

/- The walk of the first law. -/
namespace Go.Proofs.Ytjhkgoengoiljaa
open Go.RowKit

set_option maxRecDepth 100000 in
set_option maxHeartbeats 2000000 in
theorem plays_walk (w : World) (A : Option Addr) (n c : Nat) (l : List Int) (hA : Rs w none 1 iv A l) (hl : l.length = n) :
    Calls Try.prog 3 #[.slice A n c] w fun e w' => e = .returned (.bool true) ∧ Below w.heap.size w w' := by
  have HT := hide (tape_new (w := w) (c := c) hA hl 31)
  clear hA hl
  go_enter Try.func3, Try.ntmps3
  go_wp2_with fail
  refine (lived_any _ w.heap.size A n c l 0 70 HT.out (by omega) (by omega)).mono ?_
  rintro e w1 ⟨j, X, B, d, a', rfl, hr, hj, hR, ht, -, hf⟩
  have HF1 := hide (((Fr.refl w (fun i => i = w.heap.size)).alloc _).trans hf)
  have HR := hide hR
  have hok := hide hr.ok
  clear hr hR ht hf
  have hn : X.tks.length ≤ 4294967296 := by have := ((ok_iff X).1 hok.out).1; omega
  go_wp2_with fail
  refine (check_any B d _ X _ (some w.heap.size) (HR.out.alloc _) rfl hn).mono ?_
  rintro e w2 ⟨rfl, hb2⟩
  have HF2 := hide ((HF1.out.alloc _).below_ hb2)
  rw [hok.out]
  clear hb2
  go_wp2_with fail
  refine (known_any _).mono ?_
  rintro e w3 ⟨rfl, hb3⟩
  have HF3 := hide (HF2.out.below_ hb3)
  clear hb3
  go_wp2_with fail
  refine bodyPost_ret (v := .bool true) (by simp [results, Try.results3, go_sem, *]) rfl ⟨rfl, ?_⟩
  exact HF3.out.below (Nat.le_refl _) (fun k h h2 => by omega)

end Go.Proofs.Ytjhkgoengoiljaa
