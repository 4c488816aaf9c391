/- The walk of the law SequentialRuns. -/
import Derived.Test.YtnokfhkcfebimaaG26
import Derived.Test.YtnokfhkcfebimaaG24
import Derived.Test.YtnokfhkcfebimaaG25
set_option linter.unusedVariables false
set_option linter.unusedSimpArgs false

/- The walk of the law SequentialRuns. -/
namespace Go.Proofs.Ytnokfhkcfebimaa
open Go.RowKit

set_option maxRecDepth 100000 in
set_option maxHeartbeats 8000000 in
theorem runs_walk (w : World) (A : Option Addr) (n c : Nat) (l : List Int) (O : Option Addr) (on oc : Nat) (outs : List Bool) (hA : Rs w none 1 iv A l) (hl : l.length = n) (hO : Rs w none 1 bv O outs) (hol : outs.length = on) (hoc : on ≤ oc) (hoc2 : oc ≤ 9223372036854775807) :
    Calls Try.prog 5 #[.slice A n c, .slice O on oc] w fun e w' => e = .returned (.bool true) ∧ Below w.heap.size w w' := by
  by_cases hbo : 100 < on
  · have d2 : decide ((100 : Int) < (on : Int)) = true := decide_eq_true (by omega)
    clear hA hO
    go_enter Try.func5, Try.ntmps5
    go_wp2_with (go_at_call 24; (with_reducible refine (yknown_any _).mono ?_); rintro e w9 ⟨rfl, hb⟩; have HB9 := hide hb; clear hb)
    go_ret
    exact ⟨rfl, HB9.out⟩
  · have d2 : decide ((100 : Int) < (on : Int)) = false := decide_eq_false (by omega)
    have HP := hide (tp_new (w := w) (c := c) hA hl 32)
    have HO := hide hO
    have HOL := hide hol
    clear hA hl hO hol
    go_enter Try.func5, Try.ntmps5
    go_upto_region 4 with (go_at_call 19; refine (yspec_any _ w.heap.size A n c l 0 32 HP.out (by omega) (by omega) (by omega)).mono ?_; rintro e w1 ⟨s, lo, hi, al, be, M, b, rfl, hq, hk, hM, -, -, hf⟩; have HB1 := hide (fr_new rfl hf); have HQ1 := hide hq; have HK := hide hk; clear hq hk hf)
    generalize hW : World.alloc w1 _ = v
    have HF := hide (show FS w v w1.heap.size s by rw [← hW]; exact ⟨HB1.out.trans (((Below.refl _ _).alloc (Nat.le_refl _) _ : Below w1.heap.size w1 _).mono HB1.out.size), (FS.mk0 HQ1.out _).cb, HQ1.out.alloc _⟩)
    have HO1 := hide (HO.out.below HF.out.bw)
    obtain ⟨g, hg⟩ : ∃ g, g = w1.heap.size := ⟨_, rfl⟩
    rw [← hg] at HF ⊢
    obtain ⟨a0, a1, a2, a3, a4, a5, a6, a7, a8, a9⟩ := HF.out.ca
    clear hW hg
    go_wp2_with (first
      | (go_at_call 24; (with_reducible refine (yknown_any _).mono ?_); rintro e w9 ⟨rfl, hb⟩; have HB9 := hide (HF3.out.bw.trans (hb.mono HF3.out.bw.size)); clear hb)
      | (go_at_call 30; (with_reducible refine (qrun_ok _ s lo hi al be M O on oc outs HF2.out.q HK.out HO2.out HOL.out hoc hoc2).mono ?_); rintro e w3 ⟨D', p', f', rfl, hr, hb⟩; obtain ⟨rfl, rfl, rfl⟩ : D' = D ∧ p' = p ∧ f' = f := (by have h9 := hr.trans HR.out.symm; simpa using h9); have HF3 := hide (HF2.out.below hb); clear hr hb)
      | (go_at_call 29; (with_reducible refine (srun_ok _ s lo hi al be M O on oc outs HF.out.q HK.out HO1.out HOL.out hoc hoc2).mono ?_); rintro e w2 ⟨D, p, f, rfl, hr, hb⟩; have HR := hide hr; have HF2 := hide (HF.out.below hb); have HO2 := hide (HO1.out.below hb); obtain ⟨b0, b1, b2, b3, b4, b5, b6, b7, b8, b9⟩ := HF2.out.ca; clear hr hb))
    go_ret
    exact ⟨rfl, HB9.out⟩
end Go.Proofs.Ytnokfhkcfebimaa
