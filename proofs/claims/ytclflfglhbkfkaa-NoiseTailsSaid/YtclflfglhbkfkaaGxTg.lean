/- The walk of the law NoiseTails. -/
import Derived.Test.YtclflfglhbkfkaaG12
set_option linter.unusedVariables false
set_option linter.unusedSimpArgs false

/- The walk of the law NoiseTails. -/
namespace Go.Proofs.Ytclflfglhbkfkaa
open Go.RowKit

theorem atmost_okI (w : World) (a : Fa) (r : Rat) (n : Nat) (N m : Int) (hN : N = n) (ha : Fo w a (some r)) (hc : Chn r) (hn : n ≤ 32) : Calls Try.prog 20 #[.agg #[.slice a.A a.n a.c, .slice a.B a.m a.d], .int .i64 N, .int .i64 m] w fun e w' => RetV w (tot r n (fun j => decide ((j : Int) ≤ m))) e w' := by
  subst hN
  exact atmost_ok w a r n m ha hc hn
theorem tails_one (r : Rat) (n : Nat) (k : Int) : tot r n (fun j => decide (k ≤ (j : Int))) + tot r n (fun j => decide ((j : Int) ≤ k - 1)) = 1 := by
  have h := tot_split r n (fun j => decide (k ≤ (j : Int)))
  have e : (fun j : Nat => !decide (k ≤ (j : Int))) = (fun j : Nat => decide ((j : Int) ≤ k - 1)) := by
    funext j
    rw [← decide_not]
    exact decide_eq_decide.2 (by omega)
  rw [e] at h
  exact h
set_option maxRecDepth 100000 in
set_option maxHeartbeats 8000000 in
theorem tails_walk (w : World) (A : Option Addr) (n c : Nat) (l : List Int) (hA : Rs w none 1 iv A l) (hl : l.length = n) (N K : Int) :
    Calls Try.prog 5 #[.slice A n c, .int .i64 N, .int .i64 K] w fun e w' => e = .returned (.bool true) ∧ Below w.heap.size w w' := by
  have HP := hide (tp_new (w := w) (c := c) hA hl 31)
  obtain ⟨m, hm, hF⟩ := fold_nat N 33 (by omega) (by omega)
  obtain ⟨k, hk, hK⟩ := fold_nat K ((m : Int) + 4) (by omega) (by omega)
  have HF := hide hF
  have HK := hide hK
  clear hA hl hF hK
  have hm32 : m ≤ 32 := by omega
  have HFIT := hide (show fitsR (1 : Rat) = true by decide +kernel)
  go_enter Try.func5, Try.ntmps5
  go_upto_region 2 with (first
    | (go_at_call 16; refine (chancem_any _ w.heap.size A n c l 0 HP.out (by omega)).mono ?_; rintro e w1 ⟨c1, r, rfl, ho1, hc1, -, hf⟩; have HB1 := hide (fr_new rfl hf); have HO1 := hide ho1; have HC1 := hide hc1; clear ho1 hc1 hf)
    | (go_at_call 12; (with_reducible refine (HF.out _).mono ?_); rintro e w' ⟨rfl, rfl⟩))
  generalize hW : World.alloc w1 _ = v1
  have HX1 := hide (show BX w v1 [(w1.heap.size, c1, some r)] by rw [← hW]; exact (BX.push ⟨HB1.out, by simp⟩ HO1.out 26 rfl))
  clear hW HO1 HB1
  obtain ⟨_, _, _, _, -⟩ := (HX1.out.get 0 rfl).b
  go_upto_region 6 with (first
    | (go_at_call 12; (with_reducible refine (HK.out _).mono ?_); rintro e w' ⟨rfl, rfl⟩)
    | (go_at_call 13; (with_reducible refine (atleast_okI _ c1 r m _ ((k : Int) - 1) rfl (HX1.out.get 0 rfl).o HC1.out hm32).mono ?_); rintro e w2 ⟨c2, rfl, ho, hb⟩; have HO2 := hide ho; have HX2 := hide (HX1.out.below hb); obtain ⟨_, _, _, _, -⟩ := (HX2.out.get 0 rfl).b; clear ho hb)
    | (go_at_call 20; (with_reducible refine (atmost_okI _ c1 r m _ ((k : Int) - 1 - 1) rfl ((HX2.out.get 0 rfl).o.alloc _) HC1.out hm32).mono ?_); rintro e w3 ⟨c3, rfl, ho, hb⟩; have HO3 := hide ho; have HX3 := hide ((HX2.out.push HO2.out 26 rfl).below hb); obtain ⟨_, _, _, _, -⟩ := (HX3.out.get 0 rfl).b; clear ho hb)
    | (go_at_call 23; (with_reducible refine (fadd_ok _ c2 c3 _ _ ((HX3.out.get 0 rfl).o.alloc _) (HO3.out.alloc _) (by rw [tails_one]; exact HFIT.out)).mono ?_); rintro e w4 ⟨c4, rfl, ho, hb⟩; rw [tails_one] at ho; have HO4 := hide ho; have HX4 := hide ((HX3.out.push HO3.out 26 rfl).below hb); clear ho hb))
  generalize hW : World.alloc w4 _ = v4
  have HX5 := hide (show BX w v4 [(w4.heap.size, c4, some 1)] by rw [← hW]; exact BX.push ⟨HX4.out.bw, by simp⟩ HO4.out 26 rfl)
  have HBV := hide HX5.out.bw
  clear hW HX1 HX2 HX3 HX4 HO2 HO3 HO4
  have k0 : (v4.cell? ⟨w4.heap.size, 0, none⟩ = some (.slice c4.A c4.n c4.c) ∧ v4.cell? ⟨w4.heap.size, 1, none⟩ = some (.slice c4.B c4.m c4.d)) := ⟨(HX5.out.get 0 rfl).b.c0, (HX5.out.get 0 rfl).b.c1⟩
  go_region_held3 (fun W => (W.cell? ⟨w4.heap.size, 0, none⟩ = some (.slice c4.A c4.n c4.c) ∧ W.cell? ⟨w4.heap.size, 1, none⟩ = some (.slice c4.B c4.m c4.d))) (first | with_reducible exact k7 | with_reducible exact k6 | with_reducible exact k5 | exact k0) (first
    | (go_at_call 24; (with_reducible refine (one_any _).mono ?_); rintro e w5 ⟨c5, rfl, ho, hb⟩; have hb' : Below v4.heap.size v4 w5 := Below.of_drew hb; have HO5 := hide ho; have HX6 := hide (HX5.out.below hb'); have k5 : (w5.cell? ⟨w4.heap.size, 0, none⟩ = some (.slice c4.A c4.n c4.c) ∧ w5.cell? ⟨w4.heap.size, 1, none⟩ = some (.slice c4.B c4.m c4.d)) := ⟨(HX6.out.get 0 rfl).b.c0, (HX6.out.get 0 rfl).b.c1⟩; clear ho hb hb')
    | (go_at_call 22; (with_reducible refine (samefrac_eq _ c4 c5 _ (HX6.out.get 0 rfl).o HO5.out).mono ?_); rintro e w6 ⟨rfl, hb⟩; have HX7 := hide (HX6.out.below hb); have k6 : (w6.cell? ⟨w4.heap.size, 0, none⟩ = some (.slice c4.A c4.n c4.c) ∧ w6.cell? ⟨w4.heap.size, 1, none⟩ = some (.slice c4.B c4.m c4.d)) := ⟨(HX7.out.get 0 rfl).b.c0, (HX7.out.get 0 rfl).b.c1⟩; clear hb)
    | (go_at_call 15; (with_reducible refine (known_any _).mono ?_); rintro e w7 ⟨rfl, hb⟩; have HX8 := hide (HX7.out.below hb); have k7 : (w7.cell? ⟨w4.heap.size, 0, none⟩ = some (.slice c4.A c4.n c4.c) ∧ w7.cell? ⟨w4.heap.size, 1, none⟩ = some (.slice c4.B c4.m c4.d)) := ⟨(HX8.out.get 0 rfl).b.c0, (HX8.out.get 0 rfl).b.c1⟩; clear hb))
  go_wp2_with fail
  go_ret
  exact ⟨rfl, HX8.out.bw⟩
end Go.Proofs.Ytclflfglhbkfkaa
