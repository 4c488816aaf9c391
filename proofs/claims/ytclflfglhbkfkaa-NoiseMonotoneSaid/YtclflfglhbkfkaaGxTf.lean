/- The walk of the law NoiseMonotone. -/
import Derived.Test.YtclflfglhbkfkaaG12
set_option linter.unusedVariables false
set_option linter.unusedSimpArgs false

/- The walk of the law NoiseMonotone. -/
namespace Go.Proofs.Ytclflfglhbkfkaa
open Go.RowKit

theorem up_ge (k : Int) (i : Nat) : decide (k ≤ (i : Int)) = true → decide (k ≤ ((i + 1 : Nat) : Int)) = true := by simp; omega
set_option maxRecDepth 100000 in
set_option maxHeartbeats 8000000 in
theorem mono_walk (w : World) (A : Option Addr) (n c : Nat) (l : List Int) (hA : Rs w none 1 iv A l) (hl : l.length = n) (N K : Int) :
    Calls Try.prog 3 #[.slice A n c, .int .i64 N, .int .i64 K] w fun e w' => e = .returned (.bool true) ∧ Below w.heap.size w w' := by
  have HP := hide (tp_new (w := w) (c := c) hA hl 31)
  obtain ⟨m, hm, hF⟩ := fold_nat N 32 (by omega) (by omega)
  obtain ⟨k, hk, hK⟩ := fold_nat K ((m : Int) + 2) (by omega) (by omega)
  have HF := hide hF
  have HK := hide hK
  clear hA hl hF hK
  have hm32 : m ≤ 32 := by omega
  have hm33 : m + 1 ≤ 32 := by omega
  have HM1 := hide (show (m : Int) + 1 = ((m + 1 : Nat) : Int) by omega)
  go_enter Try.func3, Try.ntmps3
  go_upto_region 2 with (go_at_call 11; refine (twom_any _ w.heap.size A n c l 0 HP.out (by omega)).mono ?_; rintro e w1 ⟨c1, c2, r, s, rfl, ho1, ho2, hc1, hc2, hrs, -, hf⟩; have HB1 := hide (fr_new rfl hf); have HO1 := hide ho1; have HO2 := hide ho2; have HC1 := hide hc1; have HC2 := hide hc2; have HRS := hide hrs; clear ho1 ho2 hc1 hc2 hrs hf)
  generalize hW : World.alloc (World.alloc w1 _) _ = v1
  have HX1 := hide (show BX w v1 [(w1.heap.size + 1, c2, some s), (w1.heap.size, c1, some r)] by rw [← hW]; exact ((BX.push ⟨HB1.out, by simp⟩ HO1.out 26 rfl).push (HO2.out.alloc _) 26 (by simp)))
  clear hW HO1 HO2 HB1
  obtain ⟨_, _, _, _, -⟩ := (HX1.out.get 1 rfl).b
  go_upto_region 8 with (first
    | (go_at_call 12; (with_reducible refine (HF.out _).mono ?_); rintro e w' ⟨rfl, rfl⟩)
    | (go_at_call 12; (with_reducible refine (HK.out _).mono ?_); rintro e w' ⟨rfl, rfl⟩)
    | (go_at_call 13; (with_reducible refine (atleast_okI _ c1 r m _ _ rfl (HX1.out.get 1 rfl).o HC1.out hm32).mono ?_); rintro e w2 ⟨c3, rfl, ho, hb⟩; have HO3 := hide ho; have HX2 := hide (HX1.out.below hb); obtain ⟨_, _, _, _, -⟩ := (HX2.out.get 0 rfl).b; clear ho hb)
    | (go_at_call 13; (with_reducible refine (atleast_okI _ c2 s m _ _ rfl ((HX2.out.get 0 rfl).o.alloc _) HC2.out hm32).mono ?_); rintro e w3 ⟨c4, rfl, ho, hb⟩; have HO4 := hide ho; have HX3 := hide ((HX2.out.push HO3.out 26 rfl).below hb); obtain ⟨_, _, _, _, -⟩ := (HX3.out.get 2 rfl).b; clear ho hb)
    | (go_at_call 13; (with_reducible refine (atleast_okI _ c1 r (m + 1) _ _ HM1.out ((HX3.out.get 2 rfl).o.alloc _) HC1.out hm33).mono ?_); rintro e w4 ⟨c5, rfl, ho, hb⟩; have HO5 := hide ho; have HX4 := hide ((HX3.out.push HO4.out 26 rfl).below hb); obtain ⟨_, _, _, _, -⟩ := (HX4.out.get 3 rfl).b; clear ho hb)
    | (go_at_call 13; (with_reducible refine (atleast_okI _ c1 r m _ _ rfl ((HX4.out.get 3 rfl).o.alloc _) HC1.out hm32).mono ?_); rintro e w5 ⟨c6, rfl, ho, hb⟩; have HO6 := hide ho; have HX5 := hide ((HX4.out.push HO5.out 26 rfl).below hb); clear ho hb))
  generalize hW : World.alloc w5 _ = v5
  have HX6 := hide (show BX w v5 [(w5.heap.size, c6, some (tot r m fun j => decide ((k : Int) - 1 ≤ (j : Int)))), (w4.heap.size, c5, some (tot r (m + 1) fun j => decide ((k : Int) ≤ (j : Int)))), (w3.heap.size, c4, some (tot s m fun j => decide ((k : Int) ≤ (j : Int)))), (w2.heap.size, c3, some (tot r m fun j => decide ((k : Int) ≤ (j : Int)))), (w1.heap.size + 1, c2, some s), (w1.heap.size, c1, some r)] by rw [← hW]; exact HX5.out.push HO6.out 26 rfl)
  have L1 := hide (show tot r m (fun j => decide ((k : Int) ≤ (j : Int))) ≤ tot s m (fun j => decide ((k : Int) ≤ (j : Int))) from tot_grow HC1.out.h0 HC2.out.h1 HRS.out (up_ge k))
  have L2 := hide (show tot r m (fun j => decide ((k : Int) ≤ (j : Int))) ≤ tot r (m + 1) (fun j => decide ((k : Int) ≤ (j : Int))) from tot_more HC1.out.h0 HC1.out.h1 (up_ge k))
  have L3 := hide (show tot r m (fun j => decide ((k : Int) ≤ (j : Int))) ≤ tot r m (fun j => decide ((k : Int) - 1 ≤ (j : Int))) from tot_mono HC1.out.h0 HC1.out.h1 (fun i h => by simp at h ⊢; omega))
  clear hW HX1 HX2 HX3 HX4 HX5 HO3 HO4 HO5 HO6
  obtain ⟨_, _, _, _, -⟩ := (HX6.out.get 3 rfl).b
  obtain ⟨_, _, _, _, -⟩ := (HX6.out.get 2 rfl).b
  go_wp2_with (first
    | (go_at_call 14; (with_reducible refine (fcmp_le _ c3 c4 _ _ (HX6.out.get 3 rfl).o (HX6.out.get 2 rfl).o L1.out).mono ?_); rintro e w6 ⟨z1, rfl, hz1, hb⟩; have HX7 := hide (HX6.out.below hb); obtain ⟨_, _, _, _, -⟩ := (HX7.out.get 3 rfl).b; obtain ⟨_, _, _, _, -⟩ := (HX7.out.get 1 rfl).b; clear hb)
    | (go_at_call 14; (with_reducible refine (fcmp_le _ c3 c5 _ _ (HX7.out.get 3 rfl).o (HX7.out.get 1 rfl).o L2.out).mono ?_); rintro e w7 ⟨z2, rfl, hz2, hb⟩; have HX8 := hide (HX7.out.below hb); obtain ⟨_, _, _, _, -⟩ := (HX8.out.get 3 rfl).b; obtain ⟨_, _, _, _, -⟩ := (HX8.out.get 0 rfl).b; clear hb)
    | (go_at_call 14; (with_reducible refine (fcmp_le _ c3 c6 _ _ (HX8.out.get 3 rfl).o (HX8.out.get 0 rfl).o L3.out).mono ?_); rintro e w8 ⟨z3, rfl, hz3, hb⟩; have HX9 := hide (HX8.out.below hb); clear hb)
    | (go_at_call 15; (with_reducible refine (known_any _).mono ?_); rintro e w9 ⟨rfl, hb⟩; have HX10 := hide (HX9.out.below hb); clear hb))
  go_ret
  exact ⟨rfl, HX10.out.bw⟩
end Go.Proofs.Ytclflfglhbkfkaa
