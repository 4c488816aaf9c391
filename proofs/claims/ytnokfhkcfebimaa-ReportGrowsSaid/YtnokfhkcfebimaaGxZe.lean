/- The walk of the law ReportGrows. -/
import Derived.Test.YtnokfhkcfebimaaG26
import Derived.Test.YtnokfhkcfebimaaG33
set_option linter.unusedVariables false
set_option linter.unusedSimpArgs false

/- The walk of the law ReportGrows. -/
namespace Go.Proofs.Ytnokfhkcfebimaa
open Go.RowKit

theorem upper_okI (w : World) (n : Nat) (NI m : Int) (hNI : NI = n) (al : Fa) (ar : Rat) (ha : Fo w al (some ar)) (hi : Inn ar) (hn : n ≤ 32) (hm : 0 ≤ m) (hmn : m ≤ n) :
    Calls Try.prog 51 #[.int .i64 NI, .int .i64 m, .agg #[.slice al.A al.n al.c, .slice al.B al.m al.d]] w fun e w' => ∃ v : Nat, e = .returned (.tuple #[.int .i64 (v : Int), .int .i64 0]) ∧ IsLst (fun (b : Nat) => decide (atM (mkRat (b : Int) 1000) n m ≤ ar)) 1000 v ∧ Below w.heap.size w w' := by
  subst hNI; exact upper_ok w n m al ar ha hi hn hm hmn
theorem lower_okI (w : World) (n : Nat) (NI m : Int) (hNI : NI = n) (al : Fa) (ar : Rat) (ha : Fo w al (some ar)) (hi : Inn ar) (hn : n ≤ 32) (hm : 0 ≤ m) (hmn : m ≤ n) :
    Calls Try.prog 52 #[.int .i64 NI, .int .i64 m, .agg #[.slice al.A al.n al.c, .slice al.B al.m al.d]] w fun e w' => ∃ v : Nat, e = .returned (.tuple #[.int .i64 (v : Int), .int .i64 0]) ∧ IsGrt (fun (b : Nat) => decide (atL (mkRat (b : Int) 1000) n m ≤ ar)) 1000 v ∧ Below w.heap.size w w' := by
  subst hNI; exact loper_ok w n m al ar ha hi hn hm hmn
theorem IsLst.mono' {g g' : Nat → Bool} {N r s : Nat} (h : IsLst g N r) (k : IsLst g' N s) (hg : ∀ i, i ≤ N → g i = true → g' i = true) : s ≤ r := by
  rcases Nat.lt_or_ge r s with h1 | h1
  · have h2 := k.2.1 r h1
    rw [hg r (by have := k.1; omega) (h.2.2 (by have := k.1; omega))] at h2
    cases h2
  · exact h1
theorem up_more {n a b : Nat} {m : Int} {ar : Rat} (h : IsLst (fun (b : Nat) => decide (atM (mkRat (b : Int) 1000) n m ≤ ar)) 1000 a) (k : IsLst (fun (b : Nat) => decide (atM (mkRat (b : Int) 1000) n (m + 1) ≤ ar)) 1000 b) : a ≤ b :=
  k.mono' h (fun i hi hg => decide_eq_true (Rat.le_trans (atM_more (mk1000_chn hi).h0 (mk1000_chn hi).h1 n (by omega)) (of_decide_eq_true hg)))
theorem up_runs {n a c : Nat} {m : Int} {ar : Rat} (h : IsLst (fun (b : Nat) => decide (atM (mkRat (b : Int) 1000) n m ≤ ar)) 1000 a) (k : IsLst (fun (b : Nat) => decide (atM (mkRat (b : Int) 1000) (n + 1) m ≤ ar)) 1000 c) : c ≤ a :=
  h.mono' k (fun i hi hg => decide_eq_true (Rat.le_trans (atM_runs (mk1000_chn hi).h0 (mk1000_chn hi).h1 n m) (of_decide_eq_true hg)))
theorem tot_none (r : Rat) (f : Nat → Bool) (h : f 0 = true) : tot r 0 f = 1 := by
  show sm r 0 f 0 + (if f 0 = true then tm r 0 0 else 0) = 1
  rw [if_pos h]
  show (0 : Rat) + tm r 0 0 = 1
  unfold tm
  rw [Rat.pow_zero, Nat.sub_zero, Rat.pow_zero]
  decide +kernel
theorem up_none {u : Nat} {ar : Rat} (hi : Inn ar) (h : IsLst (fun (b : Nat) => decide (atM (mkRat (b : Int) 1000) 0 0 ≤ ar)) 1000 u) : u = 1000 := by
  by_cases hu : u < 1000
  · have := of_decide_eq_true (h.2.2 hu)
    rw [show atM (mkRat (u : Int) 1000) 0 0 = 1 from tot_none _ _ (by decide)] at this
    exact absurd hi.q (Rat.not_lt.2 this)
  · have := h.1; omega
theorem low_none {v : Nat} {ar : Rat} (hi : Inn ar) (h : IsGrt (fun (b : Nat) => decide (atL (mkRat (b : Int) 1000) 0 0 ≤ ar)) 1000 v) : v = 0 := by
  rcases h.2.1 with h1 | h1
  · exact h1
  · have := of_decide_eq_true h1
    rw [show atL (mkRat (v : Int) 1000) 0 0 = 1 from tot_none _ _ (by decide)] at this
    exact absurd hi.q (Rat.not_lt.2 this)
set_option maxRecDepth 100000 in
set_option maxHeartbeats 16000000 in
theorem grows_walk (w : World) (A : Option Addr) (n c : Nat) (l : List Int) (X Y : Int) (hA : Rs w none 1 iv A l) (hl : l.length = n) :
    Calls Try.prog 17 #[.slice A n c, .int .i64 X, .int .i64 Y] w fun e w' => e = .returned (.bool true) ∧ Below w.heap.size w w' := by
  have HP := hide (tp_new (w := w) (c := c) hA hl 32)
  obtain ⟨q, hq, hF⟩ := fold_nat X 11 (by omega) (by omega)
  obtain ⟨m, hm, hG⟩ := fold_nat Y (1 + (q : Int)) (by omega) (by omega)
  have HFX := hide hF
  have HFY := hide hG
  have hmq : m ≤ q := by omega
  have hq10 : q ≤ 10 := by omega
  clear hA hl hF hG hq hm
  go_enter Try.func17, Try.ntmps17
  go_upto_region 2 with (go_at_call 50; refine (level_any _ w.heap.size A n c l 0 HP.out (by omega)).mono ?_; rintro e w1 ⟨f, ar, rfl, ho, hi, hf⟩; have HFr := hide hf; have HO := hide ho; have HI := hide hi; clear ho hi hf)
  generalize hW : World.alloc w1 _ = v
  have HB1 := hide (fr_new rfl HFr.out)
  have HX := hide (show Bf v w1.heap.size f ar by rw [← hW]; exact ⟨Bq.mk0 _ f rfl, HO.out.alloc _⟩)
  have HB := hide (show Below w.heap.size w v by rw [← hW]; exact HB1.out.alloc HB1.out.size _)
  obtain ⟨g, hg⟩ : ∃ g, g = w1.heap.size := ⟨_, rfl⟩
  rw [← hg] at HX ⊢
  clear hW hg
  go_upto_region 4 with (first
    | (go_at_call 20; (with_reducible refine (HFX.out _).mono ?_); rintro e w' ⟨rfl, rfl⟩)
    | (go_at_call 20; (with_reducible refine (HFY.out _).mono ?_); rintro e w' ⟨rfl, rfl⟩))
  have x0 := HX.out.b.c0
  have x1 := HX.out.b.c1
  go_wp2_with (first
    | (go_at_call 55; (with_reducible refine (pknown_any _).mono ?_); rintro e w9 ⟨rfl, hb⟩; have HB9 := hide (HB6.out.trans (hb.mono HB6.out.size)); clear hb)
    | (go_at_call 52; (with_reducible refine (lower_okI _ 0 0 0 rfl f ar HX5.out.o HI.out (by omega) (by omega) (by omega)).mono ?_); rintro e w6 ⟨v6, rfl, hv, hb⟩; obtain rfl := low_none HI.out hv; have HB6 := hide (HB5.out.trans (hb.mono HB5.out.size)); have hba : decide ((va : Int) ≤ (vb : Int)) = true := decide_eq_true (by have := up_more HVa.out HVb.out; omega); have hca : decide ((vc : Int) ≤ (va : Int)) = true := decide_eq_true (by have := up_runs HVa.out HVc.out; omega); have hba2 : (va : Int) ≤ (vb : Int) := of_decide_eq_true hba; have hca2 : (vc : Int) ≤ (va : Int) := of_decide_eq_true hca; clear hv hb)
    | (go_at_call 51; (with_reducible refine (upper_okI _ 0 0 0 rfl f ar HX4.out.o HI.out (by omega) (by omega) (by omega)).mono ?_); rintro e w5 ⟨v5, rfl, hv, hb⟩; obtain rfl := up_none HI.out hv; have HB5 := hide (HB4.out.trans (hb.mono HB4.out.size)); have HX5 := hide (HX4.out.below hb); have d0 := HX5.out.b.c0; have d1 := HX5.out.b.c1; clear hv hb)
    | (go_at_call 51; (with_reducible refine (upper_okI _ (q + 1 + 1) (1 + (q : Int) + 1) (m : Int) (by omega) f ar HX3.out.o HI.out (by omega) (by omega) (by omega)).mono ?_); rintro e w4 ⟨vc, rfl, hv, hb⟩; have HVc := hide hv; have HB4 := hide (HB3.out.trans (hb.mono HB3.out.size)); have HX4 := hide (HX3.out.below hb); have c0 := HX4.out.b.c0; have c1 := HX4.out.b.c1; clear hv hb)
    | (go_at_call 51; (with_reducible refine (upper_okI _ (q + 1) (1 + (q : Int)) ((m : Int) + 1) (by omega) f ar HX2.out.o HI.out (by omega) (by omega) (by omega)).mono ?_); rintro e w3 ⟨vb, rfl, hv, hb⟩; have HVb := hide hv; have HB3 := hide (HB2.out.trans (hb.mono HB2.out.size)); have HX3 := hide (HX2.out.below hb); have b0 := HX3.out.b.c0; have b1 := HX3.out.b.c1; clear hv hb)
    | (go_at_call 51; (with_reducible refine (upper_okI _ (q + 1) (1 + (q : Int)) (m : Int) (by omega) f ar HX.out.o HI.out (by omega) (by omega) (by omega)).mono ?_); rintro e w2 ⟨va, rfl, hv, hb⟩; have HVa := hide hv; have HB2 := hide (HB.out.trans (hb.mono HB.out.size)); have HX2 := hide (HX.out.below hb); have a0 := HX2.out.b.c0; have a1 := HX2.out.b.c1; clear hv hb))
  go_ret
  exact ⟨rfl, HB9.out⟩
end Go.Proofs.Ytnokfhkcfebimaa
