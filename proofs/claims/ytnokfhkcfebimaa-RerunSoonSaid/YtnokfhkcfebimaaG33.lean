/- Contracts of the functions that these laws reach: part 33: Contracts: report.check, Upper, Lower; Contracts: the report laws' level and known; Contract: the maker of specifications of the rerun laws; Plain laws of the verdicts of attempts; Contracts: rerun.after, rerun.check; Contracts: rerun.taken; the iterator. -/
import Derived.Test.YtnokfhkcfebimaaG32
import Derived.Test.YtnokfhkcfebimaaG24
import Derived.Test.YtnokfhkcfebimaaG23
import Derived.Test.YtnokfhkcfebimaaG22
import Derived.RangeFuncNested
import Derived.RangeFuncBound
import Derived.RangeFuncCalls
import Derived.RangeFuncLeaves
import Derived.Shelf.Abstract
import Derived.Shelf.RegionOpen
import Derived.OwnWalkIn
import Derived.TacticsInMore
import Derived.LoopNIn
import Derived.LoopIn
set_option linter.unusedVariables false
set_option linter.unusedSimpArgs false

/- Contracts: report.check, Upper, Lower. -/
namespace Go.Proofs.Ytnokfhkcfebimaa
open Go.RowKit

theorem mk1000_le {i j : Nat} (h : i ≤ j) : mkRat (i : Int) 1000 ≤ mkRat (j : Int) 1000 := by
  rw [Rat.mkRat_eq_div, Rat.mkRat_eq_div, Rat.div_def, Rat.div_def]
  refine Rat.mul_le_mul_of_nonneg_right ?_ (inv_nn (by decide))
  exact_mod_cast h
theorem IsSr.congr {g g' : Nat → Bool} {N r : Nat} (h : IsSr g N r) (hN : 0 < N) (e : ∀ i, i < N → g i = g' i) : IsSr g' N r := by
  obtain ⟨h1, h2, h3⟩ := h
  refine ⟨h1, ?_, ?_⟩
  · rcases h2 with h2 | h2
    · exact .inl h2
    · exact .inr (by rw [← e _ (by omega)]; exact h2)
  · rcases h3 with h3 | h3
    · exact .inl h3
    · by_cases hr : r = N
      · exact .inl hr
      · exact .inr (by rw [← e _ (by omega)]; exact h3)
theorem IsLst.congr {g g' : Nat → Bool} {N r : Nat} (h : IsLst g N r) (e : ∀ i, i < N → g i = g' i) : IsLst g' N r := by
  obtain ⟨h1, h2, h3⟩ := h
  exact ⟨h1, fun i hi => by rw [← e i (by omega)]; exact h2 i hi, fun hr => by rw [← e r hr]; exact h3 hr⟩
theorem IsGrt.congr {g g' : Nat → Bool} {N v : Nat} (h : IsGrt g N v) (e : ∀ i, i ≤ N → g i = g' i) : IsGrt g' N v := by
  obtain ⟨h1, h2, h3⟩ := h
  refine ⟨h1, ?_, ?_⟩
  · rcases h2 with h2 | h2
    · exact .inl h2
    · exact .inr (by rw [← e _ h1]; exact h2)
  · rcases h3 with h3 | h3
    · exact .inl h3
    · by_cases hv : v = N
      · exact .inl hv
      · exact .inr (by rw [← e _ (by omega)]; exact h3)
theorem lst_of_sr {g : Nat → Bool} {r : Nat} (h : IsSr g 1001 r) (hm : ∀ i j, i ≤ j → j ≤ 1000 → g i = true → g j = true) : IsLst g 1000 (min r 1000) := by
  have h1 := h.congr (g' := fun b => g b || decide (1000 < b)) (by omega) (fun i hi => by
    have : decide (1000 < i) = false := decide_eq_false (by omega)
    rw [this, Bool.or_false])
  have h2 := (h1.lst (fun i j hij hi => by
    simp only [Bool.or_eq_true, decide_eq_true_eq] at hi ⊢
    by_cases hj : 1000 < j
    · exact .inr hj
    · left
      rcases hi with hi | hi
      · exact hm i j hij (by omega) hi
      · omega)).cut (M := 1000) (by omega)
  exact IsLst.congr h2 (fun i hi => by
    have : decide (1000 < i) = false := decide_eq_false (by omega)
    rw [this, Bool.or_false])
theorem grt_of_sr {g : Nat → Bool} {r : Nat} (h : IsSr (fun i => !g i) 1001 r) (hm : ∀ i j, i ≤ j → j ≤ 1000 → g j = true → g i = true) : IsGrt g 1000 (r - 1) := by
  have h1 := h.congr (g' := fun b => !(g b && decide (b ≤ 1000))) (by omega) (fun i hi => by
    have : decide (i ≤ 1000) = true := decide_eq_true (by omega)
    rw [this, Bool.and_true])
  have hm' : ∀ i j, i ≤ j → (g j && decide (j ≤ 1000)) = true → (g i && decide (i ≤ 1000)) = true := fun i j hij hj => by
    simp only [Bool.and_eq_true, decide_eq_true_eq] at hj ⊢
    exact ⟨hm i j hij hj.2 hj.1, by omega⟩
  have h2 := IsLst.grt (g := fun b => g b && decide (b ≤ 1000)) hm' (N := 1000) (h1.lst (fun i j hij hi => by
    simp only [Bool.not_eq_true'] at hi ⊢
    cases hj : (g j && decide (j ≤ 1000)) with
    | false => rfl
    | true => rw [hm' i j hij hj] at hi; cases hi))
  exact IsGrt.congr h2 (fun i hi => by
    have : decide (i ≤ 1000) = true := decide_eq_true hi
    rw [this, Bool.and_true])
theorem atM_step {n : Nat} {m : Int} {ar : Rat} (i j : Nat) (hij : i ≤ j) (hj : j ≤ 1000) (h : decide (atM (mkRat (i : Int) 1000) n m ≤ ar) = true) : decide (atM (mkRat (j : Int) 1000) n m ≤ ar) = true := by
  rw [decide_eq_true_eq] at h ⊢
  exact Rat.le_trans (atM_anti (mk1000_chn (Nat.le_trans hij hj)).h0 (mk1000_chn hj).h1 (mk1000_le hij) n m) h
theorem atL_step {n : Nat} {m : Int} {ar : Rat} (i j : Nat) (hij : i ≤ j) (hj : j ≤ 1000) (h : decide (atL (mkRat (j : Int) 1000) n m ≤ ar) = true) : decide (atL (mkRat (i : Int) 1000) n m ≤ ar) = true := by
  rw [decide_eq_true_eq] at h ⊢
  exact Rat.le_trans (atL_grow (mk1000_chn (Nat.le_trans hij hj)).h0 (mk1000_chn hj).h1 (mk1000_le hij) n m) h
/-- What the search for the upper bound ends with. -/
theorem upper_is {n : Nat} {m : Int} {ar : Rat} {r : Nat} (h : IsSr (fun (b : Nat) => decide (atM (mkRat (b : Int) 1000) n m ≤ ar)) 1001 r) : IsLst (fun (b : Nat) => decide (atM (mkRat (b : Int) 1000) n m ≤ ar)) 1000 (min r 1000) := lst_of_sr h atM_step
theorem lower_is {n : Nat} {m : Int} {ar : Rat} {r : Nat} (h : IsSr (fun (b : Nat) => !decide (atL (mkRat (b : Int) 1000) n m ≤ ar)) 1001 r) : IsGrt (fun (b : Nat) => decide (atL (mkRat (b : Int) 1000) n m ≤ ar)) 1000 (r - 1) := grt_of_sr h atL_step
set_option maxRecDepth 100000 in
set_option maxHeartbeats 8000000 in
theorem repcheck_ok (w : World) (n : Nat) (m : Int) (al : Fa) (ar : Rat) (ha : Fo w al (some ar)) (hi : Inn ar) (hn : n ≤ 32) (hm : 0 ≤ m) (hmn : m ≤ n) :
    Calls Try.prog 91 #[.int .i64 (n : Int), .int .i64 m, .agg #[.slice al.A al.n al.c, .slice al.B al.m al.d]] w fun e w' => e = .returned (.int .i64 0) ∧ Below w.heap.size w w' := by
  have HA := hide ha
  have HCH := hide (show chO (some ar) = true by simp [chO, hi.c.h1, hi.c.hd])
  have HF := hide (show ∀ W, Calls Try.prog 123 #[.int .i64 1, .int .i64 1] W fun e w' => Ret W (some 1, 0) e w' from fun W => by
    have := fof_any W 1 1 (by omega) (by omega) (by omega)
    rwa [show mkRat ((1 : Nat) : Int) 1 = 1 by decide +kernel] at this)
  have hlen : 0 < al.n := (fq_len ha.1 (fracOf_self ha.2)).1.2 hi.p
  have g0 : decide ((al.n : Int) = 0) = false := decide_eq_false (by omega)
  have g1 : ¬ ((al.n : Int) = 0) := by omega
  have g2 : ((al.n : Int) == 0) = false := beq_eq_false_iff_ne.2 g1
  have hcv : cmpO (some ar) (some 1) < 0 := cmpQ_neg.2 hi.q
  obtain ⟨z, hz⟩ : ∃ z, z = cmpO (some ar) (some 1) := ⟨_, rfl⟩
  rw [← hz] at hcv
  have HZ := hide hz
  have g3 : ¬ (z = 0) := by omega
  have g4 : (z == 0) = false := beq_eq_false_iff_ne.2 g3
  have k1 : decide ((n : Int) < 0) = false := decide_eq_false (by omega)
  have k2 : decide ((32 : Int) < (n : Int)) = false := decide_eq_false (by omega)
  have k3 : decide (m < 0) = false := decide_eq_false (by omega)
  have k4 : decide ((n : Int) < m) = false := decide_eq_false (by omega)
  clear ha hi hz hlen
  go_enter Try.func91, Try.ntmps91
  go_upto_region 1 with (fail)
  generalize hW : World.alloc w _ = v
  have HV := hide (show Below w.heap.size w v by rw [← hW]; exact (Below.refl _ _).alloc (Nat.le_refl _) _)
  have HL := hide (show Bf v w.heap.size al ar by rw [← hW]; exact ⟨Bq.mk0 _ al rfl, HA.out.alloc _⟩)
  clear hW
  go_upto_region 2 with (go_at_call 123; (with_reducible refine (HF.out _).mono ?_); rintro e w1 ⟨c, rfl, ho, hb⟩; have HO := hide (show Fo w1 c (some 1) from ho); have HB1 := hide (HV.out.trans (hb.mono HV.out.size)); have HL1 := hide (HL.out.below hb); clear ho hb)
  generalize hW : World.alloc w1 _ = v2
  have HP2 := hide (show Bf v2 w1.heap.size c 1 by rw [← hW]; exact ⟨Bq.mk0 _ c rfl, HO.out.alloc _⟩)
  have HL2 := hide (show Bf v2 w.heap.size al ar by rw [← hW]; exact HL1.out.alloc _)
  have HB2 := hide (show Below w.heap.size w v2 by rw [← hW]; exact HB1.out.alloc HB1.out.size _)
  obtain ⟨bp, hbp⟩ : ∃ x, x = w1.heap.size := ⟨_, rfl⟩
  rw [← hbp] at HP2 ⊢
  have q0 := HL2.out.b.c0
  have q1 := HL2.out.b.c1
  clear hW hbp
  go_wp2_with (first
    | (go_at_call 37; (with_reducible refine (fcmp_o _ al c (some ar) (some 1) HL3.out.o HP3.out.o).mono ?_); rintro e w5 ⟨rfl, hb⟩; rw [← HZ.out]; have HB8 := hide (HB3.out.trans (hb.mono HB3.out.size)); clear hb)
    | (go_at_call 74; (with_reducible refine (chance_o _ al _ HL2.out.o).mono ?_); rintro e w2 ⟨rfl, hb⟩; rw [HCH.out]; have HB3 := hide (HB2.out.trans (hb.mono HB2.out.size)); have HP3 := hide (HP2.out.below hb); have HL3 := hide (HL2.out.below hb); have u0 := HL3.out.b.c0; have u1 := HL3.out.b.c1; have y0 := HP3.out.b.c0; have y1 := HP3.out.b.c1; clear hb))
  refine bodyPost_ret (v := .int .i64 0) (by simp [results, Try.results91, go_sem, *]) rfl ⟨rfl, HB8.out⟩
set_option maxRecDepth 100000 in
set_option maxHeartbeats 8000000 in
theorem upper_ok (w : World) (n : Nat) (m : Int) (al : Fa) (ar : Rat) (ha : Fo w al (some ar)) (hi : Inn ar) (hn : n ≤ 32) (hm : 0 ≤ m) (hmn : m ≤ n) :
    Calls Try.prog 51 #[.int .i64 (n : Int), .int .i64 m, .agg #[.slice al.A al.n al.c, .slice al.B al.m al.d]] w fun e w' => ∃ v : Nat, e = .returned (.tuple #[.int .i64 (v : Int), .int .i64 0]) ∧ IsLst (fun (b : Nat) => decide (atM (mkRat (b : Int) 1000) n m ≤ ar)) 1000 v ∧ Below w.heap.size w w' := by
  have HA := hide ha
  have HI := hide hi
  clear ha hi
  go_enter Try.func51, Try.ntmps51
  go_upto_region 1 with (fail)
  generalize hW : World.alloc (World.alloc (World.alloc w _) _) _ = v
  have HV := hide (show Below w.heap.size w v by rw [← hW]; exact (((Below.refl _ _).alloc (Nat.le_refl _) _).alloc (by simp) _).alloc (by simp; omega) _)
  have h3 : v.cell? ⟨w.heap.size, 0, none⟩ = some (.int .i64 (n : Int)) := by rw [← hW]; simp [go_sem]
  have h4 : v.cell? ⟨w.heap.size + 1, 0, none⟩ = some (.int .i64 m) := by rw [← hW]; simp [go_sem]
  have HL := hide (show Bf v (w.heap.size + 2) al ar by rw [← hW]; exact ⟨Bq.mk0 _ al (by simp), ((HA.out.alloc _).alloc _).alloc _⟩)
  have sz : w.heap.size + 2 < v.heap.size := HL.out.b.sz
  obtain ⟨b2, hb2⟩ : ∃ x, x = w.heap.size + 1 + 1 := ⟨_, rfl⟩
  have e2 : b2 = w.heap.size + 2 := hb2
  rw [← hb2]
  rw [← e2] at HL sz
  have k0 := HL.out.b.c0
  have k1 := HL.out.b.c1
  have s3 : w.heap.size < v.heap.size := by omega
  have s4 : w.heap.size + 1 < v.heap.size := by omega
  clear hW hb2 e2
  go_upto_region 5 with (first
    | (go_at_call 92; (with_reducible refine (upsearch_any _ al ar n m b2 w.heap.size (w.heap.size + 1) h31 h41 s31 s41 HL1.out hn).mono ?_); rintro e w2 ⟨r, rfl, hr, hb⟩; have HR := hide hr; have HB2 := hide (HB1.out.trans (hb.mono HB1.out.size)); clear hb)
    | (go_at_call 91; (with_reducible refine (repcheck_ok _ n m al ar HL.out.o HI.out hn hm hmn).mono ?_); rintro e w1 ⟨rfl, hb⟩; have HB1 := hide (HV.out.trans (hb.mono HV.out.size)); have HL1 := hide (HL.out.below hb); have h31 : w1.cell? ⟨w.heap.size, 0, none⟩ = some (.int .i64 (n : Int)) := (by rw [hb.cell (by exact s3)]; exact h3); have h41 : w1.cell? ⟨w.heap.size + 1, 0, none⟩ = some (.int .i64 m) := (by rw [hb.cell (by exact s4)]; exact h4); have s31 := Nat.lt_of_lt_of_le s3 hb.size; have s41 := Nat.lt_of_lt_of_le s4 hb.size; clear hb))
  have HLS := hide (upper_is HR.out)
  have hr1 : r ≤ 1001 := HR.out.1
  by_cases hrr : r ≤ 1000
  · have hmin : min r 1000 = r := by omega
    have HE := hide (show IsLst _ 1000 r by have := HLS.out; rwa [hmin] at this)
    have hm1 : min (r : Int) 1000 = (r : Int) := by omega
    clear hmin
    go_wp2_with fail
    refine bodyPost_ret (v := .tuple #[.int .i64 (r : Int), .int .i64 0]) (by simp [results, Try.results51, go_sem, *]) rfl ⟨r, rfl, HE.out, HB2.out⟩
  · obtain rfl : r = 1001 := by omega
    go_wp2_with fail
    refine bodyPost_ret (v := .tuple #[.int .i64 1000, .int .i64 0]) (by simp [results, Try.results51, go_sem, *]) rfl ⟨1000, rfl, HLS.out, HB2.out⟩
set_option maxRecDepth 100000 in
set_option maxHeartbeats 8000000 in
theorem loper_ok (w : World) (n : Nat) (m : Int) (al : Fa) (ar : Rat) (ha : Fo w al (some ar)) (hi : Inn ar) (hn : n ≤ 32) (hm : 0 ≤ m) (hmn : m ≤ n) :
    Calls Try.prog 52 #[.int .i64 (n : Int), .int .i64 m, .agg #[.slice al.A al.n al.c, .slice al.B al.m al.d]] w fun e w' => ∃ v : Nat, e = .returned (.tuple #[.int .i64 (v : Int), .int .i64 0]) ∧ IsGrt (fun (b : Nat) => decide (atL (mkRat (b : Int) 1000) n m ≤ ar)) 1000 v ∧ Below w.heap.size w w' := by
  have HA := hide ha
  have HI := hide hi
  clear ha hi
  go_enter Try.func52, Try.ntmps52
  go_upto_region 1 with (fail)
  generalize hW : World.alloc (World.alloc (World.alloc w _) _) _ = v
  have HV := hide (show Below w.heap.size w v by rw [← hW]; exact (((Below.refl _ _).alloc (Nat.le_refl _) _).alloc (by simp) _).alloc (by simp; omega) _)
  have h3 : v.cell? ⟨w.heap.size, 0, none⟩ = some (.int .i64 (n : Int)) := by rw [← hW]; simp [go_sem]
  have h4 : v.cell? ⟨w.heap.size + 1, 0, none⟩ = some (.int .i64 m) := by rw [← hW]; simp [go_sem]
  have HL := hide (show Bf v (w.heap.size + 2) al ar by rw [← hW]; exact ⟨Bq.mk0 _ al (by simp), ((HA.out.alloc _).alloc _).alloc _⟩)
  have sz : w.heap.size + 2 < v.heap.size := HL.out.b.sz
  obtain ⟨b2, hb2⟩ : ∃ x, x = w.heap.size + 1 + 1 := ⟨_, rfl⟩
  have e2 : b2 = w.heap.size + 2 := hb2
  rw [← hb2]
  rw [← e2] at HL sz
  have k0 := HL.out.b.c0
  have k1 := HL.out.b.c1
  have s3 : w.heap.size < v.heap.size := by omega
  have s4 : w.heap.size + 1 < v.heap.size := by omega
  clear hW hb2 e2
  go_upto_region 5 with (first
    | (go_at_call 92; (with_reducible refine (losearch_any _ al ar n m b2 w.heap.size (w.heap.size + 1) h31 h41 s31 s41 HL1.out hn).mono ?_); rintro e w2 ⟨r, rfl, hr, hb⟩; have HR := hide hr; have HB2 := hide (HB1.out.trans (hb.mono HB1.out.size)); clear hb)
    | (go_at_call 91; (with_reducible refine (repcheck_ok _ n m al ar HL.out.o HI.out hn hm hmn).mono ?_); rintro e w1 ⟨rfl, hb⟩; have HB1 := hide (HV.out.trans (hb.mono HV.out.size)); have HL1 := hide (HL.out.below hb); have h31 : w1.cell? ⟨w.heap.size, 0, none⟩ = some (.int .i64 (n : Int)) := (by rw [hb.cell (by exact s3)]; exact h3); have h41 : w1.cell? ⟨w.heap.size + 1, 0, none⟩ = some (.int .i64 m) := (by rw [hb.cell (by exact s4)]; exact h4); have s31 := Nat.lt_of_lt_of_le s3 hb.size; have s41 := Nat.lt_of_lt_of_le s4 hb.size; clear hb))
  have HLS := hide (lower_is HR.out)
  have hr1 : r ≤ 1001 := HR.out.1
  rcases Nat.eq_zero_or_pos r with hrr | hrr
  · subst hrr
    go_wp2_with fail
    refine bodyPost_ret (v := .tuple #[.int .i64 0, .int .i64 0]) (by simp [results, Try.results52, go_sem, *]) rfl ⟨0, rfl, HLS.out, HB2.out⟩
  · obtain ⟨k, rfl⟩ : ∃ k, r = k + 1 := ⟨r - 1, by omega⟩
    have e1 : ((k + 1 : Nat) : Int) - 1 = (k : Int) := by omega
    have e2 : max (k : Int) 0 = (k : Int) := by omega
    have e3 : wrap64 (((k + 1 : Nat) : Int) - 1) = (k : Int) := by rw [e1]; exact IntWalk.wrap64_in (k : Int) (by omega)
    go_wp2_with fail
    refine bodyPost_ret (v := .tuple #[.int .i64 (k : Int), .int .i64 0]) (by simp [results, Try.results52, go_sem, *]) rfl ⟨k, rfl, HLS.out, HB2.out⟩
end Go.Proofs.Ytnokfhkcfebimaa

/- Contracts: the report laws' level and known. -/
namespace Go.Proofs.Ytnokfhkcfebimaa
open Go.RowKit

set_option maxRecDepth 100000 in
set_option maxHeartbeats 8000000 in
theorem level_any (w : World) (T : Nat) (A : Option Addr) (n c : Nat) (l : List Int) (a : Nat) (hP : Tp w T A n c l a) (ha : a ≤ 4294960000) :
    Calls Try.prog 50 #[.pointer (some ⟨T, 0, none⟩)] w fun e w' => ∃ (f : Fa) (r : Rat), e = .returned (.agg #[.slice f.A f.n f.c, .slice f.B f.m f.d]) ∧ Fo w' f (some r) ∧ Inn r ∧ Fr w w' (fun b => b = T) := by
  have hTl := hP.t.1
  have HP0 := hide hP
  go_enter Try.func50, Try.ntmps50
  go_upto_region 1 with (fail)
  generalize hW : World.alloc w _ = v
  have HR := hide (show Rb v w.heap.size by rw [← hW]; exact Rb.mk0 _ rfl)
  have HF := hide (show Fr w v (fun b => b = T) by rw [← hW]; exact (Fr.refl _ _).alloc _)
  have HP := hide (show Tp v T A n c l a by rw [← hW]; exact hP.alloc _)
  clear hW hP
  have hvz := HR.out.sz
  rcases hB : decide (tapeV l a 4 < 1)
  · have HBO := hide hB
    clear hB
    go_wp2_with (first
      | (go_at_call 45; refine (chancetp_any _ T A n c l a 1 4 HP.out (by omega) (by omega)).mono ?_; rintro e w1 ⟨rfl, hp, hf⟩; rw [HBO.out]; have HP1 := hide hp; have HR1 := hide ((HR.out.bq.one hf (by omega)).rb); have HF1 := hide (HF.out.trans hf); have hT1 := HP1.out.t.1; clear hp hf)
      | (go_at_call 33; refine (pickp_any _ T A n c l (a + 1) _ 5 5 [2, 10, 20, 100, 1000] (HP1.out.alloc _) (by omega) (rs_new (by omega) [2, 10, 20, 100, 1000] 3) rfl (by decide) (by decide)).mono ?_; rintro e w2 ⟨⟨v1, hv, rfl⟩, hp, hf⟩; have HV := hide (mem_nat2 2 hv (by decide)); have HR2 := hide (((HR1.out.bq.alloc _).one hf (by omega)).rb); have HF2 := hide ((HF1.out.alloc _).trans hf); have hT2 := hp.t.1; clear hv hp hf; obtain ⟨d1, rfl, hd1, hd2⟩ := HV.out; clear HV)
      | (go_at_call 40; (with_reducible refine (small1_any _ d1 (by omega) (by omega)).mono ?_); rintro e w3 ⟨f, rfl, ho, hb⟩; have HO := hide ho; have HR3 := hide (HR2.out.below hb); have HF3 := hide (HF2.out.below_ hb); obtain ⟨r0, r1, rf, rz, -⟩ := HR3.out; clear ho hb))
    refine bodyPost_ret (v := .agg #[.slice f.A f.n f.c, .slice f.B f.m f.d]) (by simp [results, Try.results50, go_sem, *]) rfl ⟨f, mkRat ((1 : Nat) : Int) d1, rfl, HO.out.put2 HR3.out.nb _ _ (by simp), inn_mk hd1 hd2, (HF3.out.setCell (.inl (Nat.le_refl _)) _).setCell (.inl (Nat.le_refl _)) _⟩
  · have HBO := hide hB
    clear hB
    go_wp2_with (first
      | (go_at_call 45; refine (chancetp_any _ T A n c l a 1 4 HP.out (by omega) (by omega)).mono ?_; rintro e w1 ⟨rfl, hp, hf⟩; rw [HBO.out]; have HP1 := hide hp; have HR1 := hide ((HR.out.bq.one hf (by omega)).rb); have HF1 := hide (HF.out.trans hf); have hT1 := HP1.out.t.1; clear hp hf)
      | (go_at_call 58; refine (innermi_any _ T A n c l (a + 1) HP1.out (by omega)).mono ?_; rintro e w2 ⟨f, r, rfl, ho, hc, hi, hp, hf⟩; have HO := hide ho; have HI := hide (inn_of hc hi); have HR2 := hide ((HR1.out.bq.one hf (by omega)).rb); have HF2 := hide (HF1.out.trans hf); obtain ⟨r0, r1, rf, rz, -⟩ := HR2.out; clear ho hc hi hp hf))
    refine bodyPost_ret (v := .agg #[.slice f.A f.n f.c, .slice f.B f.m f.d]) (by simp [results, Try.results50, go_sem, *]) rfl ⟨f, r, rfl, HO.out.put2 HR2.out.nb _ _ (by simp), HI.out, (HF2.out.setCell (.inl (Nat.le_refl _)) _).setCell (.inl (Nat.le_refl _)) _⟩
theorem low_ex : IsGrt (fun (b : Nat) => decide (atL (mkRat (b : Int) 1000) 10 0 ≤ mkRat 1 20)) 1000 0 := ⟨by omega, .inl rfl, .inr (by decide +kernel)⟩
theorem up_ex : IsLst (fun (b : Nat) => decide (atM (mkRat (b : Int) 1000) 10 0 ≤ mkRat 1 20)) 1000 259 := by
  have h1 : IsSr (fun (b : Nat) => decide (atM (mkRat (b : Int) 1000) 10 0 ≤ mkRat 1 20)) 1001 259 := ⟨by omega, .inr (by decide +kernel), .inr (by decide +kernel)⟩
  exact upper_is h1
theorem low_anti {n : Nat} {m : Int} {ar : Rat} : ∀ i j, i ≤ j → (fun (b : Nat) => decide (atL (mkRat (b : Int) 1000) n m ≤ ar) && decide (b ≤ 1000)) j = true → (fun (b : Nat) => decide (atL (mkRat (b : Int) 1000) n m ≤ ar) && decide (b ≤ 1000)) i = true := fun i j hij hj => by
  simp only [Bool.and_eq_true] at hj ⊢
  have h2 := of_decide_eq_true hj.2
  exact ⟨atL_step i j hij h2 hj.1, decide_eq_true (by omega)⟩
theorem grt_uniq {n : Nat} {m : Int} {ar : Rat} {v u : Nat} (h : IsGrt (fun (b : Nat) => decide (atL (mkRat (b : Int) 1000) n m ≤ ar)) 1000 v) (k : IsGrt (fun (b : Nat) => decide (atL (mkRat (b : Int) 1000) n m ≤ ar)) 1000 u) : v = u := by
  have e : ∀ i, i ≤ 1000 → (fun (b : Nat) => decide (atL (mkRat (b : Int) 1000) n m ≤ ar)) i = (fun (b : Nat) => decide (atL (mkRat (b : Int) 1000) n m ≤ ar) && decide (b ≤ 1000)) i := fun i hi => by
    show decide (atL (mkRat (i : Int) 1000) n m ≤ ar) = (decide (atL (mkRat (i : Int) 1000) n m ≤ ar) && decide (i ≤ 1000))
    rw [show decide (i ≤ 1000) = true from decide_eq_true hi, Bool.and_true]
  exact IsGrt.uniq low_anti (h.congr e) (k.congr e)
theorem pk1 (w : World) (f : Fa) (h : Fo w f (some (mkRat 1 20))) : Calls Try.prog 51 #[.int .i64 10, .int .i64 0, .agg #[.slice f.A f.n f.c, .slice f.B f.m f.d]] w fun e w' => e = .returned (.tuple #[.int .i64 259, .int .i64 0]) ∧ Below w.heap.size w w' := by
  refine (upper_ok w 10 0 f (mkRat 1 20) h inn20 (by omega) (by omega) (by omega)).mono ?_
  rintro e w' ⟨v, rfl, hv, hb⟩
  rw [hv.uniq up_ex]
  exact ⟨rfl, hb⟩
theorem pk2 (w : World) (f : Fa) (h : Fo w f (some (mkRat 1 20))) : Calls Try.prog 52 #[.int .i64 10, .int .i64 0, .agg #[.slice f.A f.n f.c, .slice f.B f.m f.d]] w fun e w' => e = .returned (.tuple #[.int .i64 0, .int .i64 0]) ∧ Below w.heap.size w w' := by
  refine (loper_ok w 10 0 f (mkRat 1 20) h inn20 (by omega) (by omega) (by omega)).mono ?_
  rintro e w' ⟨v, rfl, hv, hb⟩
  rw [grt_uniq hv low_ex]
  exact ⟨rfl, hb⟩
set_option maxRecDepth 100000 in
set_option maxHeartbeats 8000000 in
theorem pknown_any (w : World) : Calls Try.prog 55 #[] w fun e w' => e = .returned (.bool true) ∧ Below w.heap.size w w' := by
  go_enter Try.func55, Try.ntmps55
  go_wp2_with (first
    | (go_at_call 52; (with_reducible refine (pk2 _ f2 HO3.out).mono ?_); rintro e w4 ⟨rfl, hb⟩; have HB4 := hide (HB3.out.trans (hb.mono HB3.out.size)); clear hb)
    | (go_at_call 40; (with_reducible refine (sm20 _).mono ?_); rintro e w3 ⟨f2, rfl, ho, hb⟩; have HO3 := hide ho; have HB3 := hide (HB2.out.trans (hb.mono HB2.out.size)); clear ho hb)
    | (go_at_call 51; (with_reducible refine (pk1 _ f1 HO1.out).mono ?_); rintro e w2 ⟨rfl, hb⟩; have HB2 := hide (HB1.out.trans (hb.mono HB1.out.size)); clear hb)
    | (go_at_call 40; (with_reducible refine (sm20 _).mono ?_); rintro e w1 ⟨f1, rfl, ho, hb⟩; have HO1 := hide ho; have HB1 := hide hb; clear ho hb))
  go_ret
  exact ⟨rfl, HB4.out⟩
end Go.Proofs.Ytnokfhkcfebimaa

/- Contract: the maker of specifications of the rerun laws. -/
namespace Go.Proofs.Ytnokfhkcfebimaa
open Go.RowKit

set_option maxRecDepth 100000 in
set_option maxHeartbeats 16000000 in
theorem vspec_any (w : World) (T : Nat) (A : Option Addr) (n c : Nat) (l : List Int) (a most : Nat) (hP : Tp w T A n c l a) (ha : a ≤ 4294960000) (hm : 1 ≤ most) (hm2 : most ≤ 32) :
    Calls Try.prog 41 #[.pointer (some ⟨T, 0, none⟩), .int .i64 (most : Int)] w fun e w' => MkS w T A n c l a most e w' := by
  have hTl := hP.t.1
  have HPW := hide hP
  go_enter Try.func41, Try.ntmps41
  go_upto_region 2 with (fail)
  generalize hW : World.alloc (World.alloc w _) _ = v
  have HS0 := hide (show SpS w v T A n c l a w.heap.size (w.heap.size + 1) sv0 by
    rw [← hW]
    exact ⟨(hP.alloc _).alloc _, (Cb.mk0 z9 (by simp [z9]) _ rfl).alloc _, Cb.mk0 z9 (by simp [z9]) _ (by simp), ⟨fq0 _, fq0 _, fq0 _, fq0 _⟩, ((Fr.refl _ _).alloc _).alloc _⟩)
  clear hW hP
  go_upto_region 3 with (go_at_call 57; refine (twom_any _ T A n c l a HS0.out.tp (by omega)).mono ?_; rintro e w1 ⟨f, g, r, s, rfl, hof, hog, hcr, hcs, hrs, hp, hf⟩; have HOF := hide hof; have HOG := hide hog; have HCR := hide hcr; have HCS := hide hcs; have HRS := hide hrs; have HS1 := hide (HS0.out.tape hp hf (by omega) (by omega)); have y0 := HS1.out.b.cell 0 _ rfl; have y1 := HS1.out.b.cell 1 _ rfl; have y2 := HS1.out.b.cell 2 _ rfl; have y3 := HS1.out.b.cell 3 _ rfl; have y4 := HS1.out.b.cell 4 _ rfl; have y5 := HS1.out.b.cell 5 _ rfl; have y6 := HS1.out.b.cell 6 _ rfl; have y7 := HS1.out.b.cell 7 _ rfl; have y8 := HS1.out.b.cell 8 _ rfl; have yf := HS1.out.b.fz; have yz := HS1.out.b.sz; clear hof hog hcr hcs hrs hp hf)
  generalize hW : World.setCell (World.setCell (World.setCell (World.setCell w1 _ _) _ _) _ _) _ _ = v2
  have HS2 := hide (show SpS w v2 T A n c l (a + 3) w.heap.size (w.heap.size + 1) ⟨f, g, fa0, fa0, 0, lm (rn r), lm r.den, lm (rn s), lm s.den, [], [], [], []⟩ by
    rw [← hW]
    exact HS1.out.put HPW.out (by omega) (by omega) (fr4 0 1 2 3 _ _ _ _) ((((HS1.out.b.put 0 (.slice f.A f.n f.c) (by simp [Sv.cs, sv0]) (by simp)).put 1 (.slice f.B f.m f.d) (by simp [Sv.cs, sv0]) (by simp)).put 2 (.slice g.A g.n g.c) (by simp [Sv.cs, sv0]) (by simp)).put 3 (.slice g.B g.m g.d) (by simp [Sv.cs, sv0]) (by simp)) ⟨HOF.out.1.one (fr4 0 1 2 3 _ _ _ _) HS1.out.b.nb, HOG.out.1.one (fr4 0 1 2 3 _ _ _ _) HS1.out.b.nb, fq0 _, fq0 _⟩ (by omega))
  clear hW
  clear y0 y1 y2 y3 y4 y5 y6 y7 y8 yf yz
  have HOK := hide (show okR (some r) ∧ okR (some s) from ⟨HOF.out.2, HOG.out.2⟩)
  have z0 := HS2.out.b.cell 0 _ rfl; have z1 := HS2.out.b.cell 1 _ rfl; have z2 := HS2.out.b.cell 2 _ rfl; have z3 := HS2.out.b.cell 3 _ rfl; have z4 := HS2.out.b.cell 4 _ rfl; have z5 := HS2.out.b.cell 5 _ rfl; have z6 := HS2.out.b.cell 6 _ rfl; have z7 := HS2.out.b.cell 7 _ rfl; have z8 := HS2.out.b.cell 8 _ rfl; have zf := HS2.out.b.fz; have zz := HS2.out.b.sz
  have hT2 := HS2.out.tp.t.1
  go_upto_region 4 with (first
    | (go_at_call 33; have hx10 : Rs (w10.alloc (.cells #[.int .i64 2, .int .i64 5, .int .i64 10, .int .i64 50] 3)) (some T) 1 iv (some ⟨w10.heap.size, 0, none⟩) [2, 5, 10, 50] := rs_new (by omega) [2, 5, 10, 50] 3; refine (pickp_any _ T A n c l (a + 3 + 1) _ 4 4 [2, 5, 10, 50] (HS10.out.tp.alloc _) (by omega) hx10 rfl (by decide) (by decide)).mono ?_; rintro e w11 ⟨⟨v2, hv, rfl⟩, hp, hf⟩; have HV := hide (mem_nat2 2 hv (by decide)); have HO5b := hide ((HO5.out.alloc _).one hf (HS10.out.tp.alloc _).nb); have HS11 := hide ((HS10.out.below ((Below.refl _ _).alloc (Nat.le_refl _) _)).tape hp hf (by omega) (by omega)); clear hv hp hf; obtain ⟨d2, rfl, hd3, hd4⟩ := HV.out; clear HV)
    | (go_at_call 33; have hx6 : Rs (v2.alloc (.cells #[.int .i64 2, .int .i64 3, .int .i64 10, .int .i64 20, .int .i64 100] 3)) (some T) 1 iv (some ⟨v2.heap.size, 0, none⟩) [2, 3, 10, 20, 100] := rs_new (by omega) [2, 3, 10, 20, 100] 3; refine (pickp_any _ T A n c l (a + 3) _ 5 5 [2, 3, 10, 20, 100] (HS2.out.tp.alloc _) (by omega) hx6 rfl (by decide) (by decide)).mono ?_; rintro e w9 ⟨⟨v1, hv, rfl⟩, hp, hf⟩; have HV := hide (mem_nat2 2 hv (by decide)); have HS9 := hide ((HS2.out.below ((Below.refl _ _).alloc (Nat.le_refl _) _)).tape hp hf (by omega) (by omega)); clear hv hp hf; obtain ⟨d1, rfl, hd1, hd2⟩ := HV.out; clear HV)
    | (go_at_call 40; (with_reducible refine (small1_any _ d1 (by omega) (by omega)).mono ?_); rintro e w10 ⟨f5, rfl, ho, hb⟩; have HO5 := hide ho; have HS10 := hide (HS9.out.below hb); have hT10 := HS10.out.tp.t.1; clear ho hb)
    | (go_at_call 40; (with_reducible refine (small1_any _ d2 (by omega) (by omega)).mono ?_); rintro e w12 ⟨f6, rfl, ho, hb⟩; have HO6 := hide ho; have HO5c := hide (HO5b.out.below hb); have HS12 := hide (HS11.out.below hb); have u0 := HS12.out.b.cell 0 _ rfl; have u1 := HS12.out.b.cell 1 _ rfl; have u2 := HS12.out.b.cell 2 _ rfl; have u3 := HS12.out.b.cell 3 _ rfl; have u4 := HS12.out.b.cell 4 _ rfl; have u5 := HS12.out.b.cell 5 _ rfl; have u6 := HS12.out.b.cell 6 _ rfl; have u7 := HS12.out.b.cell 7 _ rfl; have u8 := HS12.out.b.cell 8 _ rfl; have uf := HS12.out.b.fz; have uz := HS12.out.b.sz; clear ho hb))
  clear z0 z1 z2 z3 z4 z5 z6 z7 z8 zf zz
  have HI5 := hide (And.intro (inn_mk hd1 hd2) HO5c.out.2)
  have HI6 := hide (And.intro (inn_mk hd3 hd4) HO6.out.2)
  obtain ⟨r5, hr5⟩ : ∃ r, r = mkRat ((1 : Nat) : Int) d1 := ⟨_, rfl⟩
  obtain ⟨r6, hr6⟩ : ∃ r, r = mkRat ((1 : Nat) : Int) d2 := ⟨_, rfl⟩
  rw [← hr5] at HI5 HO5c
  rw [← hr6] at HI6 HO6
  clear hr5 hr6
  generalize hW : World.setCell (World.setCell (World.setCell (World.setCell w12 _ _) _ _) _ _) _ _ = v13
  have HS13 := hide (show SpS w v13 T A n c l (a + 3 + 1 + 1) w.heap.size (w.heap.size + 1) ⟨f, g, f5, f6, 0, lm (rn r), lm r.den, lm (rn s), lm s.den, lm (rn r5), lm r5.den, lm (rn r6), lm r6.den⟩ by
    rw [← hW]
    exact HS12.out.put HPW.out (by omega) (by omega) (fr4 4 5 6 7 _ _ _ _) (((((HS12.out.b.put 4 (.slice f5.A f5.n f5.c) (by simp [Sv.cs, sv0]) (by simp)).put 5 (.slice f5.B f5.m f5.d) (by simp [Sv.cs, sv0]) (by simp)).put 6 (.slice f6.A f6.n f6.c) (by simp [Sv.cs, sv0]) (by simp)).put 7 (.slice f6.B f6.m f6.d) (by simp [Sv.cs, sv0]) (by simp))) ⟨HS12.out.q.l.one (fr4 4 5 6 7 _ _ _ _) HS12.out.b.nb, HS12.out.q.h.one (fr4 4 5 6 7 _ _ _ _) HS12.out.b.nb, HO5c.out.1.one (fr4 4 5 6 7 _ _ _ _) HS12.out.b.nb, HO6.out.1.one (fr4 4 5 6 7 _ _ _ _) HS12.out.b.nb⟩ (by omega))
  clear hW
  clear u0 u1 u2 u3 u4 u5 u6 u7 u8 uf uz
  go_upto_region 5 with ((go_at_call 59; refine (nextp_any _ T A n c l (a + 3 + 1 + 1) (most : Int) HS13.out.tp (by omega) (by omega)).mono ?_; rintro e w8 ⟨rfl, hp, hf⟩; have HX := hide (tapeV_nat l (a + 3 + 1 + 1) (most : Int)); have HS8 := hide (HS13.out.tape hp hf (by omega) (by omega)); have q0 := HS8.out.b.cell 0 _ rfl; have q1 := HS8.out.b.cell 1 _ rfl; have q2 := HS8.out.b.cell 2 _ rfl; have q3 := HS8.out.b.cell 3 _ rfl; have q4 := HS8.out.b.cell 4 _ rfl; have q5 := HS8.out.b.cell 5 _ rfl; have q6 := HS8.out.b.cell 6 _ rfl; have q7 := HS8.out.b.cell 7 _ rfl; have q8 := HS8.out.b.cell 8 _ rfl; have qf := HS8.out.b.fz; have qz := HS8.out.b.sz; obtain ⟨x, hx, hxm⟩ := HX.out; rw [hx]; clear hp hf hx HX))
  obtain ⟨m, hmx⟩ : ∃ m : Nat, m = 1 + x := ⟨_, rfl⟩
  have hx1 : (1 : Int) + (x : Int) = (m : Int) := by omega
  have HMX := hide (show 1 ≤ m ∧ m ≤ most by omega)
  clear hmx
  generalize hW : World.setCell w8 _ _ = v8
  have HS9 := hide (show SpS w v8 T A n c l (a + 3 + 1 + 1 + 1) w.heap.size (w.heap.size + 1) ⟨f, g, f5, f6, (m : Int), lm (rn r), lm r.den, lm (rn s), lm s.den, lm (rn r5), lm r5.den, lm (rn r6), lm r6.den⟩ by
    rw [← hW]
    refine HS8.out.put HPW.out (by omega) (by omega) (fr1 8 _) ?_ (s' := ⟨f, g, f5, f6, (m : Int), lm (rn r), lm r.den, lm (rn s), lm s.den, lm (rn r5), lm r5.den, lm (rn r6), lm r6.den⟩) ⟨HS8.out.q.l.one (fr1 8 _) HS8.out.b.nb, HS8.out.q.h.one (fr1 8 _) HS8.out.b.nb, HS8.out.q.a.one (fr1 8 _) HS8.out.b.nb, HS8.out.q.b.one (fr1 8 _) HS8.out.b.nb⟩ (by omega)
    have h9 := HS8.out.b.put 8 (.int .i64 (m : Int)) (by simp [Sv.cs]) (by simp)
    rw [hx1]
    exact h9)
  clear q0 q1 q2 q3 q4 q5 q6 q7 q8 qf qz
  clear hW
  have p0 := HS9.out.b.cell 0 _ rfl; have p1 := HS9.out.b.cell 1 _ rfl; have p2 := HS9.out.b.cell 2 _ rfl; have p3 := HS9.out.b.cell 3 _ rfl; have p4 := HS9.out.b.cell 4 _ rfl; have p5 := HS9.out.b.cell 5 _ rfl; have p6 := HS9.out.b.cell 6 _ rfl; have p7 := HS9.out.b.cell 7 _ rfl; have p8 := HS9.out.b.cell 8 _ rfl; have pf := HS9.out.b.fz; have pz := HS9.out.b.sz
  have t0 := HS9.out.r.cell 0 _ rfl; have t1 := HS9.out.r.cell 1 _ rfl; have t2 := HS9.out.r.cell 2 _ rfl; have t3 := HS9.out.r.cell 3 _ rfl; have t4 := HS9.out.r.cell 4 _ rfl; have t5 := HS9.out.r.cell 5 _ rfl; have t6 := HS9.out.r.cell 6 _ rfl; have t7 := HS9.out.r.cell 7 _ rfl; have t8 := HS9.out.r.cell 8 _ rfl
  have tf := HS9.out.r.fz
  have tz := HS9.out.r.sz
  dsimp only at p0 p1 p2 p3 p4 p5 p6 p7 p8
  go_wp2_with fail
  have hq9 := hide (fr9 (w := v8) (g := w.heap.size) (.slice f.A f.n f.c) (.slice f.B f.m f.d) (.slice g.A g.n g.c) (.slice g.B g.m g.d) (.slice f5.A f5.n f5.c) (.slice f5.B f5.m f5.d) (.slice f6.A f6.n f6.c) (.slice f6.B f6.m f6.d) (.int .i64 (m : Int)))
  generalize hW : World.setCell (World.setCell (World.setCell (World.setCell (World.setCell (World.setCell (World.setCell (World.setCell (World.setCell v8 _ _) _ _) _ _) _ _) _ _) _ _) _ _) _ _) _ _ = v10
  have HR10 := hide (show Cb v10 w.heap.size [.slice f.A f.n f.c, .slice f.B f.m f.d, .slice g.A g.n g.c, .slice g.B g.m g.d, .slice f5.A f5.n f5.c, .slice f5.B f5.m f5.d, .slice f6.A f6.n f6.c, .slice f6.B f6.m f6.d, .int .i64 (m : Int)] by rw [← hW]; exact (((((((((HS9.out.r.put 0 (.slice f.A f.n f.c) (by simp [z9]) (by simp)).put 1 (.slice f.B f.m f.d) (by simp [z9]) (by simp)).put 2 (.slice g.A g.n g.c) (by simp [z9]) (by simp)).put 3 (.slice g.B g.m g.d) (by simp [z9]) (by simp)).put 4 (.slice f5.A f5.n f5.c) (by simp [z9]) (by simp)).put 5 (.slice f5.B f5.m f5.d) (by simp [z9]) (by simp)).put 6 (.slice f6.A f6.n f6.c) (by simp [z9]) (by simp)).put 7 (.slice f6.B f6.m f6.d) (by simp [z9]) (by simp)).put 8 (.int .i64 (m : Int)) (by simp [z9]) (by simp)))
  have HQ9 := hide (show Fr v8 v10 (fun b => b = w.heap.size) by rw [← hW]; exact hq9.out)
  clear hW hq9 p0 t0 p1 t1 p2 t2 p3 t3 p4 t4 p5 t5 p6 t6 p7 t7 p8 t8 pf tf pz tz
  have k0 := HR10.out.cell 0 _ rfl; have k1 := HR10.out.cell 1 _ rfl; have k2 := HR10.out.cell 2 _ rfl; have k3 := HR10.out.cell 3 _ rfl; have k4 := HR10.out.cell 4 _ rfl; have k5 := HR10.out.cell 5 _ rfl; have k6 := HR10.out.cell 6 _ rfl; have k7 := HR10.out.cell 7 _ rfl; have k8 := HR10.out.cell 8 _ rfl
  refine bodyPost_ret (v := .agg #[.slice f.A f.n f.c, .slice f.B f.m f.d, .slice g.A g.n g.c, .slice g.B g.m g.d, .slice f5.A f5.n f5.c, .slice f5.B f5.m f5.d, .slice f6.A f6.n f6.c, .slice f6.B f6.m f6.d, .int .i64 (m : Int)]) (by simp [results, Try.results41, go_sem, *]) rfl ⟨⟨f, g, f5, f6, (m : Int), lm (rn r), lm r.den, lm (rn s), lm s.den, lm (rn r5), lm r5.den, lm (rn r6), lm r6.den⟩, r, s, r5, r6, m, a + 3 + 1 + 1 + 1, rfl, HS9.out.q.one HQ9.out HS9.out.r.nb, ⟨fracOf_self (o := some r) HOK.out.1, fracOf_self (o := some s) HOK.out.2, fracOf_self (o := some r5) HI5.out.2, fracOf_self (o := some r6) HI6.out.2, ⟨HCR.out, HRS.out.1, lt_tr HRS.out.2.1 HRS.out.2.2⟩, ⟨HCS.out, lt_tr HRS.out.1 HRS.out.2.1, HRS.out.2.2⟩, HI5.out.1, HI6.out.1, HRS.out.2.1, rfl, HMX.out.1, Nat.le_trans HMX.out.2 hm2⟩, HMX.out.2, HPW.out.one HS9.out.tp (Nat.le_refl _) HQ9.out, by omega, HS9.out.fr.step HQ9.out (fun i hi e => by omega)⟩
end Go.Proofs.Ytnokfhkcfebimaa

/- Plain laws of the verdicts of attempts. -/
namespace Go.Proofs.Ytnokfhkcfebimaa
open Go.RowKit

/-- What a number of runs that passed and one of runs that failed mean. -/
def aftQ (d : Nat → Nat → Int) (M p f : Nat) : Int := if d p f = 2 then 1 else if d p f = 1 then 2 else if p + f = M then 3 else 0
theorem aft_go {d : Nat → Nat → Int} {M p f : Nat} (hpf : p + f ≤ M) (h : aftQ d M p f = 0) : p + f < M := by
  unfold aftQ at h
  split at h
  · simp at h
  · split at h
    · simp at h
    · split at h
      · simp at h
      · omega
theorem aft_range (d : Nat → Nat → Int) (M p f : Nat) : aftQ d M p f = 0 ∨ aftQ d M p f = 1 ∨ aftQ d M p f = 2 ∨ aftQ d M p f = 3 := by
  unfold aftQ
  split
  · exact .inr (.inl rfl)
  · split
    · exact .inr (.inr (.inl rfl))
    · split
      · exact .inr (.inr (.inr rfl))
      · exact .inl rfl
/-- The attempts behind the first one: (failed, random). -/
def judL (g : Nat → Nat → Int) (r0 : Bool) : List (Bool × Bool) → Nat → Nat → Nat → Int × Nat
  | [], k, _, _ => (0, k)
  | (fl, rd) :: t, k, p, f =>
    if rd ≠ r0 then (4, k + 1)
    else if rd = false then (if fl then (1, k + 1) else (4, k + 1))
    else if g (if fl then p else p + 1) (if fl then f + 1 else f) = 0 then judL g r0 t (k + 1) (if fl then p else p + 1) (if fl then f + 1 else f)
    else (g (if fl then p else p + 1) (if fl then f + 1 else f), k + 1)
def jud (g : Nat → Nat → Int) : List (Bool × Bool) → Int × Nat
  | [] => (0, 0)
  | (fl, rd) :: t => if fl = false then (5, 1) else judL g rd t 1 0 0
/-- Two cells of an attempt. -/
def atv (x : Bool × Bool) : List Value := [.bool x.1, .bool x.2]
theorem atv_len : ∀ x, (atv x).length = 2 := fun _ => rfl
end Go.Proofs.Ytnokfhkcfebimaa

/- Contracts: rerun.after, rerun.check. -/
namespace Go.Proofs.Ytnokfhkcfebimaa
open Go.RowKit

set_option maxRecDepth 100000 in
set_option maxHeartbeats 8000000 in
theorem vafter_ok (w : World) (s : Sv) (l h a b : Rat) (M p f : Nat) (hq : SQ w s) (hk : OKs s l h a b M) (hpf : p + f ≤ M) :
    Calls Try.prog 84 #[.agg #[.slice s.l.A s.l.n s.l.c, .slice s.l.B s.l.m s.l.d, .slice s.h.A s.h.n s.h.c, .slice s.h.B s.h.m s.h.d, .slice s.a.A s.a.n s.a.c, .slice s.a.B s.a.m s.a.d, .slice s.b.A s.b.n s.b.c, .slice s.b.B s.b.m s.b.d, .int .i64 s.m], .int .i64 (p : Int), .int .i64 (f : Int)] w fun e w' => e = .returned (.int .i64 (aftQ (decQ l h a b) M p f)) ∧ Below w.heap.size w w' := by
  have HK := hide hk
  have hm := hk.m
  have hm2 := hk.m2
  have hw : wrap64 ((p : Int) + (f : Int)) = (p : Int) + (f : Int) := IntWalk.wrap64_in _ ⟨by omega, by omega⟩
  have hw2 : wrap64 s.m = s.m := IntWalk.wrap64_in _ ⟨by omega, by omega⟩
  have HPF := hide hpf
  have hcase : (decQ l h a b p f = 2 ∧ aftQ (decQ l h a b) M p f = 1) ∨ (decQ l h a b p f = 1 ∧ aftQ (decQ l h a b) M p f = 2) ∨ (decQ l h a b p f = 0 ∧ aftQ (decQ l h a b) M p f = if p + f = M then 3 else 0) := by
    unfold aftQ
    rcases decQ_range l h a b p f with h0 | h0 | h0 <;> rw [h0] <;> simp
  clear hk hm2 hpf
  rcases hcase with ⟨hd, ha⟩ | ⟨hd, ha⟩ | ⟨hd, ha⟩
  · have HD := hide hd
    rw [ha]
    clear hd ha hm
    go_enter Try.func84, Try.ntmps84
    go_upto_region 1 with (fail)
    generalize hW : World.alloc w _ = v
    have HF := hide (show FS w v w.heap.size s by rw [← hW]; exact FS.mk0 hq _)
    obtain ⟨a0, a1, a2, a3, a4, a5, a6, a7, a8, a9⟩ := HF.out.ca
    clear hW hq
    go_wp2_with (go_at_call 23; (with_reducible refine (sdecide_ok _ s l h a b M p f HF.out.q HK.out HPF.out).mono ?_); rintro e w1 ⟨rfl, hb⟩; rw [HD.out]; have HF1 := hide (HF.out.below hb); obtain ⟨b0, b1, b2, b3, b4, b5, b6, b7, b8, b9⟩ := HF1.out.ca; clear hb)
    refine bodyPost_ret (v := .int .i64 1) (by simp [results, Try.results84, go_sem, *]) rfl ⟨rfl, HF1.out.bw⟩
  · have HD := hide hd
    rw [ha]
    clear hd ha hm
    go_enter Try.func84, Try.ntmps84
    go_upto_region 1 with (fail)
    generalize hW : World.alloc w _ = v
    have HF := hide (show FS w v w.heap.size s by rw [← hW]; exact FS.mk0 hq _)
    obtain ⟨a0, a1, a2, a3, a4, a5, a6, a7, a8, a9⟩ := HF.out.ca
    clear hW hq
    go_wp2_with (go_at_call 23; (with_reducible refine (sdecide_ok _ s l h a b M p f HF.out.q HK.out HPF.out).mono ?_); rintro e w1 ⟨rfl, hb⟩; rw [HD.out]; have HF1 := hide (HF.out.below hb); obtain ⟨b0, b1, b2, b3, b4, b5, b6, b7, b8, b9⟩ := HF1.out.ca; clear hb)
    refine bodyPost_ret (v := .int .i64 2) (by simp [results, Try.results84, go_sem, *]) rfl ⟨rfl, HF1.out.bw⟩
  · have HD := hide hd
    by_cases hpm : p + f = M
    · rw [ha, if_pos hpm]
      have e1 : (p : Int) + (f : Int) = s.m := by omega
      have e2 : ((p : Int) + (f : Int) == s.m) = true := by rw [e1]; simp
      have e3 : decide ((p : Int) + (f : Int) = s.m) = true := decide_eq_true e1
      clear hd ha hm hpm
      go_enter Try.func84, Try.ntmps84
      go_upto_region 1 with (fail)
      generalize hW : World.alloc w _ = v
      have HF := hide (show FS w v w.heap.size s by rw [← hW]; exact FS.mk0 hq _)
      obtain ⟨a0, a1, a2, a3, a4, a5, a6, a7, a8, a9⟩ := HF.out.ca
      clear hW hq
      go_wp2_with (go_at_call 23; (with_reducible refine (sdecide_ok _ s l h a b M p f HF.out.q HK.out HPF.out).mono ?_); rintro e w1 ⟨rfl, hb⟩; rw [HD.out]; have HF1 := hide (HF.out.below hb); obtain ⟨b0, b1, b2, b3, b4, b5, b6, b7, b8, b9⟩ := HF1.out.ca; clear hb)
      refine bodyPost_ret (v := .int .i64 3) (by simp [results, Try.results84, go_sem, *]) rfl ⟨rfl, HF1.out.bw⟩
    · rw [ha, if_neg hpm]
      have e1 : ¬ ((p : Int) + (f : Int) = s.m) := by omega
      have e2 : ((p : Int) + (f : Int) == s.m) = false := by simp [e1]
      have e3 : decide ((p : Int) + (f : Int) = s.m) = false := decide_eq_false e1
      clear hd ha hm hpm
      go_enter Try.func84, Try.ntmps84
      go_upto_region 1 with (fail)
      generalize hW : World.alloc w _ = v
      have HF := hide (show FS w v w.heap.size s by rw [← hW]; exact FS.mk0 hq _)
      obtain ⟨a0, a1, a2, a3, a4, a5, a6, a7, a8, a9⟩ := HF.out.ca
      clear hW hq
      go_wp2_with (go_at_call 23; (with_reducible refine (sdecide_ok _ s l h a b M p f HF.out.q HK.out HPF.out).mono ?_); rintro e w1 ⟨rfl, hb⟩; rw [HD.out]; have HF1 := hide (HF.out.below hb); obtain ⟨b0, b1, b2, b3, b4, b5, b6, b7, b8, b9⟩ := HF1.out.ca; clear hb)
      refine bodyPost_ret (v := .int .i64 0) (by simp [results, Try.results84, go_sem, *]) rfl ⟨rfl, HF1.out.bw⟩
/-- The first error of a specification and attempts. -/
def vckE (s : Sv) (n : Nat) : Int := if s.ok = false then 1 else if 33 < n then 2 else 0
set_option maxRecDepth 100000 in
set_option maxHeartbeats 8000000 in
theorem vcheck_any (w : World) (s : Sv) (A : Option Addr) (n c : Nat) (hq : SQ w s) :
    Calls Try.prog 81 #[.agg #[.slice s.l.A s.l.n s.l.c, .slice s.l.B s.l.m s.l.d, .slice s.h.A s.h.n s.h.c, .slice s.h.B s.h.m s.h.d, .slice s.a.A s.a.n s.a.c, .slice s.a.B s.a.m s.a.d, .slice s.b.A s.b.n s.b.c, .slice s.b.B s.b.m s.b.d, .int .i64 s.m], .slice A n c] w fun e w' => e = .returned (.int .i64 (vckE s n)) ∧ Below w.heap.size w w' := by
  have hcase : (s.ok = false ∧ vckE s n = 1) ∨ (s.ok = true ∧ 33 < n ∧ vckE s n = 2) ∨ (s.ok = true ∧ ¬ 33 < n ∧ vckE s n = 0) := by
    unfold vckE
    cases s.ok
    · simp
    · by_cases h : 33 < n <;> simp [h]
  rcases hcase with ⟨h1, h2⟩ | ⟨h1, h3, h2⟩ | ⟨h1, h3, h2⟩
  · have HOK := hide h1
    rw [h2]
    clear h1 h2
    go_enter Try.func81, Try.ntmps81
    go_upto_region 1 with (fail)
    generalize hW : World.alloc w _ = v
    have HF := hide (show FS w v w.heap.size s by rw [← hW]; exact FS.mk0 hq _)
    obtain ⟨a0, a1, a2, a3, a4, a5, a6, a7, a8, a9⟩ := HF.out.ca
    clear hW hq
    go_wp2_with (go_at_call 35; (with_reducible refine (scheckv_any _ s HF.out.q).mono ?_); rintro e w1 ⟨rfl, hb⟩; rw [HOK.out]; have HF1 := hide (HF.out.below hb); obtain ⟨b0, b1, b2, b3, b4, b5, b6, b7, b8, b9⟩ := HF1.out.ca; clear hb)
    refine bodyPost_ret (v := .int .i64 1) (by simp [results, Try.results81, go_sem, *]) rfl ⟨rfl, HF1.out.bw⟩
  · have HOK := hide h1
    have g1 : decide ((33 : Int) < (n : Int)) = true := decide_eq_true (by omega)
    have g2 : decide (33 < n) = true := decide_eq_true (by omega)
    rw [h2]
    clear h1 h2
    go_enter Try.func81, Try.ntmps81
    go_upto_region 1 with (fail)
    generalize hW : World.alloc w _ = v
    have HF := hide (show FS w v w.heap.size s by rw [← hW]; exact FS.mk0 hq _)
    obtain ⟨a0, a1, a2, a3, a4, a5, a6, a7, a8, a9⟩ := HF.out.ca
    clear hW hq
    go_wp2_with (go_at_call 35; (with_reducible refine (scheckv_any _ s HF.out.q).mono ?_); rintro e w1 ⟨rfl, hb⟩; rw [HOK.out]; have HF1 := hide (HF.out.below hb); obtain ⟨b0, b1, b2, b3, b4, b5, b6, b7, b8, b9⟩ := HF1.out.ca; clear hb)
    refine bodyPost_ret (v := .int .i64 2) (by simp [results, Try.results81, go_sem, *]) rfl ⟨rfl, HF1.out.bw⟩
  · have HOK := hide h1
    have g1 : decide ((33 : Int) < (n : Int)) = false := decide_eq_false (by omega)
    have g2 : decide (33 < n) = false := decide_eq_false (by omega)
    rw [h2]
    clear h1 h2
    go_enter Try.func81, Try.ntmps81
    go_upto_region 1 with (fail)
    generalize hW : World.alloc w _ = v
    have HF := hide (show FS w v w.heap.size s by rw [← hW]; exact FS.mk0 hq _)
    obtain ⟨a0, a1, a2, a3, a4, a5, a6, a7, a8, a9⟩ := HF.out.ca
    clear hW hq
    go_wp2_with (go_at_call 35; (with_reducible refine (scheckv_any _ s HF.out.q).mono ?_); rintro e w1 ⟨rfl, hb⟩; rw [HOK.out]; have HF1 := hide (HF.out.below hb); obtain ⟨b0, b1, b2, b3, b4, b5, b6, b7, b8, b9⟩ := HF1.out.ca; clear hb)
    refine bodyPost_ret (v := .int .i64 0) (by simp [results, Try.results81, go_sem, *]) rfl ⟨rfl, HF1.out.bw⟩
end Go.Proofs.Ytnokfhkcfebimaa

/- Contracts: rerun.taken; the iterator. -/
namespace Go.Proofs.Ytnokfhkcfebimaa
open Go.RowKit Go.Shelf
attribute [local go_sem] Oper.semAt_some

set_option maxRecDepth 100000 in
set_option maxHeartbeats 2000000 in
theorem vtaken_any (w : World) (A : Option Addr) (n c : Nat) (p : Addr) :
    Calls Try.prog 122 #[.slice A n c, .pointer (some p)] w fun e w' => e = .returned (.func (.func 143) #[] #[.pointer (some ⟨w.heap.size, 0, none⟩), .pointer (some ⟨w.heap.size + 1, 0, none⟩)]) ∧ Cb w' w.heap.size [.slice A n c] ∧ Cb w' (w.heap.size + 1) [.pointer (some p)] ∧ w'.heap.size = w.heap.size + 2 ∧ Below w.heap.size w w' := by
  go_enter Try.func122, Try.ntmps122
  go_wp2
  refine bodyPost_ret (v := .func (.func 143) #[] #[.pointer (some ⟨w.heap.size, 0, none⟩), .pointer (some ⟨w.heap.size + 1, 0, none⟩)]) (by simp [results, Try.results122, go_sem, *]) rfl ⟨rfl, ?_, ?_, ?_, ?_⟩
  · exact (Cb.mk0 (w := w) [.slice A n c] (by simp) _ rfl).below ((Below.refl _ _).alloc (Nat.le_refl _) _)
  · exact Cb.mk0 [.pointer (some p)] (by simp) _ (by simp)
  · simp
  · exact ((Below.refl _ _).alloc (Nat.le_refl _) _).alloc (by simp) _
end Go.Proofs.Ytnokfhkcfebimaa
