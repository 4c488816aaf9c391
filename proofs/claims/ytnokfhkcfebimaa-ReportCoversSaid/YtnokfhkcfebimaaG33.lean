/- Contracts of the functions that these laws reach: part 33: Contracts: report.check, Upper, Lower; Contracts: the report laws' level and known. -/
import Derived.Test.YtnokfhkcfebimaaG32
set_option linter.unusedVariables false
set_option linter.unusedSimpArgs false

/- Contracts: report.check, Upper, Lower. -/
namespace Go.Proofs.Ytnokfhkcfebimaa
open Go.RowKit

theorem mk1000_le {i j : Nat} (h : i ≤ j) : mkRat (i : Int) 1000 ≤ mkRat (j : Int) 1000 := by
  rw [Rat.mkRat_eq_div, Rat.mkRat_eq_div, Rat.div_def, Rat.div_def]
  refine Rat.mul_le_mul_of_nonneg_right ?_ (inv_nn (by decide))
  exact_mod_cast h
theorem IsSr.congr {g g' : Nat → Bool} {N r : Nat} (h : IsSr g N r) (hN : 0 < N) (e : ∀ i, i < N → g i = g' i) : IsSr g' N r := by
  obtain ⟨h1, h2, h3⟩ := h
  refine ⟨h1, ?_, ?_⟩
  · rcases h2 with h2 | h2
    · exact .inl h2
    · exact .inr (by rw [← e _ (by omega)]; exact h2)
  · rcases h3 with h3 | h3
    · exact .inl h3
    · by_cases hr : r = N
      · exact .inl hr
      · exact .inr (by rw [← e _ (by omega)]; exact h3)
theorem IsLst.congr {g g' : Nat → Bool} {N r : Nat} (h : IsLst g N r) (e : ∀ i, i < N → g i = g' i) : IsLst g' N r := by
  obtain ⟨h1, h2, h3⟩ := h
  exact ⟨h1, fun i hi => by rw [← e i (by omega)]; exact h2 i hi, fun hr => by rw [← e r hr]; exact h3 hr⟩
theorem IsGrt.congr {g g' : Nat → Bool} {N v : Nat} (h : IsGrt g N v) (e : ∀ i, i ≤ N → g i = g' i) : IsGrt g' N v := by
  obtain ⟨h1, h2, h3⟩ := h
  refine ⟨h1, ?_, ?_⟩
  · rcases h2 with h2 | h2
    · exact .inl h2
    · exact .inr (by rw [← e _ h1]; exact h2)
  · rcases h3 with h3 | h3
    · exact .inl h3
    · by_cases hv : v = N
      · exact .inl hv
      · exact .inr (by rw [← e _ (by omega)]; exact h3)
theorem lst_of_sr {g : Nat → Bool} {r : Nat} (h : IsSr g 1001 r) (hm : ∀ i j, i ≤ j → j ≤ 1000 → g i = true → g j = true) : IsLst g 1000 (min r 1000) := by
  have h1 := h.congr (g' := fun b => g b || decide (1000 < b)) (by omega) (fun i hi => by
    have : decide (1000 < i) = false := decide_eq_false (by omega)
    rw [this, Bool.or_false])
  have h2 := (h1.lst (fun i j hij hi => by
    simp only [Bool.or_eq_true, decide_eq_true_eq] at hi ⊢
    by_cases hj : 1000 < j
    · exact .inr hj
    · left
      rcases hi with hi | hi
      · exact hm i j hij (by omega) hi
      · omega)).cut (M := 1000) (by omega)
  exact IsLst.congr h2 (fun i hi => by
    have : decide (1000 < i) = false := decide_eq_false (by omega)
    rw [this, Bool.or_false])
theorem grt_of_sr {g : Nat → Bool} {r : Nat} (h : IsSr (fun i => !g i) 1001 r) (hm : ∀ i j, i ≤ j → j ≤ 1000 → g j = true → g i = true) : IsGrt g 1000 (r - 1) := by
  have h1 := h.congr (g' := fun b => !(g b && decide (b ≤ 1000))) (by omega) (fun i hi => by
    have : decide (i ≤ 1000) = true := decide_eq_true (by omega)
    rw [this, Bool.and_true])
  have hm' : ∀ i j, i ≤ j → (g j && decide (j ≤ 1000)) = true → (g i && decide (i ≤ 1000)) = true := fun i j hij hj => by
    simp only [Bool.and_eq_true, decide_eq_true_eq] at hj ⊢
    exact ⟨hm i j hij hj.2 hj.1, by omega⟩
  have h2 := IsLst.grt (g := fun b => g b && decide (b ≤ 1000)) hm' (N := 1000) (h1.lst (fun i j hij hi => by
    simp only [Bool.not_eq_true'] at hi ⊢
    cases hj : (g j && decide (j ≤ 1000)) with
    | false => rfl
    | true => rw [hm' i j hij hj] at hi; cases hi))
  exact IsGrt.congr h2 (fun i hi => by
    have : decide (i ≤ 1000) = true := decide_eq_true hi
    rw [this, Bool.and_true])
theorem atM_step {n : Nat} {m : Int} {ar : Rat} (i j : Nat) (hij : i ≤ j) (hj : j ≤ 1000) (h : decide (atM (mkRat (i : Int) 1000) n m ≤ ar) = true) : decide (atM (mkRat (j : Int) 1000) n m ≤ ar) = true := by
  rw [decide_eq_true_eq] at h ⊢
  exact Rat.le_trans (atM_anti (mk1000_chn (Nat.le_trans hij hj)).h0 (mk1000_chn hj).h1 (mk1000_le hij) n m) h
theorem atL_step {n : Nat} {m : Int} {ar : Rat} (i j : Nat) (hij : i ≤ j) (hj : j ≤ 1000) (h : decide (atL (mkRat (j : Int) 1000) n m ≤ ar) = true) : decide (atL (mkRat (i : Int) 1000) n m ≤ ar) = true := by
  rw [decide_eq_true_eq] at h ⊢
  exact Rat.le_trans (atL_grow (mk1000_chn (Nat.le_trans hij hj)).h0 (mk1000_chn hj).h1 (mk1000_le hij) n m) h
/-- What the search for the upper bound ends with. -/
theorem upper_is {n : Nat} {m : Int} {ar : Rat} {r : Nat} (h : IsSr (fun (b : Nat) => decide (atM (mkRat (b : Int) 1000) n m ≤ ar)) 1001 r) : IsLst (fun (b : Nat) => decide (atM (mkRat (b : Int) 1000) n m ≤ ar)) 1000 (min r 1000) := lst_of_sr h atM_step
theorem lower_is {n : Nat} {m : Int} {ar : Rat} {r : Nat} (h : IsSr (fun (b : Nat) => !decide (atL (mkRat (b : Int) 1000) n m ≤ ar)) 1001 r) : IsGrt (fun (b : Nat) => decide (atL (mkRat (b : Int) 1000) n m ≤ ar)) 1000 (r - 1) := grt_of_sr h atL_step
set_option maxRecDepth 100000 in
set_option maxHeartbeats 8000000 in
theorem repcheck_ok (w : World) (n : Nat) (m : Int) (al : Fa) (ar : Rat) (ha : Fo w al (some ar)) (hi : Inn ar) (hn : n ≤ 32) (hm : 0 ≤ m) (hmn : m ≤ n) :
    Calls Try.prog 91 #[.int .i64 (n : Int), .int .i64 m, .agg #[.slice al.A al.n al.c, .slice al.B al.m al.d]] w fun e w' => e = .returned (.int .i64 0) ∧ Below w.heap.size w w' := by
  have HA := hide ha
  have HCH := hide (show chO (some ar) = true by simp [chO, hi.c.h1, hi.c.hd])
  have HF := hide (show ∀ W, Calls Try.prog 123 #[.int .i64 1, .int .i64 1] W fun e w' => Ret W (some 1, 0) e w' from fun W => by
    have := fof_any W 1 1 (by omega) (by omega) (by omega)
    rwa [show mkRat ((1 : Nat) : Int) 1 = 1 by decide +kernel] at this)
  have hlen : 0 < al.n := (fq_len ha.1 (fracOf_self ha.2)).1.2 hi.p
  have g0 : decide ((al.n : Int) = 0) = false := decide_eq_false (by omega)
  have g1 : ¬ ((al.n : Int) = 0) := by omega
  have g2 : ((al.n : Int) == 0) = false := beq_eq_false_iff_ne.2 g1
  have hcv : cmpO (some ar) (some 1) < 0 := cmpQ_neg.2 hi.q
  obtain ⟨z, hz⟩ : ∃ z, z = cmpO (some ar) (some 1) := ⟨_, rfl⟩
  rw [← hz] at hcv
  have HZ := hide hz
  have g3 : ¬ (z = 0) := by omega
  have g4 : (z == 0) = false := beq_eq_false_iff_ne.2 g3
  have k1 : decide ((n : Int) < 0) = false := decide_eq_false (by omega)
  have k2 : decide ((32 : Int) < (n : Int)) = false := decide_eq_false (by omega)
  have k3 : decide (m < 0) = false := decide_eq_false (by omega)
  have k4 : decide ((n : Int) < m) = false := decide_eq_false (by omega)
  clear ha hi hz hlen
  go_enter Try.func91, Try.ntmps91
  go_upto_region 1 with (fail)
  generalize hW : World.alloc w _ = v
  have HV := hide (show Below w.heap.size w v by rw [← hW]; exact (Below.refl _ _).alloc (Nat.le_refl _) _)
  have HL := hide (show Bf v w.heap.size al ar by rw [← hW]; exact ⟨Bq.mk0 _ al rfl, HA.out.alloc _⟩)
  clear hW
  go_upto_region 2 with (go_at_call 123; (with_reducible refine (HF.out _).mono ?_); rintro e w1 ⟨c, rfl, ho, hb⟩; have HO := hide (show Fo w1 c (some 1) from ho); have HB1 := hide (HV.out.trans (hb.mono HV.out.size)); have HL1 := hide (HL.out.below hb); clear ho hb)
  generalize hW : World.alloc w1 _ = v2
  have HP2 := hide (show Bf v2 w1.heap.size c 1 by rw [← hW]; exact ⟨Bq.mk0 _ c rfl, HO.out.alloc _⟩)
  have HL2 := hide (show Bf v2 w.heap.size al ar by rw [← hW]; exact HL1.out.alloc _)
  have HB2 := hide (show Below w.heap.size w v2 by rw [← hW]; exact HB1.out.alloc HB1.out.size _)
  obtain ⟨bp, hbp⟩ : ∃ x, x = w1.heap.size := ⟨_, rfl⟩
  rw [← hbp] at HP2 ⊢
  have q0 := HL2.out.b.c0
  have q1 := HL2.out.b.c1
  clear hW hbp
  go_wp2_with (first
    | (go_at_call 37; (with_reducible refine (fcmp_o _ al c (some ar) (some 1) HL3.out.o HP3.out.o).mono ?_); rintro e w5 ⟨rfl, hb⟩; rw [← HZ.out]; have HB8 := hide (HB3.out.trans (hb.mono HB3.out.size)); clear hb)
    | (go_at_call 74; (with_reducible refine (chance_o _ al _ HL2.out.o).mono ?_); rintro e w2 ⟨rfl, hb⟩; rw [HCH.out]; have HB3 := hide (HB2.out.trans (hb.mono HB2.out.size)); have HP3 := hide (HP2.out.below hb); have HL3 := hide (HL2.out.below hb); have u0 := HL3.out.b.c0; have u1 := HL3.out.b.c1; have y0 := HP3.out.b.c0; have y1 := HP3.out.b.c1; clear hb))
  refine bodyPost_ret (v := .int .i64 0) (by simp [results, Try.results91, go_sem, *]) rfl ⟨rfl, HB8.out⟩
set_option maxRecDepth 100000 in
set_option maxHeartbeats 8000000 in
theorem upper_ok (w : World) (n : Nat) (m : Int) (al : Fa) (ar : Rat) (ha : Fo w al (some ar)) (hi : Inn ar) (hn : n ≤ 32) (hm : 0 ≤ m) (hmn : m ≤ n) :
    Calls Try.prog 51 #[.int .i64 (n : Int), .int .i64 m, .agg #[.slice al.A al.n al.c, .slice al.B al.m al.d]] w fun e w' => ∃ v : Nat, e = .returned (.tuple #[.int .i64 (v : Int), .int .i64 0]) ∧ IsLst (fun (b : Nat) => decide (atM (mkRat (b : Int) 1000) n m ≤ ar)) 1000 v ∧ Below w.heap.size w w' := by
  have HA := hide ha
  have HI := hide hi
  clear ha hi
  go_enter Try.func51, Try.ntmps51
  go_upto_region 1 with (fail)
  generalize hW : World.alloc (World.alloc (World.alloc w _) _) _ = v
  have HV := hide (show Below w.heap.size w v by rw [← hW]; exact (((Below.refl _ _).alloc (Nat.le_refl _) _).alloc (by simp) _).alloc (by simp; omega) _)
  have h3 : v.cell? ⟨w.heap.size, 0, none⟩ = some (.int .i64 (n : Int)) := by rw [← hW]; simp [go_sem]
  have h4 : v.cell? ⟨w.heap.size + 1, 0, none⟩ = some (.int .i64 m) := by rw [← hW]; simp [go_sem]
  have HL := hide (show Bf v (w.heap.size + 2) al ar by rw [← hW]; exact ⟨Bq.mk0 _ al (by simp), ((HA.out.alloc _).alloc _).alloc _⟩)
  have sz : w.heap.size + 2 < v.heap.size := HL.out.b.sz
  obtain ⟨b2, hb2⟩ : ∃ x, x = w.heap.size + 1 + 1 := ⟨_, rfl⟩
  have e2 : b2 = w.heap.size + 2 := hb2
  rw [← hb2]
  rw [← e2] at HL sz
  have k0 := HL.out.b.c0
  have k1 := HL.out.b.c1
  have s3 : w.heap.size < v.heap.size := by omega
  have s4 : w.heap.size + 1 < v.heap.size := by omega
  clear hW hb2 e2
  go_upto_region 5 with (first
    | (go_at_call 92; (with_reducible refine (upsearch_any _ al ar n m b2 w.heap.size (w.heap.size + 1) h31 h41 s31 s41 HL1.out hn).mono ?_); rintro e w2 ⟨r, rfl, hr, hb⟩; have HR := hide hr; have HB2 := hide (HB1.out.trans (hb.mono HB1.out.size)); clear hb)
    | (go_at_call 91; (with_reducible refine (repcheck_ok _ n m al ar HL.out.o HI.out hn hm hmn).mono ?_); rintro e w1 ⟨rfl, hb⟩; have HB1 := hide (HV.out.trans (hb.mono HV.out.size)); have HL1 := hide (HL.out.below hb); have h31 : w1.cell? ⟨w.heap.size, 0, none⟩ = some (.int .i64 (n : Int)) := (by rw [hb.cell (by exact s3)]; exact h3); have h41 : w1.cell? ⟨w.heap.size + 1, 0, none⟩ = some (.int .i64 m) := (by rw [hb.cell (by exact s4)]; exact h4); have s31 := Nat.lt_of_lt_of_le s3 hb.size; have s41 := Nat.lt_of_lt_of_le s4 hb.size; clear hb))
  have HLS := hide (upper_is HR.out)
  have hr1 : r ≤ 1001 := HR.out.1
  by_cases hrr : r ≤ 1000
  · have hmin : min r 1000 = r := by omega
    have HE := hide (show IsLst _ 1000 r by have := HLS.out; rwa [hmin] at this)
    have hm1 : min (r : Int) 1000 = (r : Int) := by omega
    clear hmin
    go_wp2_with fail
    refine bodyPost_ret (v := .tuple #[.int .i64 (r : Int), .int .i64 0]) (by simp [results, Try.results51, go_sem, *]) rfl ⟨r, rfl, HE.out, HB2.out⟩
  · obtain rfl : r = 1001 := by omega
    go_wp2_with fail
    refine bodyPost_ret (v := .tuple #[.int .i64 1000, .int .i64 0]) (by simp [results, Try.results51, go_sem, *]) rfl ⟨1000, rfl, HLS.out, HB2.out⟩
set_option maxRecDepth 100000 in
set_option maxHeartbeats 8000000 in
theorem loper_ok (w : World) (n : Nat) (m : Int) (al : Fa) (ar : Rat) (ha : Fo w al (some ar)) (hi : Inn ar) (hn : n ≤ 32) (hm : 0 ≤ m) (hmn : m ≤ n) :
    Calls Try.prog 52 #[.int .i64 (n : Int), .int .i64 m, .agg #[.slice al.A al.n al.c, .slice al.B al.m al.d]] w fun e w' => ∃ v : Nat, e = .returned (.tuple #[.int .i64 (v : Int), .int .i64 0]) ∧ IsGrt (fun (b : Nat) => decide (atL (mkRat (b : Int) 1000) n m ≤ ar)) 1000 v ∧ Below w.heap.size w w' := by
  have HA := hide ha
  have HI := hide hi
  clear ha hi
  go_enter Try.func52, Try.ntmps52
  go_upto_region 1 with (fail)
  generalize hW : World.alloc (World.alloc (World.alloc w _) _) _ = v
  have HV := hide (show Below w.heap.size w v by rw [← hW]; exact (((Below.refl _ _).alloc (Nat.le_refl _) _).alloc (by simp) _).alloc (by simp; omega) _)
  have h3 : v.cell? ⟨w.heap.size, 0, none⟩ = some (.int .i64 (n : Int)) := by rw [← hW]; simp [go_sem]
  have h4 : v.cell? ⟨w.heap.size + 1, 0, none⟩ = some (.int .i64 m) := by rw [← hW]; simp [go_sem]
  have HL := hide (show Bf v (w.heap.size + 2) al ar by rw [← hW]; exact ⟨Bq.mk0 _ al (by simp), ((HA.out.alloc _).alloc _).alloc _⟩)
  have sz : w.heap.size + 2 < v.heap.size := HL.out.b.sz
  obtain ⟨b2, hb2⟩ : ∃ x, x = w.heap.size + 1 + 1 := ⟨_, rfl⟩
  have e2 : b2 = w.heap.size + 2 := hb2
  rw [← hb2]
  rw [← e2] at HL sz
  have k0 := HL.out.b.c0
  have k1 := HL.out.b.c1
  have s3 : w.heap.size < v.heap.size := by omega
  have s4 : w.heap.size + 1 < v.heap.size := by omega
  clear hW hb2 e2
  go_upto_region 5 with (first
    | (go_at_call 92; (with_reducible refine (losearch_any _ al ar n m b2 w.heap.size (w.heap.size + 1) h31 h41 s31 s41 HL1.out hn).mono ?_); rintro e w2 ⟨r, rfl, hr, hb⟩; have HR := hide hr; have HB2 := hide (HB1.out.trans (hb.mono HB1.out.size)); clear hb)
    | (go_at_call 91; (with_reducible refine (repcheck_ok _ n m al ar HL.out.o HI.out hn hm hmn).mono ?_); rintro e w1 ⟨rfl, hb⟩; have HB1 := hide (HV.out.trans (hb.mono HV.out.size)); have HL1 := hide (HL.out.below hb); have h31 : w1.cell? ⟨w.heap.size, 0, none⟩ = some (.int .i64 (n : Int)) := (by rw [hb.cell (by exact s3)]; exact h3); have h41 : w1.cell? ⟨w.heap.size + 1, 0, none⟩ = some (.int .i64 m) := (by rw [hb.cell (by exact s4)]; exact h4); have s31 := Nat.lt_of_lt_of_le s3 hb.size; have s41 := Nat.lt_of_lt_of_le s4 hb.size; clear hb))
  have HLS := hide (lower_is HR.out)
  have hr1 : r ≤ 1001 := HR.out.1
  rcases Nat.eq_zero_or_pos r with hrr | hrr
  · subst hrr
    go_wp2_with fail
    refine bodyPost_ret (v := .tuple #[.int .i64 0, .int .i64 0]) (by simp [results, Try.results52, go_sem, *]) rfl ⟨0, rfl, HLS.out, HB2.out⟩
  · obtain ⟨k, rfl⟩ : ∃ k, r = k + 1 := ⟨r - 1, by omega⟩
    have e1 : ((k + 1 : Nat) : Int) - 1 = (k : Int) := by omega
    have e2 : max (k : Int) 0 = (k : Int) := by omega
    have e3 : wrap64 (((k + 1 : Nat) : Int) - 1) = (k : Int) := by rw [e1]; exact IntWalk.wrap64_in (k : Int) (by omega)
    go_wp2_with fail
    refine bodyPost_ret (v := .tuple #[.int .i64 (k : Int), .int .i64 0]) (by simp [results, Try.results52, go_sem, *]) rfl ⟨k, rfl, HLS.out, HB2.out⟩
end Go.Proofs.Ytnokfhkcfebimaa

/- Contracts: the report laws' level and known. -/
namespace Go.Proofs.Ytnokfhkcfebimaa
open Go.RowKit

set_option maxRecDepth 100000 in
set_option maxHeartbeats 8000000 in
theorem level_any (w : World) (T : Nat) (A : Option Addr) (n c : Nat) (l : List Int) (a : Nat) (hP : Tp w T A n c l a) (ha : a ≤ 4294960000) :
    Calls Try.prog 50 #[.pointer (some ⟨T, 0, none⟩)] w fun e w' => ∃ (f : Fa) (r : Rat), e = .returned (.agg #[.slice f.A f.n f.c, .slice f.B f.m f.d]) ∧ Fo w' f (some r) ∧ Inn r ∧ Fr w w' (fun b => b = T) := by
  have hTl := hP.t.1
  have HP0 := hide hP
  go_enter Try.func50, Try.ntmps50
  go_upto_region 1 with (fail)
  generalize hW : World.alloc w _ = v
  have HR := hide (show Rb v w.heap.size by rw [← hW]; exact Rb.mk0 _ rfl)
  have HF := hide (show Fr w v (fun b => b = T) by rw [← hW]; exact (Fr.refl _ _).alloc _)
  have HP := hide (show Tp v T A n c l a by rw [← hW]; exact hP.alloc _)
  clear hW hP
  have hvz := HR.out.sz
  rcases hB : decide (tapeV l a 4 < 1)
  · have HBO := hide hB
    clear hB
    go_wp2_with (first
      | (go_at_call 45; refine (chancetp_any _ T A n c l a 1 4 HP.out (by omega) (by omega)).mono ?_; rintro e w1 ⟨rfl, hp, hf⟩; rw [HBO.out]; have HP1 := hide hp; have HR1 := hide ((HR.out.bq.one hf (by omega)).rb); have HF1 := hide (HF.out.trans hf); have hT1 := HP1.out.t.1; clear hp hf)
      | (go_at_call 33; refine (pickp_any _ T A n c l (a + 1) _ 5 5 [2, 10, 20, 100, 1000] (HP1.out.alloc _) (by omega) (rs_new (by omega) [2, 10, 20, 100, 1000] 3) rfl (by decide) (by decide)).mono ?_; rintro e w2 ⟨⟨v1, hv, rfl⟩, hp, hf⟩; have HV := hide (mem_nat2 2 hv (by decide)); have HR2 := hide (((HR1.out.bq.alloc _).one hf (by omega)).rb); have HF2 := hide ((HF1.out.alloc _).trans hf); have hT2 := hp.t.1; clear hv hp hf; obtain ⟨d1, rfl, hd1, hd2⟩ := HV.out; clear HV)
      | (go_at_call 40; (with_reducible refine (small1_any _ d1 (by omega) (by omega)).mono ?_); rintro e w3 ⟨f, rfl, ho, hb⟩; have HO := hide ho; have HR3 := hide (HR2.out.below hb); have HF3 := hide (HF2.out.below_ hb); obtain ⟨r0, r1, rf, rz, -⟩ := HR3.out; clear ho hb))
    refine bodyPost_ret (v := .agg #[.slice f.A f.n f.c, .slice f.B f.m f.d]) (by simp [results, Try.results50, go_sem, *]) rfl ⟨f, mkRat ((1 : Nat) : Int) d1, rfl, HO.out.put2 HR3.out.nb _ _ (by simp), inn_mk hd1 hd2, (HF3.out.setCell (.inl (Nat.le_refl _)) _).setCell (.inl (Nat.le_refl _)) _⟩
  · have HBO := hide hB
    clear hB
    go_wp2_with (first
      | (go_at_call 45; refine (chancetp_any _ T A n c l a 1 4 HP.out (by omega) (by omega)).mono ?_; rintro e w1 ⟨rfl, hp, hf⟩; rw [HBO.out]; have HP1 := hide hp; have HR1 := hide ((HR.out.bq.one hf (by omega)).rb); have HF1 := hide (HF.out.trans hf); have hT1 := HP1.out.t.1; clear hp hf)
      | (go_at_call 58; refine (innermi_any _ T A n c l (a + 1) HP1.out (by omega)).mono ?_; rintro e w2 ⟨f, r, rfl, ho, hc, hi, hp, hf⟩; have HO := hide ho; have HI := hide (inn_of hc hi); have HR2 := hide ((HR1.out.bq.one hf (by omega)).rb); have HF2 := hide (HF1.out.trans hf); obtain ⟨r0, r1, rf, rz, -⟩ := HR2.out; clear ho hc hi hp hf))
    refine bodyPost_ret (v := .agg #[.slice f.A f.n f.c, .slice f.B f.m f.d]) (by simp [results, Try.results50, go_sem, *]) rfl ⟨f, r, rfl, HO.out.put2 HR2.out.nb _ _ (by simp), HI.out, (HF2.out.setCell (.inl (Nat.le_refl _)) _).setCell (.inl (Nat.le_refl _)) _⟩
theorem low_ex : IsGrt (fun (b : Nat) => decide (atL (mkRat (b : Int) 1000) 10 0 ≤ mkRat 1 20)) 1000 0 := ⟨by omega, .inl rfl, .inr (by decide +kernel)⟩
theorem up_ex : IsLst (fun (b : Nat) => decide (atM (mkRat (b : Int) 1000) 10 0 ≤ mkRat 1 20)) 1000 259 := by
  have h1 : IsSr (fun (b : Nat) => decide (atM (mkRat (b : Int) 1000) 10 0 ≤ mkRat 1 20)) 1001 259 := ⟨by omega, .inr (by decide +kernel), .inr (by decide +kernel)⟩
  exact upper_is h1
theorem low_anti {n : Nat} {m : Int} {ar : Rat} : ∀ i j, i ≤ j → (fun (b : Nat) => decide (atL (mkRat (b : Int) 1000) n m ≤ ar) && decide (b ≤ 1000)) j = true → (fun (b : Nat) => decide (atL (mkRat (b : Int) 1000) n m ≤ ar) && decide (b ≤ 1000)) i = true := fun i j hij hj => by
  simp only [Bool.and_eq_true] at hj ⊢
  have h2 := of_decide_eq_true hj.2
  exact ⟨atL_step i j hij h2 hj.1, decide_eq_true (by omega)⟩
theorem grt_uniq {n : Nat} {m : Int} {ar : Rat} {v u : Nat} (h : IsGrt (fun (b : Nat) => decide (atL (mkRat (b : Int) 1000) n m ≤ ar)) 1000 v) (k : IsGrt (fun (b : Nat) => decide (atL (mkRat (b : Int) 1000) n m ≤ ar)) 1000 u) : v = u := by
  have e : ∀ i, i ≤ 1000 → (fun (b : Nat) => decide (atL (mkRat (b : Int) 1000) n m ≤ ar)) i = (fun (b : Nat) => decide (atL (mkRat (b : Int) 1000) n m ≤ ar) && decide (b ≤ 1000)) i := fun i hi => by
    show decide (atL (mkRat (i : Int) 1000) n m ≤ ar) = (decide (atL (mkRat (i : Int) 1000) n m ≤ ar) && decide (i ≤ 1000))
    rw [show decide (i ≤ 1000) = true from decide_eq_true hi, Bool.and_true]
  exact IsGrt.uniq low_anti (h.congr e) (k.congr e)
theorem pk1 (w : World) (f : Fa) (h : Fo w f (some (mkRat 1 20))) : Calls Try.prog 51 #[.int .i64 10, .int .i64 0, .agg #[.slice f.A f.n f.c, .slice f.B f.m f.d]] w fun e w' => e = .returned (.tuple #[.int .i64 259, .int .i64 0]) ∧ Below w.heap.size w w' := by
  refine (upper_ok w 10 0 f (mkRat 1 20) h inn20 (by omega) (by omega) (by omega)).mono ?_
  rintro e w' ⟨v, rfl, hv, hb⟩
  rw [hv.uniq up_ex]
  exact ⟨rfl, hb⟩
theorem pk2 (w : World) (f : Fa) (h : Fo w f (some (mkRat 1 20))) : Calls Try.prog 52 #[.int .i64 10, .int .i64 0, .agg #[.slice f.A f.n f.c, .slice f.B f.m f.d]] w fun e w' => e = .returned (.tuple #[.int .i64 0, .int .i64 0]) ∧ Below w.heap.size w w' := by
  refine (loper_ok w 10 0 f (mkRat 1 20) h inn20 (by omega) (by omega) (by omega)).mono ?_
  rintro e w' ⟨v, rfl, hv, hb⟩
  rw [grt_uniq hv low_ex]
  exact ⟨rfl, hb⟩
set_option maxRecDepth 100000 in
set_option maxHeartbeats 8000000 in
theorem pknown_any (w : World) : Calls Try.prog 55 #[] w fun e w' => e = .returned (.bool true) ∧ Below w.heap.size w w' := by
  go_enter Try.func55, Try.ntmps55
  go_wp2_with (first
    | (go_at_call 52; (with_reducible refine (pk2 _ f2 HO3.out).mono ?_); rintro e w4 ⟨rfl, hb⟩; have HB4 := hide (HB3.out.trans (hb.mono HB3.out.size)); clear hb)
    | (go_at_call 40; (with_reducible refine (sm20 _).mono ?_); rintro e w3 ⟨f2, rfl, ho, hb⟩; have HO3 := hide ho; have HB3 := hide (HB2.out.trans (hb.mono HB2.out.size)); clear ho hb)
    | (go_at_call 51; (with_reducible refine (pk1 _ f1 HO1.out).mono ?_); rintro e w2 ⟨rfl, hb⟩; have HB2 := hide (HB1.out.trans (hb.mono HB1.out.size)); clear hb)
    | (go_at_call 40; (with_reducible refine (sm20 _).mono ?_); rintro e w1 ⟨f1, rfl, ho, hb⟩; have HO1 := hide ho; have HB1 := hide hb; clear ho hb))
  go_ret
  exact ⟨rfl, HB4.out⟩
end Go.Proofs.Ytnokfhkcfebimaa
