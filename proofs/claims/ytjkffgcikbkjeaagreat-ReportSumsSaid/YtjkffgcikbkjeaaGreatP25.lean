/- Contracts of the functions that these laws reach: part 25: Contracts: the report laws' level and known; Contracts: the reference's zero, one, Inner of posteriors; Contracts: report's check for all arguments; the reference's check, low, high, Upper, Lower. -/
import Derived.Test.YtjkffgcikbkjeaaGreatP24
import Derived.Test.YtjkffgcikbkjeaaGreatP17
import Derived.Test.YtjkffgcikbkjeaaGreatP23
set_option linter.unusedVariables false
set_option linter.unusedSimpArgs false

/- Contracts: the report laws' level and known. -/
namespace Go.Proofs.YtjkffgcikbkjeaaGreat
open Go.RowKit

set_option maxRecDepth 100000 in
set_option maxHeartbeats 8000000 in
theorem level_any (w : World) (T : Nat) (A : Option Addr) (n c : Nat) (l : List Int) (a : Nat) (hP : Tp w T A n c l a) (ha : a ≤ 4294960000) :
    Calls Tryz.prog 9 #[.pointer (some ⟨T, 0, none⟩)] w fun e w' => ∃ (f : Fa) (r : Rat), e = .returned (.agg #[.slice f.A f.n f.c, .slice f.B f.m f.d]) ∧ Fo w' f (some r) ∧ Inn r ∧ Fr w w' (fun b => b = T) := by
  have hTl := hP.t.1
  have HP0 := hide hP
  go_enter Tryz.func9, Tryz.ntmps9
  go_upto_region 1 with (fail)
  generalize hW : World.alloc w _ = v
  have HR := hide (show Rb v w.heap.size by rw [← hW]; exact Rb.mk0 _ rfl)
  have HF := hide (show Fr w v (fun b => b = T) by rw [← hW]; exact (Fr.refl _ _).alloc _)
  have HP := hide (show Tp v T A n c l a by rw [← hW]; exact hP.alloc _)
  clear hW hP
  have hvz := HR.out.sz
  rcases hB : decide (tapeV l a 4 < 1)
  · have HBO := hide hB
    clear hB
    go_wp2_with (first
      | (go_at_call 7; refine (chancetp_any _ T A n c l a 1 4 HP.out (by omega) (by omega)).mono ?_; rintro e w1 ⟨rfl, hp, hf⟩; rw [HBO.out]; have HP1 := hide hp; have HR1 := hide ((HR.out.bq.one hf (by omega)).rb); have HF1 := hide (HF.out.trans hf); have hT1 := HP1.out.t.1; clear hp hf)
      | (go_at_call 21; refine (pickp_any _ T A n c l (a + 1) _ 5 5 [2, 10, 20, 100, 1000] (HP1.out.alloc _) (by omega) (rs_new (by omega) [2, 10, 20, 100, 1000] 3) rfl (by decide) (by decide)).mono ?_; rintro e w2 ⟨⟨v1, hv, rfl⟩, hp, hf⟩; have HV := hide (mem_nat2 2 hv (by decide)); have HR2 := hide (((HR1.out.bq.alloc _).one hf (by omega)).rb); have HF2 := hide ((HF1.out.alloc _).trans hf); have hT2 := hp.t.1; clear hv hp hf; obtain ⟨d1, rfl, hd1, hd2⟩ := HV.out; clear HV)
      | (go_at_call 20; (with_reducible refine (small1_any _ d1 (by omega) (by omega)).mono ?_); rintro e w3 ⟨f, rfl, ho, hb⟩; have HO := hide ho; have HR3 := hide (HR2.out.below hb); have HF3 := hide (HF2.out.below_ hb); obtain ⟨r0, r1, rf, rz, -⟩ := HR3.out; clear ho hb))
    refine bodyPost_ret (v := .agg #[.slice f.A f.n f.c, .slice f.B f.m f.d]) (by simp [results, Tryz.results9, go_sem, *]) rfl ⟨f, mkRat ((1 : Nat) : Int) d1, rfl, HO.out.put2 HR3.out.nb _ _ (by simp), inn_mk hd1 hd2, (HF3.out.setCell (.inl (Nat.le_refl _)) _).setCell (.inl (Nat.le_refl _)) _⟩
  · have HBO := hide hB
    clear hB
    go_wp2_with (first
      | (go_at_call 7; refine (chancetp_any _ T A n c l a 1 4 HP.out (by omega) (by omega)).mono ?_; rintro e w1 ⟨rfl, hp, hf⟩; rw [HBO.out]; have HP1 := hide hp; have HR1 := hide ((HR.out.bq.one hf (by omega)).rb); have HF1 := hide (HF.out.trans hf); have hT1 := HP1.out.t.1; clear hp hf)
      | (go_at_call 19; refine (innermi_any _ T A n c l (a + 1) HP1.out (by omega)).mono ?_; rintro e w2 ⟨f, r, rfl, ho, hc, hi, hp, hf⟩; have HO := hide ho; have HI := hide (inn_of hc hi); have HR2 := hide ((HR1.out.bq.one hf (by omega)).rb); have HF2 := hide (HF1.out.trans hf); obtain ⟨r0, r1, rf, rz, -⟩ := HR2.out; clear ho hc hi hp hf))
    refine bodyPost_ret (v := .agg #[.slice f.A f.n f.c, .slice f.B f.m f.d]) (by simp [results, Tryz.results9, go_sem, *]) rfl ⟨f, r, rfl, HO.out.put2 HR2.out.nb _ _ (by simp), HI.out, (HF2.out.setCell (.inl (Nat.le_refl _)) _).setCell (.inl (Nat.le_refl _)) _⟩
theorem low_ex : IsGrt (fun (b : Nat) => decide (atL (mkRat (b : Int) 1000) 10 0 ≤ mkRat 1 20)) 1000 0 := ⟨by omega, .inl rfl, .inr (by decide +kernel)⟩
theorem up_ex : IsLst (fun (b : Nat) => decide (atM (mkRat (b : Int) 1000) 10 0 ≤ mkRat 1 20)) 1000 259 := by
  have h1 : IsSr (fun (b : Nat) => decide (atM (mkRat (b : Int) 1000) 10 0 ≤ mkRat 1 20)) 1001 259 := ⟨by omega, .inr (by decide +kernel), .inr (by decide +kernel)⟩
  exact upper_is h1
theorem low_anti {n : Nat} {m : Int} {ar : Rat} : ∀ i j, i ≤ j → (fun (b : Nat) => decide (atL (mkRat (b : Int) 1000) n m ≤ ar) && decide (b ≤ 1000)) j = true → (fun (b : Nat) => decide (atL (mkRat (b : Int) 1000) n m ≤ ar) && decide (b ≤ 1000)) i = true := fun i j hij hj => by
  simp only [Bool.and_eq_true] at hj ⊢
  have h2 := of_decide_eq_true hj.2
  exact ⟨atL_step i j hij h2 hj.1, decide_eq_true (by omega)⟩
theorem grt_uniq {n : Nat} {m : Int} {ar : Rat} {v u : Nat} (h : IsGrt (fun (b : Nat) => decide (atL (mkRat (b : Int) 1000) n m ≤ ar)) 1000 v) (k : IsGrt (fun (b : Nat) => decide (atL (mkRat (b : Int) 1000) n m ≤ ar)) 1000 u) : v = u := by
  have e : ∀ i, i ≤ 1000 → (fun (b : Nat) => decide (atL (mkRat (b : Int) 1000) n m ≤ ar)) i = (fun (b : Nat) => decide (atL (mkRat (b : Int) 1000) n m ≤ ar) && decide (b ≤ 1000)) i := fun i hi => by
    show decide (atL (mkRat (i : Int) 1000) n m ≤ ar) = (decide (atL (mkRat (i : Int) 1000) n m ≤ ar) && decide (i ≤ 1000))
    rw [show decide (i ≤ 1000) = true from decide_eq_true hi, Bool.and_true]
  exact IsGrt.uniq low_anti (h.congr e) (k.congr e)
theorem pk1 (w : World) (f : Fa) (h : Fo w f (some (mkRat 1 20))) : Calls Tryz.prog 22 #[.int .i64 10, .int .i64 0, .agg #[.slice f.A f.n f.c, .slice f.B f.m f.d]] w fun e w' => e = .returned (.tuple #[.int .i64 259, .int .i64 0]) ∧ Below w.heap.size w w' := by
  refine (upper_ok w 10 0 f (mkRat 1 20) h inn20 (by omega) (by omega) (by omega)).mono ?_
  rintro e w' ⟨v, rfl, hv, hb⟩
  rw [hv.uniq up_ex]
  exact ⟨rfl, hb⟩
theorem pk2 (w : World) (f : Fa) (h : Fo w f (some (mkRat 1 20))) : Calls Tryz.prog 26 #[.int .i64 10, .int .i64 0, .agg #[.slice f.A f.n f.c, .slice f.B f.m f.d]] w fun e w' => e = .returned (.tuple #[.int .i64 0, .int .i64 0]) ∧ Below w.heap.size w w' := by
  refine (loper_ok w 10 0 f (mkRat 1 20) h inn20 (by omega) (by omega) (by omega)).mono ?_
  rintro e w' ⟨v, rfl, hv, hb⟩
  rw [grt_uniq hv low_ex]
  exact ⟨rfl, hb⟩
set_option maxRecDepth 100000 in
set_option maxHeartbeats 8000000 in
theorem pknown_any (w : World) : Calls Tryz.prog 15 #[] w fun e w' => e = .returned (.bool true) ∧ Below w.heap.size w w' := by
  go_enter Tryz.func15, Tryz.ntmps15
  go_wp2_with (first
    | (go_at_call 26; (with_reducible refine (pk2 _ f2 HO3.out).mono ?_); rintro e w4 ⟨rfl, hb⟩; have HB4 := hide (HB3.out.trans (hb.mono HB3.out.size)); clear hb)
    | (go_at_call 20; (with_reducible refine (sm20 _).mono ?_); rintro e w3 ⟨f2, rfl, ho, hb⟩; have HO3 := hide ho; have HB3 := hide (HB2.out.trans (hb.mono HB2.out.size)); clear ho hb)
    | (go_at_call 22; (with_reducible refine (pk1 _ f1 HO1.out).mono ?_); rintro e w2 ⟨rfl, hb⟩; have HB2 := hide (HB1.out.trans (hb.mono HB1.out.size)); clear hb)
    | (go_at_call 20; (with_reducible refine (sm20 _).mono ?_); rintro e w1 ⟨f1, rfl, ho, hb⟩; have HO1 := hide ho; have HB1 := hide hb; clear ho hb))
  go_ret
  exact ⟨rfl, HB4.out⟩
end Go.Proofs.YtjkffgcikbkjeaaGreat

/- Contracts: the reference's zero, one, Inner of posteriors. -/
namespace Go.Proofs.YtjkffgcikbkjeaaGreat
open Go.RowKit

set_option maxRecDepth 100000 in
set_option maxHeartbeats 4000000 in
theorem r35zero_any (w : World) : Calls Tryz.prog 82 #[] w fun e w' => Ret1 w (some 0) e w' := by
  go_enter Tryz.func82, Tryz.ntmps82
  go_upto_region 1 with (fail)
  generalize hW : World.alloc w _ = v
  have HRB := hide (show Rb v w.heap.size by rw [← hW]; exact Rb.mk0 _ rfl)
  have HBV := hide (show Below w.heap.size w v by rw [← hW]; exact (Below.refl _ _).alloc (Nat.le_refl _) _)
  clear hW
  go_wp2_with (go_at_call 60; (with_reducible refine (rzof_zero _).mono ?_); rintro e w1 ⟨q, rfl, ho, hb1⟩; have HO := hide ho; have HB1 := hide (HBV.out.trans (hb1.mono HBV.out.size)); have HR1 := hide (HRB.out.below hb1); obtain ⟨r0, r1, rf, rz, -⟩ := HR1.out; clear ho hb1)
  refine bodyPost_ret (v := .agg #[.slice q.A q.n q.c, .slice q.B q.m q.d]) (by simp [results, Tryz.results82, go_sem, *]) rfl ⟨q, rfl, HO.out.put2 HR1.out.nb _ _ (by simp), Rb.end0 HB1.out (Nat.le_refl _) _ _⟩
set_option maxRecDepth 100000 in
set_option maxHeartbeats 4000000 in
theorem r35one_any (w : World) : Calls Tryz.prog 83 #[] w fun e w' => Ret1 w (some 1) e w' := by
  go_enter Tryz.func83, Tryz.ntmps83
  go_upto_region 1 with (fail)
  generalize hW : World.alloc w _ = v
  have HRB := hide (show Rb v w.heap.size by rw [← hW]; exact Rb.mk0 _ rfl)
  have HBV := hide (show Below w.heap.size w v by rw [← hW]; exact (Below.refl _ _).alloc (Nat.le_refl _) _)
  clear hW
  go_wp2_with (go_at_call 60; (with_reducible refine (rzof_one _).mono ?_); rintro e w1 ⟨q, rfl, ho, hb1⟩; have HO := hide ho; have HB1 := hide (HBV.out.trans (hb1.mono HBV.out.size)); have HR1 := hide (HRB.out.below hb1); obtain ⟨r0, r1, rf, rz, -⟩ := HR1.out; clear ho hb1)
  refine bodyPost_ret (v := .agg #[.slice q.A q.n q.c, .slice q.B q.m q.d]) (by simp [results, Tryz.results83, go_sem, *]) rfl ⟨q, rfl, HO.out.put2 HR1.out.nb _ _ (by simp), Rb.end0 HB1.out (Nat.le_refl _) _ _⟩
set_option maxRecDepth 100000 in
set_option maxHeartbeats 8000000 in
theorem r35inner_any (w : World) (a : Fa) (l k : List Nat) (hq : Fq w a l k) :
    Calls Tryz.prog 58 #[.agg #[.slice a.A a.n a.c, .slice a.B a.m a.d]] w fun e w' => e = .returned (.bool (innO (fracOf l k))) ∧ Below w.heap.size w w' := by
  rcases h1 : chO (fracOf l k)
  · have H1 := hide h1
    have HX := hide (innO_no h1)
    clear h1
    go_enter Tryz.func58, Tryz.ntmps58
    go_upto_region 1 with (fail)
    generalize hW : World.alloc w _ = v
    have HB := hide (show Cb v w.heap.size [.slice a.A a.n a.c, .slice a.B a.m a.d] by rw [← hW]; exact Cb.mk0 _ (by simp) _ rfl)
    have HQ0 := hide (show Fq v a l k by rw [← hW]; exact hq.alloc _)
    have HBV := hide (show Below w.heap.size w v by rw [← hW]; exact (Below.refl _ _).alloc (Nat.le_refl _) _)
    clear hW hq
    apply region_seq 15 [3, 4, 5, 6, 7, 8, 9, 10, 11, 12, 13, 14, 15, 16, 2] [eqV _, eqV _, eqV _, eqV _, eqV _, eqV _, eqV _, eqV _, eqV _, eqV _, eqV _, eqV _, eqV _, eqV _, eqV _] [false, false, false, false, false, false, false, false, false, false, false, false, false, false, false] (by kernel_rfl) (by decide) rfl rfl rfl (by decide) (by kernel_rfl) (by kernel_rfl) ?stb10 ?steps10 ?fin10
    case stb10 => repeat' (first | exact trivial | apply stb_eq | fail | apply And.intro)
    case steps10 =>
      repeat' (first | exact trivial | apply And.intro)
      all_goals
        intro a' w' hbw hdf hoff hdep K hK
        have o1 := hoff 1 rfl
        (have HC := hide (HB.out.below hbw); have HQ := hide (HQ0.out.below hbw); have y0 := HC.out.cell 0 _ rfl; have y1 := HC.out.cell 1 _ rfl)
        replace hdep := hdep _ rfl
        simp only [List.getElem_toArray, List.getElem_cons_succ, List.getElem_cons_zero, List.toList_toArray, depAll, binds_data, binds_chain, binds_guard, binds_phase, binds_text, binds_gc, cond_true, cond_false, true_and, getR, eqV, List.getD_cons_succ, List.getD_cons_zero, and_true] at hdep
        simp only [Nat.zero_add, Nat.reduceAdd, getR, eqV, List.getD_cons_succ, List.getD_cons_zero] at hK
        clear hoff hdf
        skip
        first
          | (refine rg_unwanted rfl rfl rfl (b' := false) (by first | (simp [hdep]; done) | assumption) (by decide) ?_; exact hK _ _ rfl (Below.refl _ _) (by simp))
          | (refine rg_unwanted rfl rfl rfl (b' := true) (by first | (simp [hdep]; done) | assumption) (by decide) ?_; exact hK _ _ rfl (Below.refl _ _) (by simp))
          | (refine rg_wanted rfl rfl rfl (b' := true) (by first | (simp [hdep]; done) | assumption) rfl (fun K' hKK => ?_); go_wp2_with (go_at_call 81; (with_reducible refine (rzchance_any _ a l k HQ.out).mono ?_); rintro e w1 ⟨rfl, hb⟩; rw [H1.out]); first | exact hK _ _ rfl (Below.refl _ _) (by simp) | exact hK _ _ rfl hb (by simp))
          | (refine rg_wanted rfl rfl rfl (b' := false) (by first | (simp [hdep]; done) | assumption) rfl (fun K' hKK => ?_); go_wp2_with (go_at_call 81; (with_reducible refine (rzchance_any _ a l k HQ.out).mono ?_); rintro e w1 ⟨rfl, hb⟩; rw [H1.out]); first | exact hK _ _ rfl (Below.refl _ _) (by simp) | exact hK _ _ rfl hb (by simp))
          | (refine rg_free rfl rfl (fun K' hKK => ?_); fail)
          | (refine rg_free rfl rfl (fun K' hKK => ?_); go_wp2_with (go_at_call 81; (with_reducible refine (rzchance_any _ a l k HQ.out).mono ?_); rintro e w1 ⟨rfl, hb⟩; rw [H1.out]); first | exact hK _ _ rfl (Below.refl _ _) (by simp) | exact hK _ _ rfl hb (by simp))
    intro w' hbw
    repeat (refine fin_eq ?_)
    refine fin_nil ?_
    (simp only [List.setIfInBounds_toArray, List.set_cons_succ, List.set_cons_zero]; refine wpAny_done (by kernel_rfl) ?_ _)
    go_wp2_with fail
    refine bodyPost_ret (v := .bool false) (by simp [results, Tryz.results58, go_sem, *]) rfl ⟨by rw [HX.out], HBV.out.trans (hbw.mono HBV.out.size)⟩
  · obtain ⟨r, hA⟩ := chO_some h1
    have HA := hide hA
    have H1 := hide h1
    have HXX := hide (show innO (fracOf l k) = (decide (0 < r) && decide (r < 1)) by rw [hA] at h1 ⊢; exact innO_some h1)
    clear hA h1
    by_cases h0 : 0 < r
    · have g0 : decide (0 < cmpO (some r) (some 0)) = true := decide_eq_true (cmpQ_pos.2 h0)
      have HX := hide (show innO (fracOf l k) = decide (cmpO (some r) (some 1) < 0) by rw [HXX.out, decide_eq_true h0, cmp_lt]; simp [ltO])
      clear h0 HXX
      go_enter Tryz.func58, Tryz.ntmps58
      go_upto_region 1 with (fail)
      generalize hW : World.alloc w _ = v
      have HB := hide (show Cb v w.heap.size [.slice a.A a.n a.c, .slice a.B a.m a.d] by rw [← hW]; exact Cb.mk0 _ (by simp) _ rfl)
      have HQ0 := hide (show Fq v a l k by rw [← hW]; exact hq.alloc _)
      have HBV := hide (show Below w.heap.size w v by rw [← hW]; exact (Below.refl _ _).alloc (Nat.le_refl _) _)
      clear hW hq
      apply region_seq 15 [3, 4, 5, 6, 7, 8, 9, 10, 11, 12, 13, 14, 15, 16, 2] [eqV _, eqV _, eqV _, eqV _, fun x w => ∃ c : Fa, x = .agg #[.slice c.A c.n c.c, .slice c.B c.m c.d] ∧ Fo w c (some 0), eqV _, eqV _, eqV _, eqV _, eqV _, fun x w => ∃ c : Fa, x = .agg #[.slice c.A c.n c.c, .slice c.B c.m c.d] ∧ Fo w c (some 1), eqV _, eqV _, eqV _, eqV _] [false, false, false, false, false, false, false, false, false, false, false, false, false, false, false] (by kernel_rfl) (by decide) rfl rfl rfl (by decide) (by kernel_rfl) (by kernel_rfl) ?stb11 ?steps11 ?fin11
      case stb11 => repeat' (first | exact trivial | apply stb_eq | (exact fun x w w' ⟨c, h1, h2⟩ hb => ⟨c, h1, h2.below hb⟩) | apply And.intro)
      case steps11 =>
        repeat' (first | exact trivial | apply And.intro)
        all_goals
          intro a' w' hbw hdf hoff hdep K hK
          have o1 := hoff 1 rfl
          (have HC := hide (HB.out.below hbw); have HQ := hide (HQ0.out.below hbw); have y0 := HC.out.cell 0 _ rfl; have y1 := HC.out.cell 1 _ rfl)
          replace hdep := hdep _ rfl
          simp only [List.getElem_toArray, List.getElem_cons_succ, List.getElem_cons_zero, List.toList_toArray, depAll, binds_data, binds_chain, binds_guard, binds_phase, binds_text, binds_gc, cond_true, cond_false, true_and, getR, eqV, List.getD_cons_succ, List.getD_cons_zero, and_true] at hdep
          simp only [Nat.zero_add, Nat.reduceAdd, getR, eqV, List.getD_cons_succ, List.getD_cons_zero] at hK
          clear hoff hdf
          (first | (obtain ⟨h6, ⟨c0, h7, HO0⟩, -, hg⟩ := hdep) | skip)
          first
            | (refine rg_unwanted rfl rfl rfl (b' := false) (by first | (simp [hdep]; done) | assumption) (by decide) ?_; exact hK _ _ rfl (Below.refl _ _) (by simp))
            | (refine rg_unwanted rfl rfl rfl (b' := true) (by first | (simp [hdep]; done) | assumption) (by decide) ?_; exact hK _ _ rfl (Below.refl _ _) (by simp))
            | (refine rg_wanted rfl rfl rfl (b' := true) (by first | (simp [hdep]; done) | assumption) rfl (fun K' hKK => ?_); go_wp2_with (first | (go_at_call 81; (with_reducible refine (rzchance_any _ a l k HQ.out).mono ?_); rintro e w1 ⟨rfl, hb⟩; rw [H1.out]) | (go_at_call 82; (with_reducible refine (r35zero_any _).mono ?_); rintro e w1 ⟨c1, rfl, ho, hb⟩) | (go_at_call 61; (with_reducible refine (r2cmp_o _ a c0 (some r) (some 0) (fo_of HQ.out HA.out) HO0).mono ?_); rintro e w1 ⟨rfl, hb⟩) | (go_at_call 83; (with_reducible refine (r35one_any _).mono ?_); rintro e w1 ⟨c1, rfl, ho, hb⟩) | (go_at_call 61; (with_reducible refine (r2cmp_o _ a c0 (some r) (some 1) (fo_of HQ.out HA.out) HO0).mono ?_); rintro e w1 ⟨rfl, hb⟩)); first | exact hK _ _ rfl (Below.refl _ _) (by simp) | (first | exact hK _ _ rfl hb (by simp) | exact hK _ _ ⟨c1, rfl, ho⟩ hb (by simp)))
            | (refine rg_wanted rfl rfl rfl (b' := false) (by first | (simp [hdep]; done) | assumption) rfl (fun K' hKK => ?_); go_wp2_with (first | (go_at_call 81; (with_reducible refine (rzchance_any _ a l k HQ.out).mono ?_); rintro e w1 ⟨rfl, hb⟩; rw [H1.out]) | (go_at_call 82; (with_reducible refine (r35zero_any _).mono ?_); rintro e w1 ⟨c1, rfl, ho, hb⟩) | (go_at_call 61; (with_reducible refine (r2cmp_o _ a c0 (some r) (some 0) (fo_of HQ.out HA.out) HO0).mono ?_); rintro e w1 ⟨rfl, hb⟩) | (go_at_call 83; (with_reducible refine (r35one_any _).mono ?_); rintro e w1 ⟨c1, rfl, ho, hb⟩) | (go_at_call 61; (with_reducible refine (r2cmp_o _ a c0 (some r) (some 1) (fo_of HQ.out HA.out) HO0).mono ?_); rintro e w1 ⟨rfl, hb⟩)); first | exact hK _ _ rfl (Below.refl _ _) (by simp) | (first | exact hK _ _ rfl hb (by simp) | exact hK _ _ ⟨c1, rfl, ho⟩ hb (by simp)))
            | (refine rg_free rfl rfl (fun K' hKK => ?_); fail)
            | (refine rg_free rfl rfl (fun K' hKK => ?_); go_wp2_with (first | (go_at_call 81; (with_reducible refine (rzchance_any _ a l k HQ.out).mono ?_); rintro e w1 ⟨rfl, hb⟩; rw [H1.out]) | (go_at_call 82; (with_reducible refine (r35zero_any _).mono ?_); rintro e w1 ⟨c1, rfl, ho, hb⟩) | (go_at_call 61; (with_reducible refine (r2cmp_o _ a c0 (some r) (some 0) (fo_of HQ.out HA.out) HO0).mono ?_); rintro e w1 ⟨rfl, hb⟩) | (go_at_call 83; (with_reducible refine (r35one_any _).mono ?_); rintro e w1 ⟨c1, rfl, ho, hb⟩) | (go_at_call 61; (with_reducible refine (r2cmp_o _ a c0 (some r) (some 1) (fo_of HQ.out HA.out) HO0).mono ?_); rintro e w1 ⟨rfl, hb⟩)); first | exact hK _ _ rfl (Below.refl _ _) (by simp) | (first | exact hK _ _ rfl hb (by simp) | exact hK _ _ ⟨c1, rfl, ho⟩ hb (by simp)))
      intro w' hbw
      repeat (refine fin_eq ?_)
      refine fin_any (fun x4 hx4 => ?_)
      repeat (refine fin_eq ?_)
      refine fin_any (fun x10 hx10 => ?_)
      repeat (refine fin_eq ?_)
      refine fin_nil ?_
      (simp only [List.setIfInBounds_toArray, List.set_cons_succ, List.set_cons_zero]; refine wpAny_done (by kernel_rfl) ?_ _)
      go_wp2_with fail
      refine bodyPost_ret (v := .bool (decide (cmpO (some r) (some 1) < 0))) (by simp [results, Tryz.results58, go_sem, *]) rfl ⟨by rw [HX.out], HBV.out.trans (hbw.mono HBV.out.size)⟩
    · have g0 : decide (0 < cmpO (some r) (some 0)) = false := decide_eq_false (fun h => h0 (cmpQ_pos.1 h))
      have HX := hide (show innO (fracOf l k) = false by rw [HXX.out, decide_eq_false h0]; rfl)
      clear h0 HXX
      go_enter Tryz.func58, Tryz.ntmps58
      go_upto_region 1 with (fail)
      generalize hW : World.alloc w _ = v
      have HB := hide (show Cb v w.heap.size [.slice a.A a.n a.c, .slice a.B a.m a.d] by rw [← hW]; exact Cb.mk0 _ (by simp) _ rfl)
      have HQ0 := hide (show Fq v a l k by rw [← hW]; exact hq.alloc _)
      have HBV := hide (show Below w.heap.size w v by rw [← hW]; exact (Below.refl _ _).alloc (Nat.le_refl _) _)
      clear hW hq
      apply region_seq 15 [3, 4, 5, 6, 7, 8, 9, 10, 11, 12, 13, 14, 15, 16, 2] [eqV _, eqV _, eqV _, eqV _, fun x w => ∃ c : Fa, x = .agg #[.slice c.A c.n c.c, .slice c.B c.m c.d] ∧ Fo w c (some 0), eqV _, eqV _, eqV _, eqV _, eqV _, eqV _, eqV _, eqV _, eqV _, eqV _] [false, false, false, false, false, false, false, false, false, false, false, false, false, false, false] (by kernel_rfl) (by decide) rfl rfl rfl (by decide) (by kernel_rfl) (by kernel_rfl) ?stb12 ?steps12 ?fin12
      case stb12 => repeat' (first | exact trivial | apply stb_eq | (exact fun x w w' ⟨c, h1, h2⟩ hb => ⟨c, h1, h2.below hb⟩) | apply And.intro)
      case steps12 =>
        repeat' (first | exact trivial | apply And.intro)
        all_goals
          intro a' w' hbw hdf hoff hdep K hK
          have o1 := hoff 1 rfl
          (have HC := hide (HB.out.below hbw); have HQ := hide (HQ0.out.below hbw); have y0 := HC.out.cell 0 _ rfl; have y1 := HC.out.cell 1 _ rfl)
          replace hdep := hdep _ rfl
          simp only [List.getElem_toArray, List.getElem_cons_succ, List.getElem_cons_zero, List.toList_toArray, depAll, binds_data, binds_chain, binds_guard, binds_phase, binds_text, binds_gc, cond_true, cond_false, true_and, getR, eqV, List.getD_cons_succ, List.getD_cons_zero, and_true] at hdep
          simp only [Nat.zero_add, Nat.reduceAdd, getR, eqV, List.getD_cons_succ, List.getD_cons_zero] at hK
          clear hoff hdf
          (first | (obtain ⟨h6, ⟨c0, h7, HO0⟩, -, hg⟩ := hdep) | skip)
          first
            | (refine rg_unwanted rfl rfl rfl (b' := false) (by first | (simp [hdep]; done) | assumption) (by decide) ?_; exact hK _ _ rfl (Below.refl _ _) (by simp))
            | (refine rg_unwanted rfl rfl rfl (b' := true) (by first | (simp [hdep]; done) | assumption) (by decide) ?_; exact hK _ _ rfl (Below.refl _ _) (by simp))
            | (refine rg_wanted rfl rfl rfl (b' := true) (by first | (simp [hdep]; done) | assumption) rfl (fun K' hKK => ?_); go_wp2_with (first | (go_at_call 81; (with_reducible refine (rzchance_any _ a l k HQ.out).mono ?_); rintro e w1 ⟨rfl, hb⟩; rw [H1.out]) | (go_at_call 82; (with_reducible refine (r35zero_any _).mono ?_); rintro e w1 ⟨c1, rfl, ho, hb⟩) | (go_at_call 61; (with_reducible refine (r2cmp_o _ a c0 (some r) (some 0) (fo_of HQ.out HA.out) HO0).mono ?_); rintro e w1 ⟨rfl, hb⟩)); first | exact hK _ _ rfl (Below.refl _ _) (by simp) | (first | exact hK _ _ rfl hb (by simp) | exact hK _ _ ⟨c1, rfl, ho⟩ hb (by simp)))
            | (refine rg_wanted rfl rfl rfl (b' := false) (by first | (simp [hdep]; done) | assumption) rfl (fun K' hKK => ?_); go_wp2_with (first | (go_at_call 81; (with_reducible refine (rzchance_any _ a l k HQ.out).mono ?_); rintro e w1 ⟨rfl, hb⟩; rw [H1.out]) | (go_at_call 82; (with_reducible refine (r35zero_any _).mono ?_); rintro e w1 ⟨c1, rfl, ho, hb⟩) | (go_at_call 61; (with_reducible refine (r2cmp_o _ a c0 (some r) (some 0) (fo_of HQ.out HA.out) HO0).mono ?_); rintro e w1 ⟨rfl, hb⟩)); first | exact hK _ _ rfl (Below.refl _ _) (by simp) | (first | exact hK _ _ rfl hb (by simp) | exact hK _ _ ⟨c1, rfl, ho⟩ hb (by simp)))
            | (refine rg_free rfl rfl (fun K' hKK => ?_); fail)
            | (refine rg_free rfl rfl (fun K' hKK => ?_); go_wp2_with (first | (go_at_call 81; (with_reducible refine (rzchance_any _ a l k HQ.out).mono ?_); rintro e w1 ⟨rfl, hb⟩; rw [H1.out]) | (go_at_call 82; (with_reducible refine (r35zero_any _).mono ?_); rintro e w1 ⟨c1, rfl, ho, hb⟩) | (go_at_call 61; (with_reducible refine (r2cmp_o _ a c0 (some r) (some 0) (fo_of HQ.out HA.out) HO0).mono ?_); rintro e w1 ⟨rfl, hb⟩)); first | exact hK _ _ rfl (Below.refl _ _) (by simp) | (first | exact hK _ _ rfl hb (by simp) | exact hK _ _ ⟨c1, rfl, ho⟩ hb (by simp)))
      intro w' hbw
      repeat (refine fin_eq ?_)
      refine fin_any (fun x4 hx4 => ?_)
      repeat (refine fin_eq ?_)
      refine fin_nil ?_
      (simp only [List.setIfInBounds_toArray, List.set_cons_succ, List.set_cons_zero]; refine wpAny_done (by kernel_rfl) ?_ _)
      go_wp2_with fail
      refine bodyPost_ret (v := .bool false) (by simp [results, Tryz.results58, go_sem, *]) rfl ⟨by rw [HX.out], HBV.out.trans (hbw.mono HBV.out.size)⟩
end Go.Proofs.YtjkffgcikbkjeaaGreat

/- Contracts: report's check for all arguments; the reference's check, low, high, Upper, Lower. -/
namespace Go.Proofs.YtjkffgcikbkjeaaGreat
open Go.RowKit

/-- The first error of samples. -/
def repE (o : Option Rat) (n m : Int) : Int := if innO o = false then 41 else if n < 0 ∨ 32 < n ∨ m < 0 ∨ n < m then 3 else 0
theorem repE_no {o : Option Rat} (n m : Int) (h : innO o = false) : repE o n m = 41 := if_pos h
theorem repE_yes {o : Option Rat} (n m : Int) (h : innO o = true) : repE o n m = if n < 0 ∨ 32 < n ∨ m < 0 ∨ n < m then 3 else 0 := if_neg (by rw [h]; decide)
theorem innO_innV {r : Rat} (h : innO (some r) = true) : Inn r := by
  simp only [innO, Bool.and_eq_true, decide_eq_true_eq] at h
  obtain ⟨⟨h1, h2⟩, h3⟩ := h
  have hc : r.den ≤ 1000 := by simp [chO] at h1; exact h1.2
  exact ⟨⟨Rat.le_of_lt h2, Rat.le_of_lt h3, hc⟩, h2, h3⟩
theorem repE_ok {o : Option Rat} {n m : Int} (h : repE o n m = 0) : ∃ r, o = some r ∧ Inn r ∧ 0 ≤ n ∧ n ≤ 32 ∧ 0 ≤ m ∧ m ≤ n := by
  unfold repE at h
  by_cases hi : innO o = false
  · rw [if_pos hi] at h; simp at h
  · rw [if_neg hi] at h
    have hi' : innO o = true := by simpa using hi
    cases o with
    | none => simp [innO] at hi'
    | some r =>
      refine ⟨r, rfl, innO_innV hi', ?_⟩
      by_cases hb : n < 0 ∨ 32 < n ∨ m < 0 ∨ n < m
      · rw [if_pos hb] at h; simp at h
      · omega
set_option maxRecDepth 100000 in
set_option maxHeartbeats 8000000 in
theorem r38check_any (w : World) (n m : Int) (al : Fa) (l k : List Nat) (hq : Fq w al l k) :
    Calls Tryz.prog 41 #[.int .i64 n, .int .i64 m, .agg #[.slice al.A al.n al.c, .slice al.B al.m al.d]] w fun e w' => e = .returned (.int .i64 (repE (fracOf l k) n m)) ∧ Below w.heap.size w w' := by
  have HQ0 := hide hq
  clear hq
  rcases h1 : innO (fracOf l k)
  · have HI := hide h1
    have HE := hide (repE_no n m h1)
    clear h1
    go_enter Tryz.func41, Tryz.ntmps41
    go_upto_region 1 with (fail)
    generalize hW : World.alloc w _ = v
    have HV := hide (show Below w.heap.size w v by rw [← hW]; exact (Below.refl _ _).alloc (Nat.le_refl _) _)
    have HB := hide (show Bq v w.heap.size al by rw [← hW]; exact Bq.mk0 _ al rfl)
    have HQ := hide (show Fq v al l k by rw [← hW]; exact HQ0.out.alloc _)
    have q0 := HB.out.c0
    have q1 := HB.out.c1
    clear hW
    go_wp2_with (go_at_call 58; (with_reducible refine (r35inner_any _ al l k HQ.out).mono ?_); rintro e w1 ⟨rfl, hb⟩; rw [HI.out]; have HB1 := hide (HV.out.trans (hb.mono HV.out.size)); clear hb)
    refine bodyPost_ret (v := .int .i64 41) (by simp [results, Tryz.results41, go_sem, *]) rfl ⟨by rw [HE.out], HB1.out⟩
  · have HI := hide h1
    have HE := hide (repE_yes n m h1)
    clear h1
    go_enter Tryz.func41, Tryz.ntmps41
    go_upto_region 1 with (fail)
    generalize hW : World.alloc w _ = v
    have HV := hide (show Below w.heap.size w v by rw [← hW]; exact (Below.refl _ _).alloc (Nat.le_refl _) _)
    have HB := hide (show Bq v w.heap.size al by rw [← hW]; exact Bq.mk0 _ al rfl)
    have HQ := hide (show Fq v al l k by rw [← hW]; exact HQ0.out.alloc _)
    have q0 := HB.out.c0
    have q1 := HB.out.c1
    clear hW
    go_wp2_with (go_at_call 58; (with_reducible refine (r35inner_any _ al l k HQ.out).mono ?_); rintro e w1 ⟨rfl, hb⟩; rw [HI.out]; have HB1 := hide (HV.out.trans (hb.mono HV.out.size)); clear hb)
    all_goals (go_ret; first | exact ⟨by rw [HE.out, if_pos (by omega)]; rfl, HB1.out⟩ | exact ⟨by rw [HE.out, if_neg (by omega)]; rfl, HB1.out⟩)

theorem rzatmost_ok (w : World) (a : Fa) (r : Rat) (n : Nat) (m : Int) (ha : Fo w a (some r)) (hc : Chn r) (hn : n ≤ 32) : Calls Tryz.prog 59 #[.agg #[.slice a.A a.n a.c, .slice a.B a.m a.d], .int .i64 (n : Int), .int .i64 m] w fun e w' => RetV w (atM r n m) e w' := by
  have h := rzatmost_any w a _ _ (n : Int) m ha.1
  rw [fracOf_self ha.2, totR_le] at h
  exact h.mono fun e w' h => h.ok (totR_ok hc hn)
set_option maxRecDepth 100000 in
set_option maxHeartbeats 8000000 in
theorem r38low_any (w : World) (b : Nat) (hb1 : b ≤ 1000) (al : Fa) (ar : Rat) (n : Nat) (m : Int) (ha : Fo w al (some ar)) (hn : n ≤ 32) :
    Calls Tryz.prog 42 #[.int .i64 (n : Int), .int .i64 m, .int .i64 (b : Int), .agg #[.slice al.A al.n al.c, .slice al.B al.m al.d]] w fun e w' => e = .returned (.bool (decide (atM (mkRat (b : Int) 1000) n m ≤ ar))) ∧ Below w.heap.size w w' := by
  obtain ⟨g, hg⟩ : ∃ g, g = decide (atM (mkRat (b : Int) 1000) n m ≤ ar) := ⟨_, rfl⟩
  have g1 : decide (cmpO (some (atM (mkRat (b : Int) 1000) n m)) (some ar) ≤ 0) = g := by rw [hg]; exact decide_eq_decide.2 cmpQ_le
  rw [← hg]
  have HA := hide ha
  have HN := hide hn
  have hcc := mk1000_chn hb1
  have HC := hide hcc
  have HF := hide (show ∀ W, Calls Tryz.prog 60 #[.int .i64 (b : Int), .int .i64 1000] W fun e w' => Ret1 W (some (mkRat (b : Int) 1000)) e w' from fun W => rzof_any W b 1000 b 1000 rfl rfl (by omega) (by omega) (by omega))
  clear ha hn hcc hg
  go_enter Tryz.func42, Tryz.ntmps42
  go_upto_region 1 with (fail)
  generalize hW : World.alloc w _ = v
  have HV := hide (show Below w.heap.size w v by rw [← hW]; exact (Below.refl _ _).alloc (Nat.le_refl _) _)
  have HL := hide (show Bf v w.heap.size al ar by rw [← hW]; exact ⟨Bq.mk0 _ al rfl, HA.out.alloc _⟩)
  clear hW
  go_upto_region 2 with (first
    | (go_at_call 59; (with_reducible refine (rzatmost_ok _ c _ n m HO.out HC.out HN.out).mono ?_); rintro e w3 ⟨c2, rfl, ho, hb⟩; have HO3 := hide ho; have HB3 := hide (HB1.out.trans (hb.mono HB1.out.size)); have HL3 := hide (HL1.out.below hb); clear ho hb)
    | (go_at_call 60; (with_reducible refine (HF.out _).mono ?_); rintro e w1 ⟨c, rfl, ho, hb⟩; have HO := hide ho; have HB1 := hide (HV.out.trans (hb.mono HV.out.size)); have HL1 := hide (HL.out.below hb); clear ho hb))
  generalize hW : World.alloc w3 _ = v4
  have HP4 := hide (show Bf v4 w3.heap.size c2 _ by rw [← hW]; exact ⟨Bq.mk0 _ c2 rfl, HO3.out.alloc _⟩)
  have HL4 := hide (show Bf v4 w.heap.size al ar by rw [← hW]; exact HL3.out.alloc _)
  have HB4 := hide (show Below w.heap.size w v4 by rw [← hW]; exact HB3.out.alloc HB3.out.size _)
  have q0 := HP4.out.b.c0
  have q1 := HP4.out.b.c1
  have u0 := HL4.out.b.c0
  have u1 := HL4.out.b.c1
  clear hW
  go_wp2_with (go_at_call 61; (with_reducible refine (r2cmp_o _ c2 al (some (atM (mkRat (b : Int) 1000) n m)) (some ar) HP4.out.o HL4.out.o).mono ?_); rintro e w5 ⟨rfl, hb⟩; have HB8 := hide (HB4.out.trans (hb.mono HB4.out.size)); clear hb)
  refine bodyPost_ret (v := .bool g) (by simp [results, Tryz.results42, go_sem, *]) rfl ⟨rfl, HB8.out⟩
end Go.Proofs.YtjkffgcikbkjeaaGreat
