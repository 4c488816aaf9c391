/- Contracts of the functions that these laws reach: part 21: Contract: Value; Contracts: noise.Choose; Contracts: the reference's Choose; Contract: the reference's Exactly. -/
import Derived.Test.YtnofljgmkdommaaG20
import Derived.Test.YtnofljgmkdommaaG16
import Derived.Test.YtnofljgmkdommaaG3
set_option linter.unusedVariables false
set_option linter.unusedSimpArgs false

/- Contract: Value. -/
namespace Go.Proofs.Ytnofljgmkdommaa
open Go.RowKit

theorem cmpQ_pos' {r s : Rat} : 0 < cmpQ r s ↔ s < r := by
  unfold cmpQ
  by_cases h1 : r < s
  · rw [if_pos h1]
    exact ⟨fun h => by omega, fun h => absurd h (Rat.not_lt.2 (Rat.le_of_lt h1))⟩
  · rw [if_neg h1]
    by_cases h2 : r = s
    · rw [if_pos h2]; subst h2; exact ⟨fun h => by omega, fun h => absurd h Rat.lt_irrefl⟩
    · rw [if_neg h2]
      exact ⟨fun _ => Rat.lt_of_le_of_ne (Rat.not_lt.1 h1) (fun e => h2 e.symm), fun _ => by omega⟩
theorem valR_big {r : Rat} {c : Int} (h : 1 < r) : valR (some r) c = (none, 1) := by unfold valR; simp only; rw [if_pos h]
theorem valR_range {r : Rat} {c : Int} (h : ¬ 1 < r) (hc : c < 0 ∨ 1024 < c) : valR (some r) c = (none, 3) := by unfold valR; simp only; rw [if_neg h, if_pos hc]
theorem valR_in {r : Rat} {C : Nat} (h : ¬ 1 < r) (hc : C ≤ 1024) : valR (some r) (C : Int) = mulR (some r) (some (mkRat ((1 + C : Nat) : Int) 1)) := by
  unfold valR; simp only; rw [if_neg h, if_neg (by omega), show ((1 + C : Nat) : Int) = 1 + (C : Int) by omega]; rfl
set_option maxRecDepth 100000 in
set_option maxHeartbeats 16000000 in
theorem vavalue_any (w : World) (a : Fa) (l k : List Nat) (c : Int) (ha : Fq w a l k) :
    Calls Try.prog 23 #[.agg #[.slice a.A a.n a.c, .slice a.B a.m a.d], .int .i64 c] w fun e w' => Ret w (valR (fracOf l k) c) e w' := by
  rcases hA : fracOf l k with _ | r
  · have HA := hide hA
    clear hA
    go_enter Try.func23, Try.ntmps23
    go_upto_region 1 with (fail)
    generalize hW : World.alloc (World.alloc w _) _ = v
    have HB := hide (show Cb v w.heap.size [.slice a.A a.n a.c, .slice a.B a.m a.d] by rw [← hW]; exact (Cb.mk0 [.slice a.A a.n a.c, .slice a.B a.m a.d] (by simp) _ rfl).alloc _)
    have HQ0 := hide (show Fq v a l k by rw [← hW]; exact (ha.alloc _).alloc _)
    have HRB := hide (show Rb v (w.heap.size + 1) by rw [← hW]; exact Rb.mk0 _ (by simp))
    have HBV := hide (show Below w.heap.size w v by rw [← hW]; exact ((Below.refl _ _).alloc (Nat.le_refl _) _).alloc (by simp) _)
    clear hW ha
    apply region_seq 10 [7, 8, 9, 10, 11, 12, 13, 14, 15, 6] [eqV _, eqV _, eqV _, eqV _, eqV _, eqV _, eqV _, eqV _, eqV _, eqV _] [false, false, false, false, false, false, false, false, false, false] (by kernel_rfl) (by decide) rfl rfl rfl (by decide) (by kernel_rfl) (by kernel_rfl) ?stb11 ?steps11 ?fin11
    case stb11 => repeat' (first | exact trivial | apply stb_eq | fail | apply And.intro)
    case steps11 =>
      repeat' (first | exact trivial | apply And.intro)
      all_goals
        intro a' w' hbw hdf hoff hdep K hK
        have o2 := hoff 2 rfl
        (have HC := hide (HB.out.below hbw); have HQ := hide (HQ0.out.below hbw); have y0 := HC.out.cell 0 _ rfl; have y1 := HC.out.cell 1 _ rfl)
        replace hdep := hdep _ rfl
        simp only [List.getElem_toArray, List.getElem_cons_succ, List.getElem_cons_zero, List.toList_toArray, depAll, binds_data, binds_chain, binds_guard, binds_phase, binds_text, binds_gc, cond_true, cond_false, true_and, getR, eqV, List.getD_cons_succ, List.getD_cons_zero, and_true] at hdep
        simp only [Nat.zero_add, Nat.reduceAdd, getR, eqV, List.getD_cons_succ, List.getD_cons_zero] at hK
        clear hoff hdf
        skip
        first
          | (refine rg_unwanted rfl rfl rfl (b' := false) (by first | (simp [hdep]; done) | assumption) (by decide) ?_; exact hK _ _ rfl (Below.refl _ _) (by simp))
          | (refine rg_unwanted rfl rfl rfl (b' := true) (by first | (simp [hdep]; done) | assumption) (by decide) ?_; exact hK _ _ rfl (Below.refl _ _) (by simp))
          | (refine rg_wanted rfl rfl rfl (b' := true) (by first | (simp [hdep]; done) | assumption) rfl (fun K' hKK => ?_); go_wp2_with (go_at_call 41; (with_reducible refine (fcheck_any _ a l k HQ.out).mono ?_); rintro e w1 ⟨rfl, hb⟩; rw [HA.out]); first | exact hK _ _ rfl (Below.refl _ _) (by simp) | exact hK _ _ rfl hb (by simp))
          | (refine rg_wanted rfl rfl rfl (b' := false) (by first | (simp [hdep]; done) | assumption) rfl (fun K' hKK => ?_); go_wp2_with (go_at_call 41; (with_reducible refine (fcheck_any _ a l k HQ.out).mono ?_); rintro e w1 ⟨rfl, hb⟩; rw [HA.out]); first | exact hK _ _ rfl (Below.refl _ _) (by simp) | exact hK _ _ rfl hb (by simp))
          | (refine rg_free rfl rfl (fun K' hKK => ?_); fail)
          | (refine rg_free rfl rfl (fun K' hKK => ?_); go_wp2_with (go_at_call 41; (with_reducible refine (fcheck_any _ a l k HQ.out).mono ?_); rintro e w1 ⟨rfl, hb⟩; rw [HA.out]); first | exact hK _ _ rfl (Below.refl _ _) (by simp) | exact hK _ _ rfl hb (by simp))
    intro w' hbw
    repeat (refine fin_eq ?_)
    refine fin_nil ?_
    (simp only [List.setIfInBounds_toArray, List.set_cons_succ, List.set_cons_zero]; refine wpAny_done (by kernel_rfl) ?_ _)
    have HR1 := hide (HRB.out.below hbw); have HBW := hide (HBV.out.trans (hbw.mono HBV.out.size)); obtain ⟨r0, r1, rf, rz, -⟩ := HR1.out
    go_wp2_with fail
    refine bodyPost_ret (v := .tuple #[.agg #[.slice fa0.A fa0.n fa0.c, .slice fa0.B fa0.m fa0.d], .int .i64 1]) (by simp [results, Try.results23, go_sem, *]) rfl ⟨fa0, rfl, (Fo.nil _).put2 HR1.out.nb _ _ (by simp), Rb.end0 HBW.out (by omega) _ _⟩
  · have HA := hide hA
    clear hA
    by_cases h1 : 1 < r
    · have g0 : decide (0 < cmpO (some r) (some 1)) = true := decide_eq_true (cmpQ_pos'.2 h1)
      have H1 := hide h1
      clear h1
      go_enter Try.func23, Try.ntmps23
      go_upto_region 1 with (fail)
      generalize hW : World.alloc (World.alloc w _) _ = v
      have HB := hide (show Cb v w.heap.size [.slice a.A a.n a.c, .slice a.B a.m a.d] by rw [← hW]; exact (Cb.mk0 [.slice a.A a.n a.c, .slice a.B a.m a.d] (by simp) _ rfl).alloc _)
      have HQ0 := hide (show Fq v a l k by rw [← hW]; exact (ha.alloc _).alloc _)
      have HRB := hide (show Rb v (w.heap.size + 1) by rw [← hW]; exact Rb.mk0 _ (by simp))
      have HBV := hide (show Below w.heap.size w v by rw [← hW]; exact ((Below.refl _ _).alloc (Nat.le_refl _) _).alloc (by simp) _)
      clear hW ha
      apply region_seq 10 [7, 8, 9, 10, 11, 12, 13, 14, 15, 6] [eqV _, eqV _, eqV _, eqV _, eqV _, fun x w => ∃ c : Fa, x = .agg #[.slice c.A c.n c.c, .slice c.B c.m c.d] ∧ Fo w c (some 1), eqV _, eqV _, eqV _, eqV _] [false, false, false, false, false, false, false, false, false, false] (by kernel_rfl) (by decide) rfl rfl rfl (by decide) (by kernel_rfl) (by kernel_rfl) ?stb15 ?steps15 ?fin15
      case stb15 => repeat' (first | exact trivial | apply stb_eq | (exact fun x w w' ⟨c, h1, h2⟩ hb => ⟨c, h1, h2.below hb⟩) | apply And.intro)
      case steps15 =>
        repeat' (first | exact trivial | apply And.intro)
        all_goals
          intro a' w' hbw hdf hoff hdep K hK
          have o2 := hoff 2 rfl
          (have HC := hide (HB.out.below hbw); have HQ := hide (HQ0.out.below hbw); have y0 := HC.out.cell 0 _ rfl; have y1 := HC.out.cell 1 _ rfl)
          replace hdep := hdep _ rfl
          simp only [List.getElem_toArray, List.getElem_cons_succ, List.getElem_cons_zero, List.toList_toArray, depAll, binds_data, binds_chain, binds_guard, binds_phase, binds_text, binds_gc, cond_true, cond_false, true_and, getR, eqV, List.getD_cons_succ, List.getD_cons_zero, and_true] at hdep
          simp only [Nat.zero_add, Nat.reduceAdd, getR, eqV, List.getD_cons_succ, List.getD_cons_zero] at hK
          clear hoff hdf
          (try (obtain ⟨h12, ⟨c1, h13, HO1⟩, -, hg⟩ := hdep))
          first
            | (refine rg_unwanted rfl rfl rfl (b' := false) (by first | (simp [hdep]; done) | assumption) (by decide) ?_; exact hK _ _ rfl (Below.refl _ _) (by simp))
            | (refine rg_unwanted rfl rfl rfl (b' := true) (by first | (simp [hdep]; done) | assumption) (by decide) ?_; exact hK _ _ rfl (Below.refl _ _) (by simp))
            | (refine rg_wanted rfl rfl rfl (b' := true) (by first | (simp [hdep]; done) | assumption) rfl (fun K' hKK => ?_); go_wp2_with (first | (go_at_call 41; (with_reducible refine (fcheck_any _ a l k HQ.out).mono ?_); rintro e w1 ⟨rfl, hb⟩; rw [HA.out]) | (go_at_call 31; (with_reducible refine (vaof_one _).mono ?_); rintro e w1 ⟨c1, rfl, ho, hb⟩) | (go_at_call 19; (with_reducible refine (fcmp_o _ a c1 (some r) (some 1) (fo_of HQ.out HA.out) HO1).mono ?_); rintro e w1 ⟨rfl, hb⟩)); first | exact hK _ _ rfl (Below.refl _ _) (by simp) | (first | exact hK _ _ rfl hb (by simp) | exact hK _ _ ⟨c1, rfl, ho⟩ hb (by simp)))
            | (refine rg_wanted rfl rfl rfl (b' := false) (by first | (simp [hdep]; done) | assumption) rfl (fun K' hKK => ?_); go_wp2_with (first | (go_at_call 41; (with_reducible refine (fcheck_any _ a l k HQ.out).mono ?_); rintro e w1 ⟨rfl, hb⟩; rw [HA.out]) | (go_at_call 31; (with_reducible refine (vaof_one _).mono ?_); rintro e w1 ⟨c1, rfl, ho, hb⟩) | (go_at_call 19; (with_reducible refine (fcmp_o _ a c1 (some r) (some 1) (fo_of HQ.out HA.out) HO1).mono ?_); rintro e w1 ⟨rfl, hb⟩)); first | exact hK _ _ rfl (Below.refl _ _) (by simp) | (first | exact hK _ _ rfl hb (by simp) | exact hK _ _ ⟨c1, rfl, ho⟩ hb (by simp)))
            | (refine rg_free rfl rfl (fun K' hKK => ?_); fail)
            | (refine rg_free rfl rfl (fun K' hKK => ?_); go_wp2_with (first | (go_at_call 41; (with_reducible refine (fcheck_any _ a l k HQ.out).mono ?_); rintro e w1 ⟨rfl, hb⟩; rw [HA.out]) | (go_at_call 31; (with_reducible refine (vaof_one _).mono ?_); rintro e w1 ⟨c1, rfl, ho, hb⟩) | (go_at_call 19; (with_reducible refine (fcmp_o _ a c1 (some r) (some 1) (fo_of HQ.out HA.out) HO1).mono ?_); rintro e w1 ⟨rfl, hb⟩)); first | exact hK _ _ rfl (Below.refl _ _) (by simp) | (first | exact hK _ _ rfl hb (by simp) | exact hK _ _ ⟨c1, rfl, ho⟩ hb (by simp)))
      intro w' hbw
      repeat (refine fin_eq ?_)
      refine fin_any (fun x9 hx9 => ?_)
      repeat (refine fin_eq ?_)
      refine fin_nil ?_
      (simp only [List.setIfInBounds_toArray, List.set_cons_succ, List.set_cons_zero]; refine wpAny_done (by kernel_rfl) ?_ _)
      have HR1 := hide (HRB.out.below hbw); have HBW := hide (HBV.out.trans (hbw.mono HBV.out.size)); obtain ⟨r0, r1, rf, rz, -⟩ := HR1.out
      go_wp2_with fail
      refine bodyPost_ret (v := .tuple #[.agg #[.slice fa0.A fa0.n fa0.c, .slice fa0.B fa0.m fa0.d], .int .i64 1]) (by simp [results, Try.results23, go_sem, *]) rfl ⟨fa0, by rw [valR_big H1.out], by rw [valR_big H1.out]; exact (Fo.nil _).put2 HR1.out.nb _ _ (by simp), Rb.end0 HBW.out (by omega) _ _⟩
    · have g0 : decide (0 < cmpO (some r) (some 1)) = false := decide_eq_false (fun h => h1 (cmpQ_pos'.1 h))
      have H1 := hide h1
      clear h1
      go_enter Try.func23, Try.ntmps23
      go_upto_region 1 with (fail)
      generalize hW : World.alloc (World.alloc w _) _ = v
      have HB := hide (show Cb v w.heap.size [.slice a.A a.n a.c, .slice a.B a.m a.d] by rw [← hW]; exact (Cb.mk0 [.slice a.A a.n a.c, .slice a.B a.m a.d] (by simp) _ rfl).alloc _)
      have HQ0 := hide (show Fq v a l k by rw [← hW]; exact (ha.alloc _).alloc _)
      have HRB := hide (show Rb v (w.heap.size + 1) by rw [← hW]; exact Rb.mk0 _ (by simp))
      have HBV := hide (show Below w.heap.size w v by rw [← hW]; exact ((Below.refl _ _).alloc (Nat.le_refl _) _).alloc (by simp) _)
      clear hW ha
      apply region_seq 10 [7, 8, 9, 10, 11, 12, 13, 14, 15, 6] [eqV _, eqV _, eqV _, eqV _, eqV _, fun x w => ∃ c : Fa, x = .agg #[.slice c.A c.n c.c, .slice c.B c.m c.d] ∧ Fo w c (some 1), eqV _, eqV _, eqV _, eqV _] [false, false, false, false, false, false, false, false, false, false] (by kernel_rfl) (by decide) rfl rfl rfl (by decide) (by kernel_rfl) (by kernel_rfl) ?stb16 ?steps16 ?fin16
      case stb16 => repeat' (first | exact trivial | apply stb_eq | (exact fun x w w' ⟨c, h1, h2⟩ hb => ⟨c, h1, h2.below hb⟩) | apply And.intro)
      case steps16 =>
        repeat' (first | exact trivial | apply And.intro)
        all_goals
          intro a' w' hbw hdf hoff hdep K hK
          have o2 := hoff 2 rfl
          (have HC := hide (HB.out.below hbw); have HQ := hide (HQ0.out.below hbw); have y0 := HC.out.cell 0 _ rfl; have y1 := HC.out.cell 1 _ rfl)
          replace hdep := hdep _ rfl
          simp only [List.getElem_toArray, List.getElem_cons_succ, List.getElem_cons_zero, List.toList_toArray, depAll, binds_data, binds_chain, binds_guard, binds_phase, binds_text, binds_gc, cond_true, cond_false, true_and, getR, eqV, List.getD_cons_succ, List.getD_cons_zero, and_true] at hdep
          simp only [Nat.zero_add, Nat.reduceAdd, getR, eqV, List.getD_cons_succ, List.getD_cons_zero] at hK
          clear hoff hdf
          (try (obtain ⟨h12, ⟨c1, h13, HO1⟩, -, hg⟩ := hdep))
          first
            | (refine rg_unwanted rfl rfl rfl (b' := false) (by first | (simp [hdep]; done) | assumption) (by decide) ?_; exact hK _ _ rfl (Below.refl _ _) (by simp))
            | (refine rg_unwanted rfl rfl rfl (b' := true) (by first | (simp [hdep]; done) | assumption) (by decide) ?_; exact hK _ _ rfl (Below.refl _ _) (by simp))
            | (refine rg_wanted rfl rfl rfl (b' := true) (by first | (simp [hdep]; done) | assumption) rfl (fun K' hKK => ?_); go_wp2_with (first | (go_at_call 41; (with_reducible refine (fcheck_any _ a l k HQ.out).mono ?_); rintro e w1 ⟨rfl, hb⟩; rw [HA.out]) | (go_at_call 31; (with_reducible refine (vaof_one _).mono ?_); rintro e w1 ⟨c1, rfl, ho, hb⟩) | (go_at_call 19; (with_reducible refine (fcmp_o _ a c1 (some r) (some 1) (fo_of HQ.out HA.out) HO1).mono ?_); rintro e w1 ⟨rfl, hb⟩)); first | exact hK _ _ rfl (Below.refl _ _) (by simp) | (first | exact hK _ _ rfl hb (by simp) | exact hK _ _ ⟨c1, rfl, ho⟩ hb (by simp)))
            | (refine rg_wanted rfl rfl rfl (b' := false) (by first | (simp [hdep]; done) | assumption) rfl (fun K' hKK => ?_); go_wp2_with (first | (go_at_call 41; (with_reducible refine (fcheck_any _ a l k HQ.out).mono ?_); rintro e w1 ⟨rfl, hb⟩; rw [HA.out]) | (go_at_call 31; (with_reducible refine (vaof_one _).mono ?_); rintro e w1 ⟨c1, rfl, ho, hb⟩) | (go_at_call 19; (with_reducible refine (fcmp_o _ a c1 (some r) (some 1) (fo_of HQ.out HA.out) HO1).mono ?_); rintro e w1 ⟨rfl, hb⟩)); first | exact hK _ _ rfl (Below.refl _ _) (by simp) | (first | exact hK _ _ rfl hb (by simp) | exact hK _ _ ⟨c1, rfl, ho⟩ hb (by simp)))
            | (refine rg_free rfl rfl (fun K' hKK => ?_); fail)
            | (refine rg_free rfl rfl (fun K' hKK => ?_); go_wp2_with (first | (go_at_call 41; (with_reducible refine (fcheck_any _ a l k HQ.out).mono ?_); rintro e w1 ⟨rfl, hb⟩; rw [HA.out]) | (go_at_call 31; (with_reducible refine (vaof_one _).mono ?_); rintro e w1 ⟨c1, rfl, ho, hb⟩) | (go_at_call 19; (with_reducible refine (fcmp_o _ a c1 (some r) (some 1) (fo_of HQ.out HA.out) HO1).mono ?_); rintro e w1 ⟨rfl, hb⟩)); first | exact hK _ _ rfl (Below.refl _ _) (by simp) | (first | exact hK _ _ rfl hb (by simp) | exact hK _ _ ⟨c1, rfl, ho⟩ hb (by simp)))
      intro w' hbw
      repeat (refine fin_eq ?_)
      refine fin_any (fun x9 hx9 => ?_)
      repeat (refine fin_eq ?_)
      refine fin_nil ?_
      (simp only [List.setIfInBounds_toArray, List.set_cons_succ, List.set_cons_zero]; refine wpAny_done (by kernel_rfl) ?_ _)
      have HR1 := hide (HRB.out.below hbw); have HBW := hide (HBV.out.trans (hbw.mono HBV.out.size)); obtain ⟨r0, r1, rf, rz, -⟩ := HR1.out
      go_upto_region 3 with (fail)
      by_cases hp0 : c < 0
      · have q0 : decide (c < 0) = true := decide_eq_true hp0
        go_wp2_with fail
        refine bodyPost_ret (v := .tuple #[.agg #[.slice fa0.A fa0.n fa0.c, .slice fa0.B fa0.m fa0.d], .int .i64 3]) (by simp [results, Try.results23, go_sem, *]) rfl ⟨fa0, by rw [valR_range H1.out (.inl hp0)], by rw [valR_range H1.out (.inl hp0)]; exact (Fo.nil _).put2 HR1.out.nb _ _ (by simp), Rb.end0 HBW.out (by omega) _ _⟩
      · have q0 : decide (c < 0) = false := decide_eq_false hp0
        by_cases hp1 : 1024 < c
        · have q1 : decide (1024 < c) = true := decide_eq_true hp1
          go_wp2_with fail
          refine bodyPost_ret (v := .tuple #[.agg #[.slice fa0.A fa0.n fa0.c, .slice fa0.B fa0.m fa0.d], .int .i64 3]) (by simp [results, Try.results23, go_sem, *]) rfl ⟨fa0, by rw [valR_range H1.out (.inr hp1)], by rw [valR_range H1.out (.inr hp1)]; exact (Fo.nil _).put2 HR1.out.nb _ _ (by simp), Rb.end0 HBW.out (by omega) _ _⟩
        · obtain ⟨C, rfl⟩ : ∃ C : Nat, c = (C : Int) := ⟨c.toNat, by omega⟩
          have hC : C ≤ 1024 := by omega
          have q1 : decide (1024 < (C : Int)) = false := decide_eq_false hp1
          have q2 : decide (1024 < C) = false := decide_eq_false (by omega)
          go_upto_region 5 with (fail)
          clear hp0 hp1 q0 q1 q2
          obtain ⟨xo, xe, hxe⟩ : ∃ xo xe, mulR (some r) (some (mkRat ((1 + C : Nat) : Int) 1)) = (xo, xe) := ⟨_, _, rfl⟩
          have HXE := hide hxe
          have HVR := hide (show valR (some r) (C : Int) = (xo, xe) by rw [valR_in H1.out hC, hxe])
          clear hxe
          have HBC := hide (HB.out.below hbw)
          have HQC := hide (HQ0.out.below hbw)
          clear hbw
          clear r0 r1 rf rz
          apply region_seq 7 [25, 26, 27, 28, 29, 30, 31] [eqV _, eqV _, eqV _, fun x w => ∃ c : Fa, x = .agg #[.slice c.A c.n c.c, .slice c.B c.m c.d] ∧ Fo w c (some (mkRat ((1 + C : Nat) : Int) 1)), fun x w => ∃ c : Fa, x = .tuple #[.agg #[.slice c.A c.n c.c, .slice c.B c.m c.d], .int .i64 xe] ∧ Fo w c xo, fun x w => ∃ c : Fa, x = .agg #[.slice c.A c.n c.c, .slice c.B c.m c.d] ∧ Fo w c xo, eqV _] [false, false, false, false, false, false, false] (by kernel_rfl) (by decide) rfl rfl rfl (by decide) (by kernel_rfl) (by kernel_rfl) ?stb17 ?steps17 ?fin17
          case stb17 => repeat' (first | exact trivial | apply stb_eq | (exact fun x w w' ⟨c, h1, h2⟩ hb => ⟨c, h1, h2.below hb⟩) | apply And.intro)
          case steps17 =>
            repeat' (first | exact trivial | apply And.intro)
            all_goals
              intro a' w' hbw hdf hoff hdep K hK
              (have o2 := hoff 2 rfl; have o1 := hoff 1 rfl)
              (have HC := hide (HBC.out.below hbw); have HQ := hide (HQC.out.below hbw); have y0 := HC.out.cell 0 _ rfl; have y1 := HC.out.cell 1 _ rfl)
              replace hdep := hdep _ rfl
              simp only [List.getElem_toArray, List.getElem_cons_succ, List.getElem_cons_zero, List.toList_toArray, depAll, binds_data, binds_chain, binds_guard, binds_phase, binds_text, binds_gc, cond_true, cond_false, true_and, getR, eqV, List.getD_cons_succ, List.getD_cons_zero, and_true] at hdep
              simp only [Nat.zero_add, Nat.reduceAdd, getR, eqV, List.getD_cons_succ, List.getD_cons_zero] at hK
              clear hoff hdf
              (first | (obtain ⟨e30, ⟨c1, e32, HO1⟩, hdep⟩ : (_ = _) ∧ (∃ c : Fa, _) ∧ _ := hdep) | (obtain ⟨⟨c1, e24, HO1⟩, hdep⟩ : (∃ c : Fa, _) ∧ _ := hdep) | (obtain ⟨c1, e24, HO1⟩ : ∃ c : Fa, _ := hdep) | skip)
              first
                | (refine rg_unwanted rfl rfl rfl (b' := false) (by first | (simp [hdep]; done) | assumption) (by decide) ?_; exact hK _ _ rfl (Below.refl _ _) (by simp))
                | (refine rg_unwanted rfl rfl rfl (b' := true) (by first | (simp [hdep]; done) | assumption) (by decide) ?_; exact hK _ _ rfl (Below.refl _ _) (by simp))
                | (refine rg_wanted rfl rfl rfl (b' := true) (by first | (simp [hdep]; done) | assumption) rfl (fun K' hKK => ?_); go_wp2_with (first | (go_at_call 31; (with_reducible refine (vaof_any _ _ 1 (1 + C) 1 (by first | rfl | omega) rfl (by omega) (by omega) (by omega)).mono ?_); rintro e w1 ⟨c, rfl, ho, hb⟩) | (go_at_call 45; (with_reducible refine (fmul_o _ a c1 (some r) (some (mkRat ((1 + C : Nat) : Int) 1)) (fo_of HQ.out HA.out) HO1).mono ?_); rintro e w1 ⟨c, rfl, ho, hb⟩; rw [HXE.out] at ho ⊢)); first | exact hK _ _ rfl (Below.refl _ _) (by simp) | (first | exact hK _ _ ⟨c, rfl, ho⟩ hb (by simp) | exact hK _ _ ⟨c1, rfl, HO1⟩ (Below.refl _ _) (by simp)))
                | (refine rg_wanted rfl rfl rfl (b' := false) (by first | (simp [hdep]; done) | assumption) rfl (fun K' hKK => ?_); go_wp2_with (first | (go_at_call 31; (with_reducible refine (vaof_any _ _ 1 (1 + C) 1 (by first | rfl | omega) rfl (by omega) (by omega) (by omega)).mono ?_); rintro e w1 ⟨c, rfl, ho, hb⟩) | (go_at_call 45; (with_reducible refine (fmul_o _ a c1 (some r) (some (mkRat ((1 + C : Nat) : Int) 1)) (fo_of HQ.out HA.out) HO1).mono ?_); rintro e w1 ⟨c, rfl, ho, hb⟩; rw [HXE.out] at ho ⊢)); first | exact hK _ _ rfl (Below.refl _ _) (by simp) | (first | exact hK _ _ ⟨c, rfl, ho⟩ hb (by simp) | exact hK _ _ ⟨c1, rfl, HO1⟩ (Below.refl _ _) (by simp)))
                | (refine rg_free rfl rfl (fun K' hKK => ?_); fail)
                | (refine rg_free rfl rfl (fun K' hKK => ?_); go_wp2_with (first | (go_at_call 31; (with_reducible refine (vaof_any _ _ 1 (1 + C) 1 (by first | rfl | omega) rfl (by omega) (by omega) (by omega)).mono ?_); rintro e w1 ⟨c, rfl, ho, hb⟩) | (go_at_call 45; (with_reducible refine (fmul_o _ a c1 (some r) (some (mkRat ((1 + C : Nat) : Int) 1)) (fo_of HQ.out HA.out) HO1).mono ?_); rintro e w1 ⟨c, rfl, ho, hb⟩; rw [HXE.out] at ho ⊢)); first | exact hK _ _ rfl (Below.refl _ _) (by simp) | (first | exact hK _ _ ⟨c, rfl, ho⟩ hb (by simp) | exact hK _ _ ⟨c1, rfl, HO1⟩ (Below.refl _ _) (by simp)))
          intro w' hbw
          repeat (first | refine fin_eq ?_ | refine fin_any (fun x hx => ?_))
          rename_i x15 h15
          obtain ⟨c5, rfl, -⟩ := h15
          obtain ⟨q, rfl, ho⟩ := hx
          have HO := hide ho
          have HR2 := hide (HR1.out.below hbw)
          have HBE := hide (HBW.out.trans (hbw.mono HBW.out.size))
          obtain ⟨r0, r1, rf, rz, -⟩ := HR2.out
          clear ho hbw
          refine fin_nil ?_
          simp only [List.setIfInBounds_toArray, List.set_cons_succ, List.set_cons_zero]
          refine wpAny_one (i := 7) (by kernel_rfl) ?_
          refine rg_free rfl rfl (fun K' hKK => ?_)
          go_wp2_with fail
          refine wpAny_one (i := 8) (by kernel_rfl) ?_
          refine rg_free rfl rfl (fun K' hKK => ?_)
          go_wp2_with fail
          refine wpAny_done (by kernel_rfl) ?_ _
          go_wp2_with fail
          refine bodyPost_ret (v := .tuple #[.agg #[.slice q.A q.n q.c, .slice q.B q.m q.d], .int .i64 xe]) (by simp [results, Try.results23, go_sem, *]) rfl ⟨q, by rw [HVR.out], by rw [HVR.out]; exact HO.out.put2 HR2.out.nb _ _ (by simp), Rb.end0 HBE.out (by omega) _ _⟩
end Go.Proofs.Ytnofljgmkdommaa

/- Contracts: noise.Choose. -/
namespace Go.Proofs.Ytnofljgmkdommaa
open Go.RowKit

def chooseL (n k : Int) : List Nat := if n < 0 ∨ 32 < n then [] else if k < 0 ∨ n < k then [] else lm (ch n.toNat k.toNat)
def chooseE (n : Int) : Int := if n < 0 ∨ 32 < n then 3 else 0
theorem nof_zero (w : World) : Calls Try.prog 76 #[.int .u64 0] w fun e w' => ∃ A m c, e = .returned (.slice A m c) ∧ m ≤ c ∧ m ≤ 2 ∧ Ul w' none A m (lm 0) ∧ Below w.heap.size w w' := nof_any w 0 (by omega)
end Go.Proofs.Ytnofljgmkdommaa

/- Contracts: the reference's Choose. -/
namespace Go.Proofs.Ytnofljgmkdommaa
open Go.RowKit

theorem ch_one : ∀ n, ch n 1 = n
  | 0 => rfl
  | n + 1 => by show ch n 0 + ch n 1 = _; rw [ch_zero, ch_one n]; omega
theorem ch_mul : ∀ n k : Nat, ch (n + 1) (k + 1) * (k + 1) = ch n k * (n + 1)
  | 0, 0 => rfl
  | 0, k + 1 => by
    show (ch 0 (k + 1) + ch 0 (k + 2)) * (k + 2) = ch 0 (k + 1) * 1
    show (0 + 0) * _ = 0 * 1
    omega
  | n + 1, 0 => by rw [ch_one, ch_zero]; omega
  | n + 1, k + 1 => by
    have h1 := ch_mul n k
    have h2 := ch_mul n (k + 1)
    show (ch (n + 1) (k + 1) + ch (n + 1) (k + 2)) * (k + 1 + 1) = (ch n k + ch n (k + 1)) * (n + 1 + 1)
    have e : ch (n + 1) (k + 1) = ch n k + ch n (k + 1) := rfl
    rw [Nat.add_mul, h2]
    rw [Nat.mul_add _ (k + 1) 1, h1, e, Nat.mul_one]
    rw [show n + 1 + 1 = (n + 1) + 1 from rfl, Nat.mul_add _ (n + 1) 1, Nat.mul_one, Nat.add_mul]
    omega
theorem ch_step {d i : Nat} : ch (d + i) i * (d + (i + 1)) / (i + 1) = ch (d + (i + 1)) (i + 1) := by
  have h := ch_mul (d + i) i
  rw [show d + (i + 1) = d + i + 1 by omega, ← h]
  exact Nat.mul_div_cancel _ (by omega)
theorem r1of_zero (w : World) : Calls Try.prog 80 #[.int .u64 0] w fun e w' => ∃ A m c, e = .returned (.slice A m c) ∧ m ≤ c ∧ m ≤ 2 ∧ Ul w' none A m (lm 0) ∧ Below w.heap.size w w' := r1of_any w 0 (by omega)
end Go.Proofs.Ytnofljgmkdommaa

/- Contract: the reference's Exactly. -/
namespace Go.Proofs.Ytnofljgmkdommaa
open Go.RowKit

theorem sm_one (r : Rat) (n k : Nat) : ∀ m, sm r n (fun j => decide ((j : Int) = (k : Int))) m = if k < m then tm r n k else 0
  | 0 => by rw [if_neg (by omega)]; rfl
  | m + 1 => by
    show sm r n _ m + (if decide ((m : Int) = (k : Int)) = true then tm r n m else 0) = _
    rw [sm_one r n k m]
    have add0 : ∀ x : Rat, x + 0 = x := fun x => by grind
    have zadd : ∀ x : Rat, 0 + x = x := fun x => by grind
    by_cases h : k < m
    · have e : decide ((m : Int) = (k : Int)) = false := decide_eq_false (by omega)
      rw [e, if_pos h, if_pos (show k < m + 1 by omega), if_neg (by simp), add0]
    · by_cases h2 : k = m
      · subst h2
        have e : decide ((k : Int) = (k : Int)) = true := decide_eq_true rfl
        rw [e, if_neg h, if_pos (show k < k + 1 by omega), if_pos rfl, zadd]
      · have e : decide ((m : Int) = (k : Int)) = false := decide_eq_false (by omega)
        rw [e, if_neg h, if_neg (show ¬ k < m + 1 by omega), if_neg (by simp), add0]
theorem sm_none (r : Rat) (n : Nat) (m : Int) (hm : m < 0) : ∀ j, sm r n (fun j => decide ((j : Int) = m)) j = 0
  | 0 => rfl
  | j + 1 => by
    show sm r n _ j + (if decide ((j : Int) = m) = true then tm r n j else 0) = _
    rw [sm_none r n m hm j, if_neg (by simp; omega)]
    grind
theorem tot_out (r : Rat) (n : Nat) (m : Int) (h : m < 0 ∨ (n : Int) < m) : tot r n (fun j => decide ((j : Int) = m)) = 0 := by
  by_cases h0 : m < 0
  · exact sm_none r n m h0 _
  · obtain ⟨k, rfl⟩ : ∃ k : Nat, m = k := ⟨m.toNat, by omega⟩
    unfold tot
    rw [sm_one, if_neg (show ¬ k < n + 1 by omega)]
theorem tot_one (r : Rat) (n k : Nat) (h : k ≤ n) : tot r n (fun j => decide ((j : Int) = (k : Int))) = tm r n k := by
  unfold tot
  rw [sm_one, if_pos (show k < n + 1 by omega)]
theorem r2pow_ok (w : World) (a : Fa) (r : Rat) (k : Nat) (ha : Fo w a (some r)) (hk : k ≤ 65536) (hf : fitsR (r ^ k) = true) : Calls Try.prog 38 #[.agg #[.slice a.A a.n a.c, .slice a.B a.m a.d], .int .i64 (k : Int)] w fun e w' => RetV w (r ^ k) e w' :=
  (r2pow_o w a (some r) k ha (by omega) (by omega)).mono fun e w' h => Ret.ok (by
    show (if (k : Int) < 0 ∨ 65536 < (k : Int) then (none, 3) else limR (r ^ ((k : Int)).toNat)) = _
    rw [if_neg (by omega), Int.toNat_natCast, limR_fit hf]) h
theorem r2mul_ok (w : World) (a b : Fa) (r s : Rat) (ha : Fo w a (some r)) (hb : Fo w b (some s)) (hf : fitsR (r * s) = true) : Calls Try.prog 48 #[.agg #[.slice a.A a.n a.c, .slice a.B a.m a.d], .agg #[.slice b.A b.n b.c, .slice b.B b.m b.d]] w fun e w' => RetV w (r * s) e w' :=
  (r2mul_o w a b (some r) (some s) ha hb).mono fun e w' h => Ret.ok (by show limR (r * s) = _; rw [limR_fit hf]) h
theorem r2add_ok (w : World) (a b : Fa) (r s : Rat) (ha : Fo w a (some r)) (hb : Fo w b (some s)) (hf : fitsR (r + s) = true) : Calls Try.prog 39 #[.agg #[.slice a.A a.n a.c, .slice a.B a.m a.d], .agg #[.slice b.A b.n b.c, .slice b.B b.m b.d]] w fun e w' => RetV w (r + s) e w' :=
  (r2add_o w a b (some r) (some s) ha hb).mono fun e w' h => Ret.ok (by show limR (r + s) = _; rw [limR_fit hf]) h
theorem r1of_one (w : World) : Calls Try.prog 80 #[.int .u64 1] w fun e w' => ∃ A m c, e = .returned (.slice A m c) ∧ m ≤ c ∧ m ≤ 2 ∧ Ul w' none A m (lm 1) ∧ Below w.heap.size w w' := r1of_any w 1 (by omega)
end Go.Proofs.Ytnofljgmkdommaa
