/- Contracts of the functions that these laws reach: part 22: Contract: the reference's Check of a noise model; Contracts: copied, Fails; the reference's Fails; Plain laws: the reference's sums count what the program's count. -/
import Derived.Test.YtclflfglhbkfkaaG21
import Derived.Test.YtclflfglhbkfkaaG20
set_option linter.unusedVariables false
set_option linter.unusedSimpArgs false

/- Contract: the reference's Check of a noise model. -/
namespace Go.Proofs.Ytclflfglhbkfkaa
open Go.RowKit

set_option maxRecDepth 100000 in
set_option maxHeartbeats 8000000 in
theorem rzcheck_any (w : World) (a b : Fa) (la ka lb kb : List Nat) (ha : Fq w a la ka) (hb : Fq w b lb kb) :
    Calls Try.prog 33 #[.agg #[.slice a.A a.n a.c, .slice a.B a.m a.d, .slice b.A b.n b.c, .slice b.B b.m b.d]] w fun e w' => e = .returned (.bool (nzO (fracOf la ka) (fracOf lb kb))) ∧ Below w.heap.size w w' := by
  rcases h1 : chO (fracOf la ka)
  · have H1 := hide h1
    have HX := hide (nzO_no1 (y := fracOf lb kb) h1)
    clear h1
    go_enter Try.func33, Try.ntmps33
    go_upto_region 1 with (fail)
    generalize hW : World.alloc w _ = v
    have HF := hide (show FN w v a b la ka lb kb by rw [← hW]; exact FN.mk0 ha hb _)
    obtain ⟨a0, a1, a2, a3⟩ := HF.out.ca
    have hvz := HF.out.sz
    clear hW ha hb
    apply region_seq 31 [3, 4, 5, 6, 7, 8, 9, 10, 11, 12, 13, 14, 15, 16, 17, 18, 19, 20, 21, 22, 23, 24, 25, 26, 27, 28, 29, 30, 31, 32, 2] [eqV _, eqV _, eqV _, eqV _, eqV _, eqV _, eqV _, eqV _, eqV _, eqV _, eqV _, eqV _, eqV _, eqV _, eqV _, eqV _, eqV _, eqV _, eqV _, eqV _, eqV _, eqV _, eqV _, eqV _, eqV _, eqV _, eqV _, eqV _, eqV _, eqV _, eqV _] [false, false, false, false, false, false, false, false, false, false, false, false, false, false, false, false, false, false, false, false, false, false, false, false, false, false, false, false, false, false, false] (by kernel_rfl) (by decide) rfl rfl rfl (by decide) (by kernel_rfl) (by kernel_rfl) ?stb19 ?steps19 ?fin19
    case stb19 => repeat' (first | exact trivial | apply stb_eq | fail | apply And.intro)
    case steps19 =>
      repeat' (first | exact trivial | apply And.intro)
      all_goals
        intro a' w' hbw hdf hoff hdep K hK
        have o1 := hoff 1 rfl
        (have HF2 := hide (HF.out.below hbw); obtain ⟨y0, y1, y2, y3⟩ := HF2.out.ca)
        replace hdep := hdep _ rfl rfl
        simp only [List.getElem_toArray, List.getElem_cons_succ, List.getElem_cons_zero, List.toList_toArray, depAll, getR, eqV, List.getD_cons_succ, List.getD_cons_zero, and_true] at hdep
        simp only [Nat.zero_add, Nat.reduceAdd, getR, eqV, List.getD_cons_succ, List.getD_cons_zero] at hK
        clear hoff hdf
        skip
        first
          | (refine rg_unwanted rfl rfl rfl (b' := false) (by first | (simp [hdep]; done) | assumption) (by decide) ?_; exact hK _ _ rfl (Below.refl _ _) (by simp))
          | (refine rg_unwanted rfl rfl rfl (b' := true) (by first | (simp [hdep]; done) | assumption) (by decide) ?_; exact hK _ _ rfl (Below.refl _ _) (by simp))
          | (refine rg_wanted rfl rfl rfl (b' := true) (by first | (simp [hdep]; done) | assumption) rfl (fun K' hKK => ?_); go_wp2_with ((go_at_call 35; (with_reducible refine (rzchance_any _ a la ka HF2.out.qa).mono ?_); rintro e w1 ⟨rfl, hb⟩; rw [H1.out])); first | exact hK _ _ rfl (Below.refl _ _) (by simp) | exact hK _ _ rfl hb (by simp))
          | (refine rg_wanted rfl rfl rfl (b' := false) (by first | (simp [hdep]; done) | assumption) rfl (fun K' hKK => ?_); go_wp2_with ((go_at_call 35; (with_reducible refine (rzchance_any _ a la ka HF2.out.qa).mono ?_); rintro e w1 ⟨rfl, hb⟩; rw [H1.out])); first | exact hK _ _ rfl (Below.refl _ _) (by simp) | exact hK _ _ rfl hb (by simp))
          | (refine rg_free rfl rfl (fun K' hKK => ?_); fail)
          | (refine rg_free rfl rfl (fun K' hKK => ?_); go_wp2_with ((go_at_call 35; (with_reducible refine (rzchance_any _ a la ka HF2.out.qa).mono ?_); rintro e w1 ⟨rfl, hb⟩; rw [H1.out])); first | exact hK _ _ rfl (Below.refl _ _) (by simp) | exact hK _ _ rfl hb (by simp))
    intro w' hbw
    repeat (refine fin_eq ?_)
    refine fin_nil ?_
    (simp only [List.setIfInBounds_toArray, List.set_cons_succ, List.set_cons_zero]; refine wpAny_done (by kernel_rfl) ?_ _)
    go_wp2_with fail
    refine bodyPost_ret (v := .bool false) (by simp [results, Try.results33, go_sem, *]) rfl ⟨by rw [HX.out], HF.out.bw.trans (hbw.mono HF.out.bw.size)⟩
  · rcases h2 : chO (fracOf lb kb)
    · have H1 := hide h1
      have H2 := hide h2
      have HX := hide (nzO_no2 (x := fracOf la ka) h2)
      clear h1 h2
      go_enter Try.func33, Try.ntmps33
      go_upto_region 1 with (fail)
      generalize hW : World.alloc w _ = v
      have HF := hide (show FN w v a b la ka lb kb by rw [← hW]; exact FN.mk0 ha hb _)
      obtain ⟨a0, a1, a2, a3⟩ := HF.out.ca
      have hvz := HF.out.sz
      clear hW ha hb
      apply region_seq 31 [3, 4, 5, 6, 7, 8, 9, 10, 11, 12, 13, 14, 15, 16, 17, 18, 19, 20, 21, 22, 23, 24, 25, 26, 27, 28, 29, 30, 31, 32, 2] [eqV _, eqV _, eqV _, eqV _, eqV _, eqV _, eqV _, eqV _, eqV _, eqV _, eqV _, eqV _, eqV _, eqV _, eqV _, eqV _, eqV _, eqV _, eqV _, eqV _, eqV _, eqV _, eqV _, eqV _, eqV _, eqV _, eqV _, eqV _, eqV _, eqV _, eqV _] [false, false, false, false, false, false, false, false, false, false, false, false, false, false, false, false, false, false, false, false, false, false, false, false, false, false, false, false, false, false, false] (by kernel_rfl) (by decide) rfl rfl rfl (by decide) (by kernel_rfl) (by kernel_rfl) ?stb20 ?steps20 ?fin20
      case stb20 => repeat' (first | exact trivial | apply stb_eq | fail | apply And.intro)
      case steps20 =>
        repeat' (first | exact trivial | apply And.intro)
        all_goals
          intro a' w' hbw hdf hoff hdep K hK
          have o1 := hoff 1 rfl
          (have HF2 := hide (HF.out.below hbw); obtain ⟨y0, y1, y2, y3⟩ := HF2.out.ca)
          replace hdep := hdep _ rfl rfl
          simp only [List.getElem_toArray, List.getElem_cons_succ, List.getElem_cons_zero, List.toList_toArray, depAll, getR, eqV, List.getD_cons_succ, List.getD_cons_zero, and_true] at hdep
          simp only [Nat.zero_add, Nat.reduceAdd, getR, eqV, List.getD_cons_succ, List.getD_cons_zero] at hK
          clear hoff hdf
          skip
          first
            | (refine rg_unwanted rfl rfl rfl (b' := false) (by first | (simp [hdep]; done) | assumption) (by decide) ?_; exact hK _ _ rfl (Below.refl _ _) (by simp))
            | (refine rg_unwanted rfl rfl rfl (b' := true) (by first | (simp [hdep]; done) | assumption) (by decide) ?_; exact hK _ _ rfl (Below.refl _ _) (by simp))
            | (refine rg_wanted rfl rfl rfl (b' := true) (by first | (simp [hdep]; done) | assumption) rfl (fun K' hKK => ?_); go_wp2_with (first | (go_at_call 35; (with_reducible refine (rzchance_any _ a la ka HF2.out.qa).mono ?_); rintro e w1 ⟨rfl, hb⟩; rw [H1.out]) | (go_at_call 35; (with_reducible refine (rzchance_any _ b lb kb HF2.out.qb).mono ?_); rintro e w1 ⟨rfl, hb⟩; rw [H2.out])); first | exact hK _ _ rfl (Below.refl _ _) (by simp) | exact hK _ _ rfl hb (by simp))
            | (refine rg_wanted rfl rfl rfl (b' := false) (by first | (simp [hdep]; done) | assumption) rfl (fun K' hKK => ?_); go_wp2_with (first | (go_at_call 35; (with_reducible refine (rzchance_any _ a la ka HF2.out.qa).mono ?_); rintro e w1 ⟨rfl, hb⟩; rw [H1.out]) | (go_at_call 35; (with_reducible refine (rzchance_any _ b lb kb HF2.out.qb).mono ?_); rintro e w1 ⟨rfl, hb⟩; rw [H2.out])); first | exact hK _ _ rfl (Below.refl _ _) (by simp) | exact hK _ _ rfl hb (by simp))
            | (refine rg_free rfl rfl (fun K' hKK => ?_); fail)
            | (refine rg_free rfl rfl (fun K' hKK => ?_); go_wp2_with (first | (go_at_call 35; (with_reducible refine (rzchance_any _ a la ka HF2.out.qa).mono ?_); rintro e w1 ⟨rfl, hb⟩; rw [H1.out]) | (go_at_call 35; (with_reducible refine (rzchance_any _ b lb kb HF2.out.qb).mono ?_); rintro e w1 ⟨rfl, hb⟩; rw [H2.out])); first | exact hK _ _ rfl (Below.refl _ _) (by simp) | exact hK _ _ rfl hb (by simp))
      intro w' hbw
      repeat (refine fin_eq ?_)
      refine fin_nil ?_
      (simp only [List.setIfInBounds_toArray, List.set_cons_succ, List.set_cons_zero]; refine wpAny_done (by kernel_rfl) ?_ _)
      go_wp2_with fail
      refine bodyPost_ret (v := .bool false) (by simp [results, Try.results33, go_sem, *]) rfl ⟨by rw [HX.out], HF.out.bw.trans (hbw.mono HF.out.bw.size)⟩
    · skip
      obtain ⟨r, hA⟩ := chO_some h1
      obtain ⟨s, hB⟩ := chO_some h2
      have HA := hide hA
      have HB := hide hB
      have H1 := hide h1
      have H2 := hide h2
      have hq := fq_len ha hA
      rw [hA] at h1
      rw [hB] at h2
      have HXX := hide (show nzO (fracOf la ka) (fracOf lb kb) = (decide (0 < r) && decide (r < s) && decide (s < 1)) by
        rw [hA, hB]
        show (chO (some r) && chO (some s) && decide (0 < r) && decide (r < s) && decide (s < 1)) = _
        rw [h1, h2, Bool.and_self, Bool.true_and])
      clear hA hB h1 h2
      by_cases h0 : 0 < r
      · have g0 : decide (cmpO (some 0) (some r) < 0) = true := by rw [cmpQ_neg']; exact decide_eq_true h0
        by_cases h3 : r < s
        · have g3 : decide (cmpO (some r) (some s) < 0) = true := by rw [cmpQ_neg']; exact decide_eq_true h3
          have HX := hide (show nzO (fracOf la ka) (fracOf lb kb) = decide (cmpO (some s) (some 1) < 0) by rw [HXX.out, cmpQ_neg', decide_eq_true h0, decide_eq_true h3]; simp)
          clear h0 h3 hq HXX
          go_enter Try.func33, Try.ntmps33
          go_upto_region 1 with (fail)
          generalize hW : World.alloc w _ = v
          have HF := hide (show FN w v a b la ka lb kb by rw [← hW]; exact FN.mk0 ha hb _)
          obtain ⟨a0, a1, a2, a3⟩ := HF.out.ca
          have hvz := HF.out.sz
          clear hW ha hb
          apply region_seq 31 [3, 4, 5, 6, 7, 8, 9, 10, 11, 12, 13, 14, 15, 16, 17, 18, 19, 20, 21, 22, 23, 24, 25, 26, 27, 28, 29, 30, 31, 32, 2] [eqV _, eqV _, eqV _, eqV _, eqV _, eqV _, eqV _, eqV _, eqV _, fun x w => ∃ c : Fa, x = .agg #[.slice c.A c.n c.c, .slice c.B c.m c.d] ∧ Fo w c (some 0), eqV _, eqV _, eqV _, eqV _, eqV _, eqV _, eqV _, eqV _, eqV _, eqV _, eqV _, eqV _, eqV _, eqV _, eqV _, eqV _, fun x w => ∃ c : Fa, x = .agg #[.slice c.A c.n c.c, .slice c.B c.m c.d] ∧ Fo w c (some 1), eqV _, eqV _, eqV _, eqV _] [false, false, false, false, false, false, false, false, false, false, false, false, false, false, false, false, false, false, false, false, false, false, false, false, false, false, false, false, false, false, false] (by kernel_rfl) (by decide) rfl rfl rfl (by decide) (by kernel_rfl) (by kernel_rfl) ?stb16 ?steps16 ?fin16
          case stb16 => repeat' (first | exact trivial | apply stb_eq | (exact fun x w w' ⟨c, h1, h2⟩ hb => ⟨c, h1, h2.below hb⟩) | apply And.intro)
          case steps16 =>
            repeat' (first | exact trivial | apply And.intro)
            all_goals
              intro a' w' hbw hdf hoff hdep K hK
              have o1 := hoff 1 rfl
              (have HF2 := hide (HF.out.below hbw); obtain ⟨y0, y1, y2, y3⟩ := HF2.out.ca)
              replace hdep := hdep _ rfl rfl
              simp only [List.getElem_toArray, List.getElem_cons_succ, List.getElem_cons_zero, List.toList_toArray, depAll, getR, eqV, List.getD_cons_succ, List.getD_cons_zero, and_true] at hdep
              simp only [Nat.zero_add, Nat.reduceAdd, getR, eqV, List.getD_cons_succ, List.getD_cons_zero] at hK
              clear hoff hdf
              (first | (obtain ⟨⟨c0, h12, HO0⟩, h14, -, hg⟩ := hdep) | (obtain ⟨h28, ⟨c1, h29, HO1⟩, -, hg⟩ := hdep) | skip)
              first
                | (refine rg_unwanted rfl rfl rfl (b' := false) (by first | (simp [hdep]; done) | assumption) (by decide) ?_; exact hK _ _ rfl (Below.refl _ _) (by simp))
                | (refine rg_unwanted rfl rfl rfl (b' := true) (by first | (simp [hdep]; done) | assumption) (by decide) ?_; exact hK _ _ rfl (Below.refl _ _) (by simp))
                | (refine rg_wanted rfl rfl rfl (b' := true) (by first | (simp [hdep]; done) | assumption) rfl (fun K' hKK => ?_); go_wp2_with (first | (go_at_call 35; (with_reducible refine (rzchance_any _ a la ka HF2.out.qa).mono ?_); rintro e w1 ⟨rfl, hb⟩; rw [H1.out]) | (go_at_call 35; (with_reducible refine (rzchance_any _ b lb kb HF2.out.qb).mono ?_); rintro e w1 ⟨rfl, hb⟩; rw [H2.out]) | (go_at_call 50; (with_reducible refine (rzof_zero _).mono ?_); rintro e w1 ⟨c1, rfl, ho, hb⟩) | (go_at_call 65; (with_reducible refine (r2cmp_o _ c0 a (some 0) (some r) HO0 (fo_of HF2.out.qa HA.out)).mono ?_); rintro e w1 ⟨rfl, hb⟩) | (go_at_call 65; (with_reducible refine (r2cmp_o _ a b (some r) (some s) (fo_of HF2.out.qa HA.out) (fo_of HF2.out.qb HB.out)).mono ?_); rintro e w1 ⟨rfl, hb⟩) | (go_at_call 50; (with_reducible refine (rzof_one _).mono ?_); rintro e w1 ⟨c1, rfl, ho, hb⟩) | (go_at_call 65; (with_reducible refine (r2cmp_o _ b c1 (some s) (some 1) (fo_of HF2.out.qb HB.out) HO1).mono ?_); rintro e w1 ⟨rfl, hb⟩)); first | exact hK _ _ rfl (Below.refl _ _) (by simp) | (first | exact hK _ _ rfl hb (by simp) | exact hK _ _ ⟨c1, rfl, ho⟩ hb (by simp)))
                | (refine rg_wanted rfl rfl rfl (b' := false) (by first | (simp [hdep]; done) | assumption) rfl (fun K' hKK => ?_); go_wp2_with (first | (go_at_call 35; (with_reducible refine (rzchance_any _ a la ka HF2.out.qa).mono ?_); rintro e w1 ⟨rfl, hb⟩; rw [H1.out]) | (go_at_call 35; (with_reducible refine (rzchance_any _ b lb kb HF2.out.qb).mono ?_); rintro e w1 ⟨rfl, hb⟩; rw [H2.out]) | (go_at_call 50; (with_reducible refine (rzof_zero _).mono ?_); rintro e w1 ⟨c1, rfl, ho, hb⟩) | (go_at_call 65; (with_reducible refine (r2cmp_o _ c0 a (some 0) (some r) HO0 (fo_of HF2.out.qa HA.out)).mono ?_); rintro e w1 ⟨rfl, hb⟩) | (go_at_call 65; (with_reducible refine (r2cmp_o _ a b (some r) (some s) (fo_of HF2.out.qa HA.out) (fo_of HF2.out.qb HB.out)).mono ?_); rintro e w1 ⟨rfl, hb⟩) | (go_at_call 50; (with_reducible refine (rzof_one _).mono ?_); rintro e w1 ⟨c1, rfl, ho, hb⟩) | (go_at_call 65; (with_reducible refine (r2cmp_o _ b c1 (some s) (some 1) (fo_of HF2.out.qb HB.out) HO1).mono ?_); rintro e w1 ⟨rfl, hb⟩)); first | exact hK _ _ rfl (Below.refl _ _) (by simp) | (first | exact hK _ _ rfl hb (by simp) | exact hK _ _ ⟨c1, rfl, ho⟩ hb (by simp)))
                | (refine rg_free rfl rfl (fun K' hKK => ?_); fail)
                | (refine rg_free rfl rfl (fun K' hKK => ?_); go_wp2_with (first | (go_at_call 35; (with_reducible refine (rzchance_any _ a la ka HF2.out.qa).mono ?_); rintro e w1 ⟨rfl, hb⟩; rw [H1.out]) | (go_at_call 35; (with_reducible refine (rzchance_any _ b lb kb HF2.out.qb).mono ?_); rintro e w1 ⟨rfl, hb⟩; rw [H2.out]) | (go_at_call 50; (with_reducible refine (rzof_zero _).mono ?_); rintro e w1 ⟨c1, rfl, ho, hb⟩) | (go_at_call 65; (with_reducible refine (r2cmp_o _ c0 a (some 0) (some r) HO0 (fo_of HF2.out.qa HA.out)).mono ?_); rintro e w1 ⟨rfl, hb⟩) | (go_at_call 65; (with_reducible refine (r2cmp_o _ a b (some r) (some s) (fo_of HF2.out.qa HA.out) (fo_of HF2.out.qb HB.out)).mono ?_); rintro e w1 ⟨rfl, hb⟩) | (go_at_call 50; (with_reducible refine (rzof_one _).mono ?_); rintro e w1 ⟨c1, rfl, ho, hb⟩) | (go_at_call 65; (with_reducible refine (r2cmp_o _ b c1 (some s) (some 1) (fo_of HF2.out.qb HB.out) HO1).mono ?_); rintro e w1 ⟨rfl, hb⟩)); first | exact hK _ _ rfl (Below.refl _ _) (by simp) | (first | exact hK _ _ rfl hb (by simp) | exact hK _ _ ⟨c1, rfl, ho⟩ hb (by simp)))
          intro w' hbw
          repeat (refine fin_eq ?_)
          refine fin_any (fun x9 hx9 => ?_)
          repeat (refine fin_eq ?_)
          refine fin_any (fun x26 hx26 => ?_)
          repeat (refine fin_eq ?_)
          refine fin_nil ?_
          (simp only [List.setIfInBounds_toArray, List.set_cons_succ, List.set_cons_zero]; refine wpAny_done (by kernel_rfl) ?_ _)
          go_wp2_with fail
          refine bodyPost_ret (v := .bool (decide (cmpO (some s) (some 1) < 0))) (by simp [results, Try.results33, go_sem, *]) rfl ⟨by rw [HX.out], HF.out.bw.trans (hbw.mono HF.out.bw.size)⟩
        · have g3 : decide (cmpO (some r) (some s) < 0) = false := by rw [cmpQ_neg']; exact decide_eq_false h3
          have HX := hide (show nzO (fracOf la ka) (fracOf lb kb) = false by rw [HXX.out, decide_eq_false h3]; simp)
          clear h0 h3 hq HXX
          go_enter Try.func33, Try.ntmps33
          go_upto_region 1 with (fail)
          generalize hW : World.alloc w _ = v
          have HF := hide (show FN w v a b la ka lb kb by rw [← hW]; exact FN.mk0 ha hb _)
          obtain ⟨a0, a1, a2, a3⟩ := HF.out.ca
          have hvz := HF.out.sz
          clear hW ha hb
          apply region_seq 31 [3, 4, 5, 6, 7, 8, 9, 10, 11, 12, 13, 14, 15, 16, 17, 18, 19, 20, 21, 22, 23, 24, 25, 26, 27, 28, 29, 30, 31, 32, 2] [eqV _, eqV _, eqV _, eqV _, eqV _, eqV _, eqV _, eqV _, eqV _, fun x w => ∃ c : Fa, x = .agg #[.slice c.A c.n c.c, .slice c.B c.m c.d] ∧ Fo w c (some 0), eqV _, eqV _, eqV _, eqV _, eqV _, eqV _, eqV _, eqV _, eqV _, eqV _, eqV _, eqV _, eqV _, eqV _, eqV _, eqV _, eqV _, eqV _, eqV _, eqV _, eqV _] [false, false, false, false, false, false, false, false, false, false, false, false, false, false, false, false, false, false, false, false, false, false, false, false, false, false, false, false, false, false, false] (by kernel_rfl) (by decide) rfl rfl rfl (by decide) (by kernel_rfl) (by kernel_rfl) ?stb17 ?steps17 ?fin17
          case stb17 => repeat' (first | exact trivial | apply stb_eq | (exact fun x w w' ⟨c, h1, h2⟩ hb => ⟨c, h1, h2.below hb⟩) | apply And.intro)
          case steps17 =>
            repeat' (first | exact trivial | apply And.intro)
            all_goals
              intro a' w' hbw hdf hoff hdep K hK
              have o1 := hoff 1 rfl
              (have HF2 := hide (HF.out.below hbw); obtain ⟨y0, y1, y2, y3⟩ := HF2.out.ca)
              replace hdep := hdep _ rfl rfl
              simp only [List.getElem_toArray, List.getElem_cons_succ, List.getElem_cons_zero, List.toList_toArray, depAll, getR, eqV, List.getD_cons_succ, List.getD_cons_zero, and_true] at hdep
              simp only [Nat.zero_add, Nat.reduceAdd, getR, eqV, List.getD_cons_succ, List.getD_cons_zero] at hK
              clear hoff hdf
              (try (obtain ⟨⟨c0, h12, HO0⟩, h14, -, hg⟩ := hdep))
              first
                | (refine rg_unwanted rfl rfl rfl (b' := false) (by first | (simp [hdep]; done) | assumption) (by decide) ?_; exact hK _ _ rfl (Below.refl _ _) (by simp))
                | (refine rg_unwanted rfl rfl rfl (b' := true) (by first | (simp [hdep]; done) | assumption) (by decide) ?_; exact hK _ _ rfl (Below.refl _ _) (by simp))
                | (refine rg_wanted rfl rfl rfl (b' := true) (by first | (simp [hdep]; done) | assumption) rfl (fun K' hKK => ?_); go_wp2_with (first | (go_at_call 35; (with_reducible refine (rzchance_any _ a la ka HF2.out.qa).mono ?_); rintro e w1 ⟨rfl, hb⟩; rw [H1.out]) | (go_at_call 35; (with_reducible refine (rzchance_any _ b lb kb HF2.out.qb).mono ?_); rintro e w1 ⟨rfl, hb⟩; rw [H2.out]) | (go_at_call 50; (with_reducible refine (rzof_zero _).mono ?_); rintro e w1 ⟨c1, rfl, ho, hb⟩) | (go_at_call 65; (with_reducible refine (r2cmp_o _ c0 a (some 0) (some r) HO0 (fo_of HF2.out.qa HA.out)).mono ?_); rintro e w1 ⟨rfl, hb⟩) | (go_at_call 65; (with_reducible refine (r2cmp_o _ a b (some r) (some s) (fo_of HF2.out.qa HA.out) (fo_of HF2.out.qb HB.out)).mono ?_); rintro e w1 ⟨rfl, hb⟩)); first | exact hK _ _ rfl (Below.refl _ _) (by simp) | (first | exact hK _ _ rfl hb (by simp) | exact hK _ _ ⟨c1, rfl, ho⟩ hb (by simp)))
                | (refine rg_wanted rfl rfl rfl (b' := false) (by first | (simp [hdep]; done) | assumption) rfl (fun K' hKK => ?_); go_wp2_with (first | (go_at_call 35; (with_reducible refine (rzchance_any _ a la ka HF2.out.qa).mono ?_); rintro e w1 ⟨rfl, hb⟩; rw [H1.out]) | (go_at_call 35; (with_reducible refine (rzchance_any _ b lb kb HF2.out.qb).mono ?_); rintro e w1 ⟨rfl, hb⟩; rw [H2.out]) | (go_at_call 50; (with_reducible refine (rzof_zero _).mono ?_); rintro e w1 ⟨c1, rfl, ho, hb⟩) | (go_at_call 65; (with_reducible refine (r2cmp_o _ c0 a (some 0) (some r) HO0 (fo_of HF2.out.qa HA.out)).mono ?_); rintro e w1 ⟨rfl, hb⟩) | (go_at_call 65; (with_reducible refine (r2cmp_o _ a b (some r) (some s) (fo_of HF2.out.qa HA.out) (fo_of HF2.out.qb HB.out)).mono ?_); rintro e w1 ⟨rfl, hb⟩)); first | exact hK _ _ rfl (Below.refl _ _) (by simp) | (first | exact hK _ _ rfl hb (by simp) | exact hK _ _ ⟨c1, rfl, ho⟩ hb (by simp)))
                | (refine rg_free rfl rfl (fun K' hKK => ?_); fail)
                | (refine rg_free rfl rfl (fun K' hKK => ?_); go_wp2_with (first | (go_at_call 35; (with_reducible refine (rzchance_any _ a la ka HF2.out.qa).mono ?_); rintro e w1 ⟨rfl, hb⟩; rw [H1.out]) | (go_at_call 35; (with_reducible refine (rzchance_any _ b lb kb HF2.out.qb).mono ?_); rintro e w1 ⟨rfl, hb⟩; rw [H2.out]) | (go_at_call 50; (with_reducible refine (rzof_zero _).mono ?_); rintro e w1 ⟨c1, rfl, ho, hb⟩) | (go_at_call 65; (with_reducible refine (r2cmp_o _ c0 a (some 0) (some r) HO0 (fo_of HF2.out.qa HA.out)).mono ?_); rintro e w1 ⟨rfl, hb⟩) | (go_at_call 65; (with_reducible refine (r2cmp_o _ a b (some r) (some s) (fo_of HF2.out.qa HA.out) (fo_of HF2.out.qb HB.out)).mono ?_); rintro e w1 ⟨rfl, hb⟩)); first | exact hK _ _ rfl (Below.refl _ _) (by simp) | (first | exact hK _ _ rfl hb (by simp) | exact hK _ _ ⟨c1, rfl, ho⟩ hb (by simp)))
          intro w' hbw
          repeat (refine fin_eq ?_)
          refine fin_any (fun x9 hx9 => ?_)
          repeat (refine fin_eq ?_)
          refine fin_nil ?_
          (simp only [List.setIfInBounds_toArray, List.set_cons_succ, List.set_cons_zero]; refine wpAny_done (by kernel_rfl) ?_ _)
          go_wp2_with fail
          refine bodyPost_ret (v := .bool false) (by simp [results, Try.results33, go_sem, *]) rfl ⟨by rw [HX.out], HF.out.bw.trans (hbw.mono HF.out.bw.size)⟩
      · have g0 : decide (cmpO (some 0) (some r) < 0) = false := by rw [cmpQ_neg']; exact decide_eq_false h0
        have HX := hide (show nzO (fracOf la ka) (fracOf lb kb) = false by rw [HXX.out, decide_eq_false h0]; simp)
        clear h0 hq HXX
        go_enter Try.func33, Try.ntmps33
        go_upto_region 1 with (fail)
        generalize hW : World.alloc w _ = v
        have HF := hide (show FN w v a b la ka lb kb by rw [← hW]; exact FN.mk0 ha hb _)
        obtain ⟨a0, a1, a2, a3⟩ := HF.out.ca
        have hvz := HF.out.sz
        clear hW ha hb
        apply region_seq 31 [3, 4, 5, 6, 7, 8, 9, 10, 11, 12, 13, 14, 15, 16, 17, 18, 19, 20, 21, 22, 23, 24, 25, 26, 27, 28, 29, 30, 31, 32, 2] [eqV _, eqV _, eqV _, eqV _, eqV _, eqV _, eqV _, eqV _, eqV _, fun x w => ∃ c : Fa, x = .agg #[.slice c.A c.n c.c, .slice c.B c.m c.d] ∧ Fo w c (some 0), eqV _, eqV _, eqV _, eqV _, eqV _, eqV _, eqV _, eqV _, eqV _, eqV _, eqV _, eqV _, eqV _, eqV _, eqV _, eqV _, eqV _, eqV _, eqV _, eqV _, eqV _] [false, false, false, false, false, false, false, false, false, false, false, false, false, false, false, false, false, false, false, false, false, false, false, false, false, false, false, false, false, false, false] (by kernel_rfl) (by decide) rfl rfl rfl (by decide) (by kernel_rfl) (by kernel_rfl) ?stb18 ?steps18 ?fin18
        case stb18 => repeat' (first | exact trivial | apply stb_eq | (exact fun x w w' ⟨c, h1, h2⟩ hb => ⟨c, h1, h2.below hb⟩) | apply And.intro)
        case steps18 =>
          repeat' (first | exact trivial | apply And.intro)
          all_goals
            intro a' w' hbw hdf hoff hdep K hK
            have o1 := hoff 1 rfl
            (have HF2 := hide (HF.out.below hbw); obtain ⟨y0, y1, y2, y3⟩ := HF2.out.ca)
            replace hdep := hdep _ rfl rfl
            simp only [List.getElem_toArray, List.getElem_cons_succ, List.getElem_cons_zero, List.toList_toArray, depAll, getR, eqV, List.getD_cons_succ, List.getD_cons_zero, and_true] at hdep
            simp only [Nat.zero_add, Nat.reduceAdd, getR, eqV, List.getD_cons_succ, List.getD_cons_zero] at hK
            clear hoff hdf
            (try (obtain ⟨⟨c0, h12, HO0⟩, h14, -, hg⟩ := hdep))
            first
              | (refine rg_unwanted rfl rfl rfl (b' := false) (by first | (simp [hdep]; done) | assumption) (by decide) ?_; exact hK _ _ rfl (Below.refl _ _) (by simp))
              | (refine rg_unwanted rfl rfl rfl (b' := true) (by first | (simp [hdep]; done) | assumption) (by decide) ?_; exact hK _ _ rfl (Below.refl _ _) (by simp))
              | (refine rg_wanted rfl rfl rfl (b' := true) (by first | (simp [hdep]; done) | assumption) rfl (fun K' hKK => ?_); go_wp2_with (first | (go_at_call 35; (with_reducible refine (rzchance_any _ a la ka HF2.out.qa).mono ?_); rintro e w1 ⟨rfl, hb⟩; rw [H1.out]) | (go_at_call 35; (with_reducible refine (rzchance_any _ b lb kb HF2.out.qb).mono ?_); rintro e w1 ⟨rfl, hb⟩; rw [H2.out]) | (go_at_call 50; (with_reducible refine (rzof_zero _).mono ?_); rintro e w1 ⟨c1, rfl, ho, hb⟩) | (go_at_call 65; (with_reducible refine (r2cmp_o _ c0 a (some 0) (some r) HO0 (fo_of HF2.out.qa HA.out)).mono ?_); rintro e w1 ⟨rfl, hb⟩)); first | exact hK _ _ rfl (Below.refl _ _) (by simp) | (first | exact hK _ _ rfl hb (by simp) | exact hK _ _ ⟨c1, rfl, ho⟩ hb (by simp)))
              | (refine rg_wanted rfl rfl rfl (b' := false) (by first | (simp [hdep]; done) | assumption) rfl (fun K' hKK => ?_); go_wp2_with (first | (go_at_call 35; (with_reducible refine (rzchance_any _ a la ka HF2.out.qa).mono ?_); rintro e w1 ⟨rfl, hb⟩; rw [H1.out]) | (go_at_call 35; (with_reducible refine (rzchance_any _ b lb kb HF2.out.qb).mono ?_); rintro e w1 ⟨rfl, hb⟩; rw [H2.out]) | (go_at_call 50; (with_reducible refine (rzof_zero _).mono ?_); rintro e w1 ⟨c1, rfl, ho, hb⟩) | (go_at_call 65; (with_reducible refine (r2cmp_o _ c0 a (some 0) (some r) HO0 (fo_of HF2.out.qa HA.out)).mono ?_); rintro e w1 ⟨rfl, hb⟩)); first | exact hK _ _ rfl (Below.refl _ _) (by simp) | (first | exact hK _ _ rfl hb (by simp) | exact hK _ _ ⟨c1, rfl, ho⟩ hb (by simp)))
              | (refine rg_free rfl rfl (fun K' hKK => ?_); fail)
              | (refine rg_free rfl rfl (fun K' hKK => ?_); go_wp2_with (first | (go_at_call 35; (with_reducible refine (rzchance_any _ a la ka HF2.out.qa).mono ?_); rintro e w1 ⟨rfl, hb⟩; rw [H1.out]) | (go_at_call 35; (with_reducible refine (rzchance_any _ b lb kb HF2.out.qb).mono ?_); rintro e w1 ⟨rfl, hb⟩; rw [H2.out]) | (go_at_call 50; (with_reducible refine (rzof_zero _).mono ?_); rintro e w1 ⟨c1, rfl, ho, hb⟩) | (go_at_call 65; (with_reducible refine (r2cmp_o _ c0 a (some 0) (some r) HO0 (fo_of HF2.out.qa HA.out)).mono ?_); rintro e w1 ⟨rfl, hb⟩)); first | exact hK _ _ rfl (Below.refl _ _) (by simp) | (first | exact hK _ _ rfl hb (by simp) | exact hK _ _ ⟨c1, rfl, ho⟩ hb (by simp)))
        intro w' hbw
        repeat (refine fin_eq ?_)
        refine fin_any (fun x9 hx9 => ?_)
        repeat (refine fin_eq ?_)
        refine fin_nil ?_
        (simp only [List.setIfInBounds_toArray, List.set_cons_succ, List.set_cons_zero]; refine wpAny_done (by kernel_rfl) ?_ _)
        go_wp2_with fail
        refine bodyPost_ret (v := .bool false) (by simp [results, Try.results33, go_sem, *]) rfl ⟨by rw [HX.out], HF.out.bw.trans (hbw.mono HF.out.bw.size)⟩
end Go.Proofs.Ytclflfglhbkfkaa

/- Contracts: copied, Fails; the reference's Fails. -/
namespace Go.Proofs.Ytclflfglhbkfkaa
open Go.RowKit

/-- 'append(nil, s...)' as an operation by itself. -/
theorem wp_cp_u32 {w : World} {o : Oper} {a : Act} {K : Act → World → Prop} {Q : Exit → Act → World → Prop} (s x : Operand) (t : TypeId) (ht : Try.prog.underlying t = some (.slice 83))
    (ho : o.op = .call { callee := .builtin .append, args := #[s, x], argTypes := #[t, t] })
    (B : Option Addr) (k d : Nat) (l2 : List Nat) (hs : a.eval s = .slice none 0 0) (hx : a.eval x = .slice B k d) (hU : Ul w none B k l2) (h63 : k ≤ 4294967296)
    (h : ∀ A' c' w', OF w w' A' k c' l2 → K (a.put o.dst (.slice A' k c')) w') : Oper.wp Try.prog o a w K Q := by
  obtain ⟨A', c', w', hr, h3, h4, h5⟩ := run_append_rs (P := Try.prog) w w.heap.size t o.type 83 _ 1 4 ht info83 rfl (by omega) (.slice none 0 0) 0 [] (World.ownsRow_nil _ _ _ _) B k d l2 hU.1 hU.len uv_len uv_one (by omega) (by omega) (Nat.le_refl _)
  unfold Oper.wp
  simp only [execOp, ho, resolve, invoke, builtin, hs, hx, hr, Result.andThen, Sem.run_bind, Sem.run_pure, List.map_toArray, List.map_cons, List.map_nil, Oper.upon]
  rw [Nat.zero_add]
  rw [Nat.zero_add] at h3
  exact h A' c' w' ⟨h3, hU.len, hU.ok, (Fr.refl w _).grown h4 (by simp [Value.ownBlock])⟩
set_option maxRecDepth 100000 in
set_option maxHeartbeats 8000000 in
theorem ncopied_any (w : World) (a : Fa) (r : Rat) (ha : Fo w a (some r)) :
    Calls Try.prog 63 #[.agg #[.slice a.A a.n a.c, .slice a.B a.m a.d]] w fun e w' => Ret1 w (some r) e w' := by
  go_enter Try.func63, Try.ntmps63
  go_upto_region 1 with (fail)
  generalize hW : World.alloc (World.alloc w _) _ = v
  have HF := hide (show F1 w v a (lm (rn r)) (lm r.den) by rw [← hW]; exact F1.mk0 ha.1 _ _)
  have HN := hide (Nat.le_trans ha.small.1 (by omega : 128 ≤ 9223372036854775807))
  have HM := hide (Nat.le_trans ha.small.2 (by omega : 128 ≤ 9223372036854775807))
  have hn128 := ha.small.1
  have hm128 := ha.small.2
  have HOK := hide ha.2
  obtain ⟨a0, a1, az, r0, r1, rf⟩ := HF.out.ca
  clear hW ha
  apply region_seq 7 [3, 4, 5, 6, 7, 8, 9] [eqV _, eqV _, (fun x w => ∃ A' c', x = .slice A' a.n c' ∧ a.n ≤ c' ∧ Ul w none A' a.n (lm (rn r))), eqV _, eqV _, (fun x w => ∃ A' c', x = .slice A' a.m c' ∧ a.m ≤ c' ∧ Ul w none A' a.m (lm r.den)), (fun x w => ∃ c : Fa, x = .agg #[.slice c.A c.n c.c, .slice c.B c.m c.d] ∧ Fo w c (some r))] [false, false, false, false, false, false, false] (by kernel_rfl) (by decide) rfl rfl rfl (by decide) (by kernel_rfl) (by kernel_rfl) ?stb1 ?steps1 ?fin1
  case stb1 => repeat' (first | exact trivial | apply stb_eq | (first | exact fun x w w' ⟨A, c, h1, h2, h3⟩ hb => ⟨A, c, h1, h2, h3.below hb⟩ | exact fun x w w' ⟨c, h1, h2⟩ hb => ⟨c, h1, h2.below hb⟩) | apply And.intro)
  case steps1 =>
    repeat' (first | exact trivial | apply And.intro)
    all_goals
      intro a' w' hbw hdf hoff hdep K hK
      have o1 := hoff 1 rfl
      (have HF2 := hide (HF.out.below hbw); obtain ⟨y0, y1, -⟩ := HF2.out.ca)
      replace hdep := hdep _ rfl rfl
      simp only [List.getElem_toArray, List.getElem_cons_succ, List.getElem_cons_zero, List.toList_toArray, depAll, getR, eqV, List.getD_cons_succ, List.getD_cons_zero, and_true] at hdep
      simp only [Nat.zero_add, Nat.reduceAdd, getR, eqV, List.getD_cons_succ, List.getD_cons_zero] at hK
      clear hoff hdf
      (try (obtain ⟨⟨A', c', h5, hc', hu'⟩, A2, c2, h8, hc2, hu2⟩ := hdep; simp only [Array.getD_eq_getD_getElem?] at h5 h8))
      first
        | (refine rg_unwanted rfl rfl rfl (b' := false) (by first | (simp [hdep]; done) | assumption) (by decide) ?_; exact hK _ _ rfl (Below.refl _ _) (by simp))
        | (refine rg_unwanted rfl rfl rfl (b' := true) (by first | (simp [hdep]; done) | assumption) (by decide) ?_; exact hK _ _ rfl (Below.refl _ _) (by simp))
        | (refine rg_wanted rfl rfl rfl (b' := true) (by first | (simp [hdep]; done) | assumption) rfl (fun K' hKK => ?_); go_wp2_with (fail); first | exact hK _ _ rfl (Below.refl _ _) (by simp) | exact hK _ _ ⟨⟨A', a.n, c', A2, a.m, c2⟩, rfl, ⟨⟨hu', hu2, hc', hc2, HN.out, HM.out⟩, HOK.out⟩⟩ (Below.refl _ _) (by simp))
        | (refine rg_wanted rfl rfl rfl (b' := false) (by first | (simp [hdep]; done) | assumption) rfl (fun K' hKK => ?_); go_wp2_with (fail); first | exact hK _ _ rfl (Below.refl _ _) (by simp) | exact hK _ _ ⟨⟨A', a.n, c', A2, a.m, c2⟩, rfl, ⟨⟨hu', hu2, hc', hc2, HN.out, HM.out⟩, HOK.out⟩⟩ (Below.refl _ _) (by simp))
        | (refine rg_free rfl rfl (fun K' hKK => ?_); (first | (refine wp_cp_u32 _ _ 24 rfl rfl a.A a.n a.c (lm (rn r)) rfl hdep HF2.out.q.u (by omega) ?_; exact fun A' c' w2 hO => hKK _ _ (hK _ _ ⟨A', c', rfl, hO.cap, hO.ul⟩ (hO.fr.below (Nat.le_refl _) (fun _ _ h => h)) (by simp))) | (refine wp_cp_u32 _ _ 24 rfl rfl a.B a.m a.d (lm r.den) rfl hdep.1 HF2.out.q.v (by omega) ?_; exact fun A' c' w2 hO => hKK _ _ (hK _ _ ⟨A', c', rfl, hO.cap, hO.ul⟩ (hO.fr.below (Nat.le_refl _) (fun _ _ h => h)) (by simp)))))
        | (refine rg_free rfl rfl (fun K' hKK => ?_); go_wp2_with (fail); first | exact hK _ _ rfl (Below.refl _ _) (by simp) | exact hK _ _ ⟨⟨A', a.n, c', A2, a.m, c2⟩, rfl, ⟨⟨hu', hu2, hc', hc2, HN.out, HM.out⟩, HOK.out⟩⟩ (Below.refl _ _) (by simp))
  intro w' hbw
  repeat (refine fin_eq ?_)
  refine fin_any (fun x2 hx2 => ?_)
  repeat (refine fin_eq ?_)
  refine fin_any (fun x5 hx5 => ?_)
  refine fin_any (fun x6 hx6 => ?_)
  obtain ⟨c, rfl, ho⟩ := hx6
  have HO := hide ho
  have HF2 := hide (HF.out.below hbw)
  obtain ⟨y0, y1, yz, s0, s1, sf⟩ := HF2.out.ca
  clear ho hx2 hx5
  refine fin_nil ?_
  simp only [List.setIfInBounds_toArray, List.set_cons_succ, List.set_cons_zero]
  refine wpAny_one (i := 7) (by kernel_rfl) ?_
  refine rg_free rfl rfl (fun K' hKK => ?_)
  go_wp2_with fail
  refine wpAny_done (by kernel_rfl) ?_ _
  go_wp2_with fail
  refine bodyPost_ret (v := .agg #[.slice c.A c.n c.c, .slice c.B c.m c.d]) (by simp [results, Try.results63, go_sem, *]) rfl ⟨c, rfl, HO.out.put2 HF2.out.rb.nb _ _ (by simp), Rb.end0 HF2.out.bw (by omega) _ _⟩
/-- What Fails returns. -/
def flR (x y : Option Rat) (bad : Bool) : Option Rat × Int := if nzO x y = true then (if bad then y else x, 0) else (none, 1)
set_option maxRecDepth 100000 in
set_option maxHeartbeats 8000000 in
theorem rzfails_any (w : World) (a b : Fa) (la ka lb kb : List Nat) (bad : Bool) (ha : Fq w a la ka) (hb : Fq w b lb kb) :
    Calls Try.prog 31 #[.agg #[.slice a.A a.n a.c, .slice a.B a.m a.d, .slice b.A b.n b.c, .slice b.B b.m b.d], .bool bad] w fun e w' => Ret w (flR (fracOf la ka) (fracOf lb kb) bad) e w' := by
  rcases hz : nzO (fracOf la ka) (fracOf lb kb)
  · skip
    have HZ := hide hz
    have HX := hide (show flR (fracOf la ka) (fracOf lb kb) bad = (none, 1) by unfold flR; rw [if_neg (by rw [hz]; simp)])
    clear hz
    go_enter Try.func31, Try.ntmps31
    go_upto_region 1 with (fail)
    generalize hW : World.alloc (World.alloc w _) _ = v
    have HF := hide (show FN w v a b la ka lb kb by rw [← hW]; exact (FN.mk0 ha hb _).below ((Below.refl _ _).alloc (Nat.le_refl _) _))
    have HR := hide (show Rb v (w.heap.size + 1) by rw [← hW]; exact Rb.mk0 _ (by simp))
    obtain ⟨a0, a1, a2, a3⟩ := HF.out.ca
    obtain ⟨r0, r1, rf, rz, -⟩ := HR.out
    clear hW ha hb
    go_wp2_with (go_at_call 33; (with_reducible refine (rzcheck_any _ a b la ka lb kb HF.out.qa HF.out.qb).mono ?_); rintro e w1 ⟨rfl, hb⟩; rw [HZ.out]; have HF1 := hide (HF.out.below hb); have HR1 := hide (HR.out.below hb); obtain ⟨y0, y1, y2, y3⟩ := HF1.out.ca; obtain ⟨s0, s1, sf, sz, -⟩ := HR1.out; clear hb)
    refine bodyPost_ret (v := .tuple #[.agg #[.slice none 0 0, .slice none 0 0], .int .i64 1]) (by simp [results, Try.results31, go_sem, *]) rfl (Ret.err0 HX.out HR1.out HF1.out.bw (by omega))
  · obtain ⟨r, hA⟩ : ∃ r, fracOf la ka = some r := by cases h : fracOf la ka with | none => rw [h] at hz; cases hz | some r => exact ⟨r, rfl⟩
    obtain ⟨s, hB⟩ : ∃ s, fracOf lb kb = some s := by cases h : fracOf lb kb with | none => rw [hA, h] at hz; cases hz | some r => exact ⟨r, rfl⟩
    have HA := hide hA
    have HB := hide hB
    have HZ := hide hz
    have HX := hide (show flR (fracOf la ka) (fracOf lb kb) bad = (if bad then some s else some r, 0) by unfold flR; rw [if_pos hz, hA, hB])
    clear hz hA hB
    go_enter Try.func31, Try.ntmps31
    go_upto_region 1 with (fail)
    generalize hW : World.alloc (World.alloc w _) _ = v
    have HF := hide (show FN w v a b la ka lb kb by rw [← hW]; exact (FN.mk0 ha hb _).below ((Below.refl _ _).alloc (Nat.le_refl _) _))
    have HR := hide (show Rb v (w.heap.size + 1) by rw [← hW]; exact Rb.mk0 _ (by simp))
    obtain ⟨a0, a1, a2, a3⟩ := HF.out.ca
    obtain ⟨r0, r1, rf, rz, -⟩ := HR.out
    clear hW ha hb
    cases bad
    · go_wp2_with (go_at_call 33; (with_reducible refine (rzcheck_any _ a b la ka lb kb HF.out.qa HF.out.qb).mono ?_); rintro e w1 ⟨rfl, hb⟩; rw [HZ.out]; have HF1 := hide (HF.out.below hb); have HR1 := hide (HR.out.below hb); obtain ⟨y0, y1, y2, y3⟩ := HF1.out.ca; obtain ⟨s0, s1, sf, sz, -⟩ := HR1.out; clear hb)
      refine bodyPost_ret (v := .tuple #[.agg #[.slice a.A a.n a.c, .slice a.B a.m a.d], .int .i64 0]) (by simp [results, Try.results31, go_sem, *]) rfl (Ret.mk0 (by rw [HX.out]) (by rw [HX.out]; exact fo_of HF1.out.qa HA.out) HR1.out HF1.out.bw (by omega))
    · go_wp2_with (go_at_call 33; (with_reducible refine (rzcheck_any _ a b la ka lb kb HF.out.qa HF.out.qb).mono ?_); rintro e w1 ⟨rfl, hb⟩; rw [HZ.out]; have HF1 := hide (HF.out.below hb); have HR1 := hide (HR.out.below hb); obtain ⟨y0, y1, y2, y3⟩ := HF1.out.ca; obtain ⟨s0, s1, sf, sz, -⟩ := HR1.out; clear hb)
      refine bodyPost_ret (v := .tuple #[.agg #[.slice b.A b.n b.c, .slice b.B b.m b.d], .int .i64 0]) (by simp [results, Try.results31, go_sem, *]) rfl (Ret.mk0 (by rw [HX.out]) (by rw [HX.out]; exact fo_of HF1.out.qb HB.out) HR1.out HF1.out.bw (by omega))
set_option maxRecDepth 100000 in
set_option maxHeartbeats 8000000 in
theorem nfails_any (w : World) (a b : Fa) (la ka lb kb : List Nat) (bad : Bool) (ha : Fq w a la ka) (hb : Fq w b lb kb) :
    Calls Try.prog 30 #[.agg #[.slice a.A a.n a.c, .slice a.B a.m a.d, .slice b.A b.n b.c, .slice b.B b.m b.d], .bool bad] w fun e w' => Ret w (flR (fracOf la ka) (fracOf lb kb) bad) e w' := by
  rcases hz : nzO (fracOf la ka) (fracOf lb kb)
  · skip
    have HZ := hide hz
    have HX := hide (show flR (fracOf la ka) (fracOf lb kb) bad = (none, 1) by unfold flR; rw [if_neg (by rw [hz]; simp)])
    clear hz
    go_enter Try.func30, Try.ntmps30
    go_upto_region 1 with (fail)
    generalize hW : World.alloc (World.alloc w _) _ = v
    have HF := hide (show FN w v a b la ka lb kb by rw [← hW]; exact (FN.mk0 ha hb _).below ((Below.refl _ _).alloc (Nat.le_refl _) _))
    have HR := hide (show Rb v (w.heap.size + 1) by rw [← hW]; exact Rb.mk0 _ (by simp))
    obtain ⟨a0, a1, a2, a3⟩ := HF.out.ca
    obtain ⟨r0, r1, rf, rz, -⟩ := HR.out
    clear hW ha hb
    go_wp2_with (go_at_call 32; (with_reducible refine (nzcheck_any _ a b la ka lb kb HF.out.qa HF.out.qb).mono ?_); rintro e w1 ⟨rfl, hb⟩; rw [HZ.out]; have HF1 := hide (HF.out.below hb); have HR1 := hide (HR.out.below hb); obtain ⟨y0, y1, y2, y3⟩ := HF1.out.ca; obtain ⟨s0, s1, sf, sz, -⟩ := HR1.out; clear hb)
    refine bodyPost_ret (v := .tuple #[.agg #[.slice none 0 0, .slice none 0 0], .int .i64 1]) (by simp [results, Try.results30, go_sem, *]) rfl (Ret.err0 HX.out HR1.out HF1.out.bw (by omega))
  · obtain ⟨r, hA⟩ : ∃ r, fracOf la ka = some r := by cases h : fracOf la ka with | none => rw [h] at hz; cases hz | some r => exact ⟨r, rfl⟩
    obtain ⟨s, hB⟩ : ∃ s, fracOf lb kb = some s := by cases h : fracOf lb kb with | none => rw [hA, h] at hz; cases hz | some r => exact ⟨r, rfl⟩
    have HA := hide hA
    have HB := hide hB
    have HZ := hide hz
    have HX := hide (show flR (fracOf la ka) (fracOf lb kb) bad = (if bad then some s else some r, 0) by unfold flR; rw [if_pos hz, hA, hB])
    clear hz hA hB
    go_enter Try.func30, Try.ntmps30
    go_upto_region 1 with (fail)
    generalize hW : World.alloc (World.alloc w _) _ = v
    have HF := hide (show FN w v a b la ka lb kb by rw [← hW]; exact (FN.mk0 ha hb _).below ((Below.refl _ _).alloc (Nat.le_refl _) _))
    have HR := hide (show Rb v (w.heap.size + 1) by rw [← hW]; exact Rb.mk0 _ (by simp))
    obtain ⟨a0, a1, a2, a3⟩ := HF.out.ca
    obtain ⟨r0, r1, rf, rz, -⟩ := HR.out
    clear hW ha hb
    cases bad
    · go_wp2_with (first | (go_at_call 32; (with_reducible refine (nzcheck_any _ a b la ka lb kb HF.out.qa HF.out.qb).mono ?_); rintro e w1 ⟨rfl, hb⟩; rw [HZ.out]; have HF1 := hide (HF.out.below hb); have HR1 := hide (HR.out.below hb); obtain ⟨y0, y1, y2, y3⟩ := HF1.out.ca; obtain ⟨s0, s1, sf, sz, -⟩ := HR1.out; clear hb) | (go_at_call 63; (with_reducible refine (ncopied_any _ a r (fo_of HF1.out.qa HA.out)).mono ?_); rintro e w2 ⟨c, rfl, ho, hb⟩; have HO := hide ho; have HF2 := hide (HF1.out.below hb); have HR2 := hide (HR1.out.below hb); obtain ⟨t0, t1, tf, tz, -⟩ := HR2.out; clear ho hb))
      refine bodyPost_ret (v := .tuple #[.agg #[.slice c.A c.n c.c, .slice c.B c.m c.d], .int .i64 0]) (by simp [results, Try.results30, go_sem, *]) rfl (Ret.mk0 (by rw [HX.out]) (by rw [HX.out]; exact HO.out) HR2.out HF2.out.bw (by omega))
    · go_wp2_with (first | (go_at_call 32; (with_reducible refine (nzcheck_any _ a b la ka lb kb HF.out.qa HF.out.qb).mono ?_); rintro e w1 ⟨rfl, hb⟩; rw [HZ.out]; have HF1 := hide (HF.out.below hb); have HR1 := hide (HR.out.below hb); obtain ⟨y0, y1, y2, y3⟩ := HF1.out.ca; obtain ⟨s0, s1, sf, sz, -⟩ := HR1.out; clear hb) | (go_at_call 63; (with_reducible refine (ncopied_any _ b s (fo_of HF1.out.qb HB.out)).mono ?_); rintro e w2 ⟨c, rfl, ho, hb⟩; have HO := hide ho; have HF2 := hide (HF1.out.below hb); have HR2 := hide (HR1.out.below hb); obtain ⟨t0, t1, tf, tz, -⟩ := HR2.out; clear ho hb))
      refine bodyPost_ret (v := .tuple #[.agg #[.slice c.A c.n c.c, .slice c.B c.m c.d], .int .i64 0]) (by simp [results, Try.results30, go_sem, *]) rfl (Ret.mk0 (by rw [HX.out]) (by rw [HX.out]; exact HO.out) HR2.out HF2.out.bw (by omega))
end Go.Proofs.Ytclflfglhbkfkaa

/- Plain laws: the reference's sums count what the program's count. -/
namespace Go.Proofs.Ytclflfglhbkfkaa
open Go.RowKit

theorem sm_congr {r : Rat} {N : Nat} {f g : Nat → Bool} : ∀ {m : Nat}, (∀ j, j < m → f j = g j) → sm r N f m = sm r N g m
  | 0, _ => rfl
  | m + 1, h => by
    show sm r N f m + (if f m = true then tm r N m else 0) = sm r N g m + (if g m = true then tm r N m else 0)
    rw [sm_congr (fun j hj => h j (by omega)), h m (by omega)]
theorem tot_congr {r : Rat} {N : Nat} {f g : Nat → Bool} (h : ∀ j, j ≤ N → f j = g j) : tot r N f = tot r N g :=
  sm_congr (fun j hj => h j (by omega))
theorem totR_congr {o : Option Rat} {n : Int} {f g : Nat → Bool} (h : ∀ j : Nat, (j : Int) ≤ n → f j = g j) : totR o n f = totR o n g := by
  unfold totR
  split
  · split
    · rfl
    · cases o with
      | none => rfl
      | some r =>
        show (some (tot r n.toNat f), (0 : Int)) = (some (tot r n.toNat g), 0)
        rw [tot_congr (fun j hj => h j (by omega))]
  · rfl
theorem totR_ge (o : Option Rat) (n m : Int) : totR o n (btw m n) = totR o n (fun j => decide (m ≤ (j : Int))) :=
  totR_congr (fun j hj => by simp [btw, hj])
theorem totR_le (o : Option Rat) (n m : Int) : totR o n (btw 0 m) = totR o n (fun j => decide ((j : Int) ≤ m)) :=
  totR_congr (fun j hj => by simp [btw])
end Go.Proofs.Ytclflfglhbkfkaa
