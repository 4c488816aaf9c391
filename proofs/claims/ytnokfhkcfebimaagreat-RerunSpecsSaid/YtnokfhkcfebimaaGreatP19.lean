/- Contracts of the functions that these laws reach: part 19: Contracts: the reference's inner, Check of a specification; Contracts: sequential.power, ratio. -/
import Derived.Test.YtnokfhkcfebimaaGreatP18
set_option linter.unusedVariables false
set_option linter.unusedSimpArgs false

/- Contracts: the reference's inner, Check of a specification. -/
namespace Go.Proofs.YtnokfhkcfebimaaGreat
open Go.RowKit

theorem cmpQ_pos {r s : Rat} : 0 < cmpQ r s ↔ s < r := by
  unfold cmpQ
  by_cases h1 : r < s
  · rw [if_pos h1]
    exact ⟨fun h => by omega, fun h => absurd h (Rat.not_lt.2 (Rat.le_of_lt h1))⟩
  · rw [if_neg h1]
    by_cases h2 : r = s
    · rw [if_pos h2]; subst h2; exact ⟨fun h => by omega, fun h => absurd h Rat.lt_irrefl⟩
    · rw [if_neg h2]
      exact ⟨fun _ => Rat.lt_of_le_of_ne (Rat.not_lt.1 h1) (fun e => h2 e.symm), fun _ => by omega⟩
set_option maxRecDepth 100000 in
set_option maxHeartbeats 8000000 in
theorem qinner_any (w : World) (a : Fa) (l k : List Nat) (hq : Fq w a l k) :
    Calls Tryz.prog 82 #[.agg #[.slice a.A a.n a.c, .slice a.B a.m a.d]] w fun e w' => e = .returned (.bool (innO (fracOf l k))) ∧ Below w.heap.size w w' := by
  rcases h1 : chO (fracOf l k)
  · have H1 := hide h1
    have HX := hide (innO_no h1)
    clear h1
    go_enter Tryz.func82, Tryz.ntmps82
    go_upto_region 1 with (fail)
    generalize hW : World.alloc w _ = v
    have HB := hide (show Cb v w.heap.size [.slice a.A a.n a.c, .slice a.B a.m a.d] by rw [← hW]; exact Cb.mk0 _ (by simp) _ rfl)
    have HQ0 := hide (show Fq v a l k by rw [← hW]; exact hq.alloc _)
    have HBV := hide (show Below w.heap.size w v by rw [← hW]; exact (Below.refl _ _).alloc (Nat.le_refl _) _)
    clear hW hq
    apply region_seq 15 [3, 4, 5, 6, 7, 8, 9, 10, 11, 12, 13, 14, 15, 16, 2] [eqV _, eqV _, eqV _, eqV _, eqV _, eqV _, eqV _, eqV _, eqV _, eqV _, eqV _, eqV _, eqV _, eqV _, eqV _] [false, false, false, false, false, false, false, false, false, false, false, false, false, false, false] (by kernel_rfl) (by decide) rfl rfl rfl (by decide) (by kernel_rfl) (by kernel_rfl) ?stb15 ?steps15 ?fin15
    case stb15 => repeat' (first | exact trivial | apply stb_eq | fail | apply And.intro)
    case steps15 =>
      repeat' (first | exact trivial | apply And.intro)
      all_goals
        intro a' w' hbw hdf hoff hdep K hK
        have o1 := hoff 1 rfl
        (have HC := hide (HB.out.below hbw); have HQ := hide (HQ0.out.below hbw); have y0 := HC.out.cell 0 _ rfl; have y1 := HC.out.cell 1 _ rfl)
        replace hdep := hdep _ rfl
        simp only [List.getElem_toArray, List.getElem_cons_succ, List.getElem_cons_zero, List.toList_toArray, depAll, binds_data, binds_chain, binds_guard, binds_phase, binds_text, binds_gc, cond_true, cond_false, true_and, getR, eqV, List.getD_cons_succ, List.getD_cons_zero, and_true] at hdep
        simp only [Nat.zero_add, Nat.reduceAdd, getR, eqV, List.getD_cons_succ, List.getD_cons_zero] at hK
        clear hoff hdf
        skip
        first
          | (refine rg_unwanted rfl rfl rfl (b' := false) (by first | (simp [hdep]; done) | assumption) (by decide) ?_; exact hK _ _ rfl (Below.refl _ _) (by simp))
          | (refine rg_unwanted rfl rfl rfl (b' := true) (by first | (simp [hdep]; done) | assumption) (by decide) ?_; exact hK _ _ rfl (Below.refl _ _) (by simp))
          | (refine rg_wanted rfl rfl rfl (b' := true) (by first | (simp [hdep]; done) | assumption) rfl (fun K' hKK => ?_); go_wp2_with (go_at_call 46; (with_reducible refine (rzchance_any _ a l k HQ.out).mono ?_); rintro e w1 ⟨rfl, hb⟩; rw [H1.out]); first | exact hK _ _ rfl (Below.refl _ _) (by simp) | exact hK _ _ rfl hb (by simp))
          | (refine rg_wanted rfl rfl rfl (b' := false) (by first | (simp [hdep]; done) | assumption) rfl (fun K' hKK => ?_); go_wp2_with (go_at_call 46; (with_reducible refine (rzchance_any _ a l k HQ.out).mono ?_); rintro e w1 ⟨rfl, hb⟩; rw [H1.out]); first | exact hK _ _ rfl (Below.refl _ _) (by simp) | exact hK _ _ rfl hb (by simp))
          | (refine rg_free rfl rfl (fun K' hKK => ?_); fail)
          | (refine rg_free rfl rfl (fun K' hKK => ?_); go_wp2_with (go_at_call 46; (with_reducible refine (rzchance_any _ a l k HQ.out).mono ?_); rintro e w1 ⟨rfl, hb⟩; rw [H1.out]); first | exact hK _ _ rfl (Below.refl _ _) (by simp) | exact hK _ _ rfl hb (by simp))
    intro w' hbw
    repeat (refine fin_eq ?_)
    refine fin_nil ?_
    (simp only [List.setIfInBounds_toArray, List.set_cons_succ, List.set_cons_zero]; refine wpAny_done (by kernel_rfl) ?_ _)
    go_wp2_with fail
    refine bodyPost_ret (v := .bool false) (by simp [results, Tryz.results82, go_sem, *]) rfl ⟨by rw [HX.out], HBV.out.trans (hbw.mono HBV.out.size)⟩
  · obtain ⟨r, hA⟩ := chO_some h1
    have HA := hide hA
    have H1 := hide h1
    have HXX := hide (show innO (fracOf l k) = (decide (0 < r) && decide (r < 1)) by rw [hA] at h1 ⊢; exact innO_some h1)
    clear hA h1
    by_cases h0 : 0 < r
    · have g0 : decide (0 < cmpO (some r) (some 0)) = true := decide_eq_true (cmpQ_pos.2 h0)
      have HX := hide (show innO (fracOf l k) = decide (cmpO (some r) (some 1) < 0) by rw [HXX.out, decide_eq_true h0, cmp_lt]; simp [ltO])
      clear h0 HXX
      go_enter Tryz.func82, Tryz.ntmps82
      go_upto_region 1 with (fail)
      generalize hW : World.alloc w _ = v
      have HB := hide (show Cb v w.heap.size [.slice a.A a.n a.c, .slice a.B a.m a.d] by rw [← hW]; exact Cb.mk0 _ (by simp) _ rfl)
      have HQ0 := hide (show Fq v a l k by rw [← hW]; exact hq.alloc _)
      have HBV := hide (show Below w.heap.size w v by rw [← hW]; exact (Below.refl _ _).alloc (Nat.le_refl _) _)
      clear hW hq
      apply region_seq 15 [3, 4, 5, 6, 7, 8, 9, 10, 11, 12, 13, 14, 15, 16, 2] [eqV _, eqV _, eqV _, eqV _, fun x w => ∃ c : Fa, x = .agg #[.slice c.A c.n c.c, .slice c.B c.m c.d] ∧ Fo w c (some 0), eqV _, eqV _, eqV _, eqV _, eqV _, fun x w => ∃ c : Fa, x = .agg #[.slice c.A c.n c.c, .slice c.B c.m c.d] ∧ Fo w c (some 1), eqV _, eqV _, eqV _, eqV _] [false, false, false, false, false, false, false, false, false, false, false, false, false, false, false] (by kernel_rfl) (by decide) rfl rfl rfl (by decide) (by kernel_rfl) (by kernel_rfl) ?stb16 ?steps16 ?fin16
      case stb16 => repeat' (first | exact trivial | apply stb_eq | (exact fun x w w' ⟨c, h1, h2⟩ hb => ⟨c, h1, h2.below hb⟩) | apply And.intro)
      case steps16 =>
        repeat' (first | exact trivial | apply And.intro)
        all_goals
          intro a' w' hbw hdf hoff hdep K hK
          have o1 := hoff 1 rfl
          (have HC := hide (HB.out.below hbw); have HQ := hide (HQ0.out.below hbw); have y0 := HC.out.cell 0 _ rfl; have y1 := HC.out.cell 1 _ rfl)
          replace hdep := hdep _ rfl
          simp only [List.getElem_toArray, List.getElem_cons_succ, List.getElem_cons_zero, List.toList_toArray, depAll, binds_data, binds_chain, binds_guard, binds_phase, binds_text, binds_gc, cond_true, cond_false, true_and, getR, eqV, List.getD_cons_succ, List.getD_cons_zero, and_true] at hdep
          simp only [Nat.zero_add, Nat.reduceAdd, getR, eqV, List.getD_cons_succ, List.getD_cons_zero] at hK
          clear hoff hdf
          (first | (obtain ⟨h6, ⟨c0, h7, HO0⟩, -, hg⟩ := hdep) | skip)
          first
            | (refine rg_unwanted rfl rfl rfl (b' := false) (by first | (simp [hdep]; done) | assumption) (by decide) ?_; exact hK _ _ rfl (Below.refl _ _) (by simp))
            | (refine rg_unwanted rfl rfl rfl (b' := true) (by first | (simp [hdep]; done) | assumption) (by decide) ?_; exact hK _ _ rfl (Below.refl _ _) (by simp))
            | (refine rg_wanted rfl rfl rfl (b' := true) (by first | (simp [hdep]; done) | assumption) rfl (fun K' hKK => ?_); go_wp2_with (first | (go_at_call 46; (with_reducible refine (rzchance_any _ a l k HQ.out).mono ?_); rintro e w1 ⟨rfl, hb⟩; rw [H1.out]) | (go_at_call 48; (with_reducible refine (rzof_zero _).mono ?_); rintro e w1 ⟨c1, rfl, ho, hb⟩) | (go_at_call 83; (with_reducible refine (r2cmp_o _ a c0 (some r) (some 0) (fo_of HQ.out HA.out) HO0).mono ?_); rintro e w1 ⟨rfl, hb⟩) | (go_at_call 48; (with_reducible refine (rzof_one _).mono ?_); rintro e w1 ⟨c1, rfl, ho, hb⟩) | (go_at_call 83; (with_reducible refine (r2cmp_o _ a c0 (some r) (some 1) (fo_of HQ.out HA.out) HO0).mono ?_); rintro e w1 ⟨rfl, hb⟩)); first | exact hK _ _ rfl (Below.refl _ _) (by simp) | (first | exact hK _ _ rfl hb (by simp) | exact hK _ _ ⟨c1, rfl, ho⟩ hb (by simp)))
            | (refine rg_wanted rfl rfl rfl (b' := false) (by first | (simp [hdep]; done) | assumption) rfl (fun K' hKK => ?_); go_wp2_with (first | (go_at_call 46; (with_reducible refine (rzchance_any _ a l k HQ.out).mono ?_); rintro e w1 ⟨rfl, hb⟩; rw [H1.out]) | (go_at_call 48; (with_reducible refine (rzof_zero _).mono ?_); rintro e w1 ⟨c1, rfl, ho, hb⟩) | (go_at_call 83; (with_reducible refine (r2cmp_o _ a c0 (some r) (some 0) (fo_of HQ.out HA.out) HO0).mono ?_); rintro e w1 ⟨rfl, hb⟩) | (go_at_call 48; (with_reducible refine (rzof_one _).mono ?_); rintro e w1 ⟨c1, rfl, ho, hb⟩) | (go_at_call 83; (with_reducible refine (r2cmp_o _ a c0 (some r) (some 1) (fo_of HQ.out HA.out) HO0).mono ?_); rintro e w1 ⟨rfl, hb⟩)); first | exact hK _ _ rfl (Below.refl _ _) (by simp) | (first | exact hK _ _ rfl hb (by simp) | exact hK _ _ ⟨c1, rfl, ho⟩ hb (by simp)))
            | (refine rg_free rfl rfl (fun K' hKK => ?_); fail)
            | (refine rg_free rfl rfl (fun K' hKK => ?_); go_wp2_with (first | (go_at_call 46; (with_reducible refine (rzchance_any _ a l k HQ.out).mono ?_); rintro e w1 ⟨rfl, hb⟩; rw [H1.out]) | (go_at_call 48; (with_reducible refine (rzof_zero _).mono ?_); rintro e w1 ⟨c1, rfl, ho, hb⟩) | (go_at_call 83; (with_reducible refine (r2cmp_o _ a c0 (some r) (some 0) (fo_of HQ.out HA.out) HO0).mono ?_); rintro e w1 ⟨rfl, hb⟩) | (go_at_call 48; (with_reducible refine (rzof_one _).mono ?_); rintro e w1 ⟨c1, rfl, ho, hb⟩) | (go_at_call 83; (with_reducible refine (r2cmp_o _ a c0 (some r) (some 1) (fo_of HQ.out HA.out) HO0).mono ?_); rintro e w1 ⟨rfl, hb⟩)); first | exact hK _ _ rfl (Below.refl _ _) (by simp) | (first | exact hK _ _ rfl hb (by simp) | exact hK _ _ ⟨c1, rfl, ho⟩ hb (by simp)))
      intro w' hbw
      repeat (refine fin_eq ?_)
      refine fin_any (fun x4 hx4 => ?_)
      repeat (refine fin_eq ?_)
      refine fin_any (fun x10 hx10 => ?_)
      repeat (refine fin_eq ?_)
      refine fin_nil ?_
      (simp only [List.setIfInBounds_toArray, List.set_cons_succ, List.set_cons_zero]; refine wpAny_done (by kernel_rfl) ?_ _)
      go_wp2_with fail
      refine bodyPost_ret (v := .bool (decide (cmpO (some r) (some 1) < 0))) (by simp [results, Tryz.results82, go_sem, *]) rfl ⟨by rw [HX.out], HBV.out.trans (hbw.mono HBV.out.size)⟩
    · have g0 : decide (0 < cmpO (some r) (some 0)) = false := decide_eq_false (fun h => h0 (cmpQ_pos.1 h))
      have HX := hide (show innO (fracOf l k) = false by rw [HXX.out, decide_eq_false h0]; rfl)
      clear h0 HXX
      go_enter Tryz.func82, Tryz.ntmps82
      go_upto_region 1 with (fail)
      generalize hW : World.alloc w _ = v
      have HB := hide (show Cb v w.heap.size [.slice a.A a.n a.c, .slice a.B a.m a.d] by rw [← hW]; exact Cb.mk0 _ (by simp) _ rfl)
      have HQ0 := hide (show Fq v a l k by rw [← hW]; exact hq.alloc _)
      have HBV := hide (show Below w.heap.size w v by rw [← hW]; exact (Below.refl _ _).alloc (Nat.le_refl _) _)
      clear hW hq
      apply region_seq 15 [3, 4, 5, 6, 7, 8, 9, 10, 11, 12, 13, 14, 15, 16, 2] [eqV _, eqV _, eqV _, eqV _, fun x w => ∃ c : Fa, x = .agg #[.slice c.A c.n c.c, .slice c.B c.m c.d] ∧ Fo w c (some 0), eqV _, eqV _, eqV _, eqV _, eqV _, eqV _, eqV _, eqV _, eqV _, eqV _] [false, false, false, false, false, false, false, false, false, false, false, false, false, false, false] (by kernel_rfl) (by decide) rfl rfl rfl (by decide) (by kernel_rfl) (by kernel_rfl) ?stb17 ?steps17 ?fin17
      case stb17 => repeat' (first | exact trivial | apply stb_eq | (exact fun x w w' ⟨c, h1, h2⟩ hb => ⟨c, h1, h2.below hb⟩) | apply And.intro)
      case steps17 =>
        repeat' (first | exact trivial | apply And.intro)
        all_goals
          intro a' w' hbw hdf hoff hdep K hK
          have o1 := hoff 1 rfl
          (have HC := hide (HB.out.below hbw); have HQ := hide (HQ0.out.below hbw); have y0 := HC.out.cell 0 _ rfl; have y1 := HC.out.cell 1 _ rfl)
          replace hdep := hdep _ rfl
          simp only [List.getElem_toArray, List.getElem_cons_succ, List.getElem_cons_zero, List.toList_toArray, depAll, binds_data, binds_chain, binds_guard, binds_phase, binds_text, binds_gc, cond_true, cond_false, true_and, getR, eqV, List.getD_cons_succ, List.getD_cons_zero, and_true] at hdep
          simp only [Nat.zero_add, Nat.reduceAdd, getR, eqV, List.getD_cons_succ, List.getD_cons_zero] at hK
          clear hoff hdf
          (first | (obtain ⟨h6, ⟨c0, h7, HO0⟩, -, hg⟩ := hdep) | skip)
          first
            | (refine rg_unwanted rfl rfl rfl (b' := false) (by first | (simp [hdep]; done) | assumption) (by decide) ?_; exact hK _ _ rfl (Below.refl _ _) (by simp))
            | (refine rg_unwanted rfl rfl rfl (b' := true) (by first | (simp [hdep]; done) | assumption) (by decide) ?_; exact hK _ _ rfl (Below.refl _ _) (by simp))
            | (refine rg_wanted rfl rfl rfl (b' := true) (by first | (simp [hdep]; done) | assumption) rfl (fun K' hKK => ?_); go_wp2_with (first | (go_at_call 46; (with_reducible refine (rzchance_any _ a l k HQ.out).mono ?_); rintro e w1 ⟨rfl, hb⟩; rw [H1.out]) | (go_at_call 48; (with_reducible refine (rzof_zero _).mono ?_); rintro e w1 ⟨c1, rfl, ho, hb⟩) | (go_at_call 83; (with_reducible refine (r2cmp_o _ a c0 (some r) (some 0) (fo_of HQ.out HA.out) HO0).mono ?_); rintro e w1 ⟨rfl, hb⟩)); first | exact hK _ _ rfl (Below.refl _ _) (by simp) | (first | exact hK _ _ rfl hb (by simp) | exact hK _ _ ⟨c1, rfl, ho⟩ hb (by simp)))
            | (refine rg_wanted rfl rfl rfl (b' := false) (by first | (simp [hdep]; done) | assumption) rfl (fun K' hKK => ?_); go_wp2_with (first | (go_at_call 46; (with_reducible refine (rzchance_any _ a l k HQ.out).mono ?_); rintro e w1 ⟨rfl, hb⟩; rw [H1.out]) | (go_at_call 48; (with_reducible refine (rzof_zero _).mono ?_); rintro e w1 ⟨c1, rfl, ho, hb⟩) | (go_at_call 83; (with_reducible refine (r2cmp_o _ a c0 (some r) (some 0) (fo_of HQ.out HA.out) HO0).mono ?_); rintro e w1 ⟨rfl, hb⟩)); first | exact hK _ _ rfl (Below.refl _ _) (by simp) | (first | exact hK _ _ rfl hb (by simp) | exact hK _ _ ⟨c1, rfl, ho⟩ hb (by simp)))
            | (refine rg_free rfl rfl (fun K' hKK => ?_); fail)
            | (refine rg_free rfl rfl (fun K' hKK => ?_); go_wp2_with (first | (go_at_call 46; (with_reducible refine (rzchance_any _ a l k HQ.out).mono ?_); rintro e w1 ⟨rfl, hb⟩; rw [H1.out]) | (go_at_call 48; (with_reducible refine (rzof_zero _).mono ?_); rintro e w1 ⟨c1, rfl, ho, hb⟩) | (go_at_call 83; (with_reducible refine (r2cmp_o _ a c0 (some r) (some 0) (fo_of HQ.out HA.out) HO0).mono ?_); rintro e w1 ⟨rfl, hb⟩)); first | exact hK _ _ rfl (Below.refl _ _) (by simp) | (first | exact hK _ _ rfl hb (by simp) | exact hK _ _ ⟨c1, rfl, ho⟩ hb (by simp)))
      intro w' hbw
      repeat (refine fin_eq ?_)
      refine fin_any (fun x4 hx4 => ?_)
      repeat (refine fin_eq ?_)
      refine fin_nil ?_
      (simp only [List.setIfInBounds_toArray, List.set_cons_succ, List.set_cons_zero]; refine wpAny_done (by kernel_rfl) ?_ _)
      go_wp2_with fail
      refine bodyPost_ret (v := .bool false) (by simp [results, Tryz.results82, go_sem, *]) rfl ⟨by rw [HX.out], HBV.out.trans (hbw.mono HBV.out.size)⟩
set_option maxRecDepth 100000 in
set_option maxHeartbeats 8000000 in
theorem qcheck23_any (w : World) (s : Sv) (hq : SQ w s) :
    Calls Tryz.prog 45 #[.agg s.cs.toArray] w fun e w' => e = .returned (.bool s.ok) ∧ Below w.heap.size w w' := by
  have HXX := hide (show s.ok = (innO (fracOf s.ll s.lk) && innO (fracOf s.hl s.hk) && innO (fracOf s.al s.ak) && innO (fracOf s.bl s.bk) && ltO (fracOf s.ll s.lk) (fracOf s.hl s.hk) && decide (1 ≤ s.m) && decide (s.m ≤ 32)) from rfl)
  show Calls Tryz.prog 45 #[.agg #[.slice s.l.A s.l.n s.l.c, .slice s.l.B s.l.m s.l.d, .slice s.h.A s.h.n s.h.c, .slice s.h.B s.h.m s.h.d, .slice s.a.A s.a.n s.a.c, .slice s.a.B s.a.m s.a.d, .slice s.b.A s.b.n s.b.c, .slice s.b.B s.b.m s.b.d, .int .i64 s.m]] w _
  rcases h1 : innO (fracOf s.ll s.lk)
  · have HX := hide (show s.ok = false by rw [HXX.out, h1]; simp)
    have H1 := hide h1
    clear h1 HXX
    go_enter Tryz.func45, Tryz.ntmps45
    go_upto_region 1 with (fail)
    generalize hW : World.alloc w _ = v
    have HF := hide (show FS w v w.heap.size s by rw [← hW]; exact FS.mk0 hq _)
    obtain ⟨a0, a1, a2, a3, a4, a5, a6, a7, a8, a9⟩ := HF.out.ca
    clear hW hq
    go_wp2_with (go_at_call 82; (with_reducible refine (qinner_any _ s.l _ _ HF.out.q.l).mono ?_); rintro e w1 ⟨rfl, hb⟩; rw [H1.out]; have HF1 := hide (HF.out.below hb); obtain ⟨b0, b1, b2, b3, b4, b5, b6, b7, b8, b9⟩ := HF1.out.ca; clear hb)
    refine bodyPost_ret (v := .bool false) (by simp [results, Tryz.results45, go_sem, *]) rfl ⟨by rw [HX.out], HF1.out.bw⟩
  rcases h2 : innO (fracOf s.hl s.hk)
  · have HX := hide (show s.ok = false by rw [HXX.out, h2]; simp)
    have H1 := hide h1
    have H2 := hide h2
    clear h1 h2 HXX
    go_enter Tryz.func45, Tryz.ntmps45
    go_upto_region 1 with (fail)
    generalize hW : World.alloc w _ = v
    have HF := hide (show FS w v w.heap.size s by rw [← hW]; exact FS.mk0 hq _)
    obtain ⟨a0, a1, a2, a3, a4, a5, a6, a7, a8, a9⟩ := HF.out.ca
    clear hW hq
    go_wp2_with (first | (go_at_call 82; (with_reducible refine (qinner_any _ s.l _ _ HF.out.q.l).mono ?_); rintro e w1 ⟨rfl, hb⟩; rw [H1.out]; have HF1 := hide (HF.out.below hb); obtain ⟨b0, b1, b2, b3, b4, b5, b6, b7, b8, b9⟩ := HF1.out.ca; clear hb) | (go_at_call 82; (with_reducible refine (qinner_any _ s.h _ _ HF1.out.q.h).mono ?_); rintro e w2 ⟨rfl, hb⟩; rw [H2.out]; have HF2 := hide (HF1.out.below hb); obtain ⟨c0, c1, c2, c3, c4, c5, c6, c7, c8, c9⟩ := HF2.out.ca; clear hb))
    refine bodyPost_ret (v := .bool false) (by simp [results, Tryz.results45, go_sem, *]) rfl ⟨by rw [HX.out], HF2.out.bw⟩
  rcases h3 : innO (fracOf s.al s.ak)
  · have HX := hide (show s.ok = false by rw [HXX.out, h3]; simp)
    have H1 := hide h1
    have H2 := hide h2
    have H3 := hide h3
    clear h1 h2 h3 HXX
    go_enter Tryz.func45, Tryz.ntmps45
    go_upto_region 1 with (fail)
    generalize hW : World.alloc w _ = v
    have HF := hide (show FS w v w.heap.size s by rw [← hW]; exact FS.mk0 hq _)
    obtain ⟨a0, a1, a2, a3, a4, a5, a6, a7, a8, a9⟩ := HF.out.ca
    clear hW hq
    go_wp2_with (first | (go_at_call 82; (with_reducible refine (qinner_any _ s.l _ _ HF.out.q.l).mono ?_); rintro e w1 ⟨rfl, hb⟩; rw [H1.out]; have HF1 := hide (HF.out.below hb); obtain ⟨b0, b1, b2, b3, b4, b5, b6, b7, b8, b9⟩ := HF1.out.ca; clear hb) | (go_at_call 82; (with_reducible refine (qinner_any _ s.h _ _ HF1.out.q.h).mono ?_); rintro e w2 ⟨rfl, hb⟩; rw [H2.out]; have HF2 := hide (HF1.out.below hb); obtain ⟨c0, c1, c2, c3, c4, c5, c6, c7, c8, c9⟩ := HF2.out.ca; clear hb) | (go_at_call 82; (with_reducible refine (qinner_any _ s.a _ _ HF2.out.q.a).mono ?_); rintro e w3 ⟨rfl, hb⟩; rw [H3.out]; have HF3 := hide (HF2.out.below hb); obtain ⟨d0, d1, d2, d3, d4, d5, d6, d7, d8, d9⟩ := HF3.out.ca; clear hb))
    refine bodyPost_ret (v := .bool false) (by simp [results, Tryz.results45, go_sem, *]) rfl ⟨by rw [HX.out], HF3.out.bw⟩
  rcases h4 : innO (fracOf s.bl s.bk)
  · have HX := hide (show s.ok = false by rw [HXX.out, h4]; simp)
    have H1 := hide h1
    have H2 := hide h2
    have H3 := hide h3
    have H4 := hide h4
    clear h1 h2 h3 h4 HXX
    go_enter Tryz.func45, Tryz.ntmps45
    go_upto_region 1 with (fail)
    generalize hW : World.alloc w _ = v
    have HF := hide (show FS w v w.heap.size s by rw [← hW]; exact FS.mk0 hq _)
    obtain ⟨a0, a1, a2, a3, a4, a5, a6, a7, a8, a9⟩ := HF.out.ca
    clear hW hq
    go_wp2_with (first | (go_at_call 82; (with_reducible refine (qinner_any _ s.l _ _ HF.out.q.l).mono ?_); rintro e w1 ⟨rfl, hb⟩; rw [H1.out]; have HF1 := hide (HF.out.below hb); obtain ⟨b0, b1, b2, b3, b4, b5, b6, b7, b8, b9⟩ := HF1.out.ca; clear hb) | (go_at_call 82; (with_reducible refine (qinner_any _ s.h _ _ HF1.out.q.h).mono ?_); rintro e w2 ⟨rfl, hb⟩; rw [H2.out]; have HF2 := hide (HF1.out.below hb); obtain ⟨c0, c1, c2, c3, c4, c5, c6, c7, c8, c9⟩ := HF2.out.ca; clear hb) | (go_at_call 82; (with_reducible refine (qinner_any _ s.a _ _ HF2.out.q.a).mono ?_); rintro e w3 ⟨rfl, hb⟩; rw [H3.out]; have HF3 := hide (HF2.out.below hb); obtain ⟨d0, d1, d2, d3, d4, d5, d6, d7, d8, d9⟩ := HF3.out.ca; clear hb) | (go_at_call 82; (with_reducible refine (qinner_any _ s.b _ _ HF3.out.q.b).mono ?_); rintro e w4 ⟨rfl, hb⟩; rw [H4.out]; have HF4 := hide (HF3.out.below hb); obtain ⟨e0, e1, e2, e3, e4, e5, e6, e7, e8, e9⟩ := HF4.out.ca; clear hb))
    refine bodyPost_ret (v := .bool false) (by simp [results, Tryz.results45, go_sem, *]) rfl ⟨by rw [HX.out], HF4.out.bw⟩
  have H1 := hide h1
  have H2 := hide h2
  have H3 := hide h3
  have H4 := hide h4
  have HY := hide (show s.ok = (ltO (fracOf s.ll s.lk) (fracOf s.hl s.hk) && decide (1 ≤ s.m) && decide (s.m ≤ 32)) by rw [HXX.out, h1, h2, h3, h4]; simp)
  clear h1 h2 h3 h4 HXX
  rcases h5 : ltO (fracOf s.ll s.lk) (fracOf s.hl s.hk)
  · have HX := hide (show s.ok = false by rw [HY.out, h5]; simp)
    have g5 : decide (cmpO (fracOf s.ll s.lk) (fracOf s.hl s.hk) < 0) = false := by rw [cmp_lt]; exact h5
    clear h5 HY
    go_enter Tryz.func45, Tryz.ntmps45
    go_upto_region 1 with (fail)
    generalize hW : World.alloc w _ = v
    have HF := hide (show FS w v w.heap.size s by rw [← hW]; exact FS.mk0 hq _)
    obtain ⟨a0, a1, a2, a3, a4, a5, a6, a7, a8, a9⟩ := HF.out.ca
    clear hW hq
    go_wp2_with (first | (go_at_call 82; (with_reducible refine (qinner_any _ s.l _ _ HF.out.q.l).mono ?_); rintro e w1 ⟨rfl, hb⟩; rw [H1.out]; have HF1 := hide (HF.out.below hb); obtain ⟨b0, b1, b2, b3, b4, b5, b6, b7, b8, b9⟩ := HF1.out.ca; clear hb) | (go_at_call 82; (with_reducible refine (qinner_any _ s.h _ _ HF1.out.q.h).mono ?_); rintro e w2 ⟨rfl, hb⟩; rw [H2.out]; have HF2 := hide (HF1.out.below hb); obtain ⟨c0, c1, c2, c3, c4, c5, c6, c7, c8, c9⟩ := HF2.out.ca; clear hb) | (go_at_call 82; (with_reducible refine (qinner_any _ s.a _ _ HF2.out.q.a).mono ?_); rintro e w3 ⟨rfl, hb⟩; rw [H3.out]; have HF3 := hide (HF2.out.below hb); obtain ⟨d0, d1, d2, d3, d4, d5, d6, d7, d8, d9⟩ := HF3.out.ca; clear hb) | (go_at_call 82; (with_reducible refine (qinner_any _ s.b _ _ HF3.out.q.b).mono ?_); rintro e w4 ⟨rfl, hb⟩; rw [H4.out]; have HF4 := hide (HF3.out.below hb); obtain ⟨e0, e1, e2, e3, e4, e5, e6, e7, e8, e9⟩ := HF4.out.ca; clear hb) | (go_at_call 83; (with_reducible refine (r2cmp_any _ s.l s.h _ _ _ _ HF4.out.q.l HF4.out.q.h).mono ?_); rintro e w5 ⟨rfl, hb⟩; have HF5 := hide (HF4.out.below hb); obtain ⟨f0, f1, f2, f3, f4, f5, f6, f7, f8, f9⟩ := HF5.out.ca; clear hb))
    refine bodyPost_ret (v := .bool false) (by simp [results, Tryz.results45, go_sem, *]) rfl ⟨by rw [HX.out], HF5.out.bw⟩
  have g5 : decide (cmpO (fracOf s.ll s.lk) (fracOf s.hl s.hk) < 0) = true := by rw [cmp_lt]; exact h5
  have HZ := hide (show s.ok = (decide (1 ≤ s.m) && decide (s.m ≤ 32)) by rw [HY.out, h5]; simp)
  clear h5 HY
  by_cases h6 : 1 ≤ s.m
  · have HX := hide (show s.ok = decide (s.m ≤ 32) by rw [HZ.out, decide_eq_true h6]; simp)
    have g6 : decide (1 ≤ s.m) = true := decide_eq_true h6
    clear h6 HZ
    go_enter Tryz.func45, Tryz.ntmps45
    go_upto_region 1 with (fail)
    generalize hW : World.alloc w _ = v
    have HF := hide (show FS w v w.heap.size s by rw [← hW]; exact FS.mk0 hq _)
    obtain ⟨a0, a1, a2, a3, a4, a5, a6, a7, a8, a9⟩ := HF.out.ca
    clear hW hq
    go_wp2_with (first | (go_at_call 82; (with_reducible refine (qinner_any _ s.l _ _ HF.out.q.l).mono ?_); rintro e w1 ⟨rfl, hb⟩; rw [H1.out]; have HF1 := hide (HF.out.below hb); obtain ⟨b0, b1, b2, b3, b4, b5, b6, b7, b8, b9⟩ := HF1.out.ca; clear hb) | (go_at_call 82; (with_reducible refine (qinner_any _ s.h _ _ HF1.out.q.h).mono ?_); rintro e w2 ⟨rfl, hb⟩; rw [H2.out]; have HF2 := hide (HF1.out.below hb); obtain ⟨c0, c1, c2, c3, c4, c5, c6, c7, c8, c9⟩ := HF2.out.ca; clear hb) | (go_at_call 82; (with_reducible refine (qinner_any _ s.a _ _ HF2.out.q.a).mono ?_); rintro e w3 ⟨rfl, hb⟩; rw [H3.out]; have HF3 := hide (HF2.out.below hb); obtain ⟨d0, d1, d2, d3, d4, d5, d6, d7, d8, d9⟩ := HF3.out.ca; clear hb) | (go_at_call 82; (with_reducible refine (qinner_any _ s.b _ _ HF3.out.q.b).mono ?_); rintro e w4 ⟨rfl, hb⟩; rw [H4.out]; have HF4 := hide (HF3.out.below hb); obtain ⟨e0, e1, e2, e3, e4, e5, e6, e7, e8, e9⟩ := HF4.out.ca; clear hb) | (go_at_call 83; (with_reducible refine (r2cmp_any _ s.l s.h _ _ _ _ HF4.out.q.l HF4.out.q.h).mono ?_); rintro e w5 ⟨rfl, hb⟩; have HF5 := hide (HF4.out.below hb); obtain ⟨f0, f1, f2, f3, f4, f5, f6, f7, f8, f9⟩ := HF5.out.ca; clear hb))
    refine bodyPost_ret (v := .bool (decide (s.m ≤ 32))) (by simp [results, Tryz.results45, go_sem, *]) rfl ⟨by rw [HX.out], HF5.out.bw⟩
  · have HX := hide (show s.ok = false by rw [HZ.out, decide_eq_false h6]; simp)
    have g6 : decide (1 ≤ s.m) = false := decide_eq_false h6
    clear h6 HZ
    go_enter Tryz.func45, Tryz.ntmps45
    go_upto_region 1 with (fail)
    generalize hW : World.alloc w _ = v
    have HF := hide (show FS w v w.heap.size s by rw [← hW]; exact FS.mk0 hq _)
    obtain ⟨a0, a1, a2, a3, a4, a5, a6, a7, a8, a9⟩ := HF.out.ca
    clear hW hq
    go_wp2_with (first | (go_at_call 82; (with_reducible refine (qinner_any _ s.l _ _ HF.out.q.l).mono ?_); rintro e w1 ⟨rfl, hb⟩; rw [H1.out]; have HF1 := hide (HF.out.below hb); obtain ⟨b0, b1, b2, b3, b4, b5, b6, b7, b8, b9⟩ := HF1.out.ca; clear hb) | (go_at_call 82; (with_reducible refine (qinner_any _ s.h _ _ HF1.out.q.h).mono ?_); rintro e w2 ⟨rfl, hb⟩; rw [H2.out]; have HF2 := hide (HF1.out.below hb); obtain ⟨c0, c1, c2, c3, c4, c5, c6, c7, c8, c9⟩ := HF2.out.ca; clear hb) | (go_at_call 82; (with_reducible refine (qinner_any _ s.a _ _ HF2.out.q.a).mono ?_); rintro e w3 ⟨rfl, hb⟩; rw [H3.out]; have HF3 := hide (HF2.out.below hb); obtain ⟨d0, d1, d2, d3, d4, d5, d6, d7, d8, d9⟩ := HF3.out.ca; clear hb) | (go_at_call 82; (with_reducible refine (qinner_any _ s.b _ _ HF3.out.q.b).mono ?_); rintro e w4 ⟨rfl, hb⟩; rw [H4.out]; have HF4 := hide (HF3.out.below hb); obtain ⟨e0, e1, e2, e3, e4, e5, e6, e7, e8, e9⟩ := HF4.out.ca; clear hb) | (go_at_call 83; (with_reducible refine (r2cmp_any _ s.l s.h _ _ _ _ HF4.out.q.l HF4.out.q.h).mono ?_); rintro e w5 ⟨rfl, hb⟩; have HF5 := hide (HF4.out.below hb); obtain ⟨f0, f1, f2, f3, f4, f5, f6, f7, f8, f9⟩ := HF5.out.ca; clear hb))
    refine bodyPost_ret (v := .bool false) (by simp [results, Tryz.results45, go_sem, *]) rfl ⟨by rw [HX.out], HF5.out.bw⟩
end Go.Proofs.YtnokfhkcfebimaaGreat

/- Contracts: sequential.power, ratio. -/
namespace Go.Proofs.YtnokfhkcfebimaaGreat
open Go.RowKit

theorem cmpQ_ge {r s : Rat} : 0 ≤ cmpQ r s ↔ s ≤ r := by
  unfold cmpQ
  by_cases h1 : r < s
  · rw [if_pos h1]
    exact ⟨fun h => by omega, fun h => absurd h1 (Rat.not_lt.2 h)⟩
  · rw [if_neg h1]
    exact ⟨fun _ => Rat.not_lt.1 h1, fun _ => by split <;> omega⟩
/-- A right specification's numbers. -/
structure OKs (s : Sv) (l h a b : Rat) (M : Nat) : Prop where
  fl : fracOf s.ll s.lk = some l
  fh : fracOf s.hl s.hk = some h
  fa : fracOf s.al s.ak = some a
  fb : fracOf s.bl s.bk = some b
  il : Inn l
  ih : Inn h
  ia : Inn a
  ib : Inn b
  lt : l < h
  m : s.m = (M : Int)
  m1 : 1 ≤ M
  m2 : M ≤ 32
theorem Sv.ok_some {s : Sv} (hk : s.ok = true) : ∃ l h a b M, OKs s l h a b M := by
  simp only [Sv.ok, okS, Bool.and_eq_true, decide_eq_true_eq] at hk
  obtain ⟨⟨⟨⟨⟨⟨h1, h2⟩, h3⟩, h4⟩, h5⟩, h6⟩, h7⟩ := hk
  obtain ⟨l, e1, i1⟩ := innO_inn h1 (fracOf_ok _ _).1
  obtain ⟨h, e2, i2⟩ := innO_inn h2 (fracOf_ok _ _).1
  obtain ⟨a, e3, i3⟩ := innO_inn h3 (fracOf_ok _ _).1
  obtain ⟨b, e4, i4⟩ := innO_inn h4 (fracOf_ok _ _).1
  rw [e1, e2] at h5
  exact ⟨l, h, a, b, s.m.toNat, e1, e2, e3, e4, i1, i2, i3, i4, by simpa [ltO] using h5, by omega, by omega, by omega⟩
theorem Inn.ne {r : Rat} (h : Inn r) : r ≠ 0 := fun e => by have := h.p; rw [e] at this; exact absurd this (by decide)
theorem Inn.qne {r : Rat} (h : Inn r) : 1 - r ≠ 0 := fun e => by have := h.q0; rw [e] at this; exact absurd this (by decide)
theorem big64 : 1000000 ^ 64 < 4294967296 ^ 128 := by decide +kernel
theorem bd_fits {B : Nat} {r : Rat} (h : Bd B r) (hB : B ≤ 1000000 ^ 64) : fitsR r = true := h.fits (Nat.lt_of_le_of_lt hB big64)
theorem powR_nat {r : Rat} {n : Nat} (hn : n ≤ 32) (hf : fitsR (r ^ n) = true) : powR (some r) (n : Int) = (some (r ^ n), 0) := by
  show (if (n : Int) < 0 ∨ 65536 < (n : Int) then (none, 3) else limR (r ^ ((n : Int)).toNat)) = _
  rw [if_neg (by omega), Int.toNat_natCast, limR_fit hf]
theorem divR_some {r s : Rat} (hs : s ≠ 0) (hf : fitsR (r / s) = true) : divR (some r) (some s) = (some (r / s), 0) := by
  show (if s = 0 then (none, 4) else limR (r / s)) = _
  rw [if_neg hs, limR_fit hf]
theorem mulR_some {r s : Rat} (hf : fitsR (r * s) = true) : mulR (some r) (some s) = (some (r * s), 0) := limR_fit hf
set_option maxRecDepth 100000 in
set_option maxHeartbeats 8000000 in
theorem spower_any (w : World) (a b : Fa) (r s : Rat) (n : Nat) (ha0 : Fo w a (some r)) (hb0 : Fo w b (some s)) (hs : s ≠ 0) (hf1 : fitsR (r / s) = true) (hf2 : fitsR ((r / s) ^ n) = true) (hn : n ≤ 32) :
    Calls Tryz.prog 133 #[.agg #[.slice a.A a.n a.c, .slice a.B a.m a.d], .agg #[.slice b.A b.n b.c, .slice b.B b.m b.d], .int .i64 (n : Int)] w fun e w' => Ret1 w (some ((r / s) ^ n)) e w' := by
  have HD := hide (divR_some hs hf1)
  have HP := hide (powR_nat hn hf2)
  have HN := hide hn
  have ha := ha0.1
  have hb := hb0.1
  have HOA := hide ha0.2
  have HOB := hide hb0.2
  clear ha0 hb0 hs hf1 hf2 hn
  go_enter Tryz.func133, Tryz.ntmps133
  go_upto_region 1 with (fail)
  generalize hW : World.alloc (World.alloc (World.alloc w _) _) _ = v
  have HFB := hide (show Fb w v a b _ _ _ _ by rw [← hW]; exact (Fb.mk0 ha hb _ _).below ((Below.refl _ _).alloc (Nat.le_refl _) _))
  have HRB := hide (show Rb v (w.heap.size + 2) by rw [← hW]; exact Rb.mk0 _ (by simp))
  obtain ⟨a0, a1, b0, b1⟩ := HFB.out.ca
  have hz := HFB.out.sz
  have HFA := hide (show Fo v a (some r) from ⟨HFB.out.qa, HOA.out⟩)
  have HFX := hide (show Fo v b (some s) from ⟨HFB.out.qb, HOB.out⟩)
  clear hW ha hb
  go_upto_region 2 with (go_at_call 101; (with_reducible refine (fdiv_o _ a b (some r) (some s) HFA.out HFX.out).mono ?_); rintro e w3 ⟨c, rfl, ho, hb⟩; rw [HD.out] at ho ⊢; have HO3 := hide ho; have HB3 := hide (HFB.out.bw.trans (hb.mono HFB.out.bw.size)); have HR3 := hide (HRB.out.below hb); clear ho hb)
  generalize hW : World.alloc w3 _ = v3
  have hsz := HR3.out.sz
  have HQ4 := hide (show Bq v3 w3.heap.size c by rw [← hW]; exact Bq.mk0 _ c rfl)
  have HO4 := hide (show Fo v3 c (some (r / s)) by rw [← hW]; exact HO3.out.alloc _)
  have HR4 := hide (show Rb v3 (w.heap.size + 2) by rw [← hW]; exact (HR3.out.bq.alloc _).rb)
  have HB4 := hide (show Below w.heap.size w v3 by rw [← hW]; exact HB3.out.alloc HB3.out.size _)
  obtain ⟨c0, c1, cf, cz, -⟩ := HQ4.out
  clear hW
  go_upto_region 3 with (go_at_call 129; (with_reducible refine (fpow_o _ c (some (r / s)) (n : Int) HO4.out (by omega) (by have := HN.out; omega)).mono ?_); rintro e w5 ⟨q, rfl, ho, hb⟩; rw [HP.out] at ho ⊢; have HO5 := hide ho; have HB5 := hide (HB4.out.trans (hb.mono HB4.out.size)); have HR5 := hide (HR4.out.below hb); have HQ5 := hide (HQ4.out.below hb); obtain ⟨d0, d1, df, dz, -⟩ := HQ5.out; clear ho hb)
  generalize hW : World.setCell (World.setCell w5 _ _) _ _ = v5
  have hz3 := HB3.out.size
  have HQ6 := hide (show Bq v5 w3.heap.size q by rw [← hW]; exact HQ5.out.fill q)
  have HO6 := hide (show Fo v5 q (some ((r / s) ^ n)) by rw [← hW]; exact HO5.out.fill HQ5.out q)
  have HR6 := hide (show Rb v5 (w.heap.size + 2) by rw [← hW]; exact (HR5.out.bq.far (by omega) _ _).rb)
  have HB6 := hide (show Below w.heap.size w v5 by rw [← hW]; exact Rb.end0 HB5.out (by omega) _ _)
  obtain ⟨e0, e1, ef, ez, -⟩ := HQ6.out
  obtain ⟨r0, r1, rf, rz, -⟩ := HR6.out
  clear hW
  go_wp2_with fail
  refine bodyPost_ret (v := .agg #[.slice q.A q.n q.c, .slice q.B q.m q.d]) (by simp [results, Tryz.results133, go_sem, *]) rfl ⟨q, rfl, HO6.out.put2 HR6.out.nb _ _ (by simp), Rb.end0 HB6.out (by omega) _ _⟩
set_option maxRecDepth 100000 in
set_option maxHeartbeats 8000000 in
theorem sratio_any (w : World) (s : Sv) (l h a b : Rat) (M p f : Nat) (hq : SQ w s) (hk : OKs s l h a b M) (hp : p ≤ 32) (hf : f ≤ 32) :
    Calls Tryz.prog 100 #[.agg #[.slice s.l.A s.l.n s.l.c, .slice s.l.B s.l.m s.l.d, .slice s.h.A s.h.n s.h.c, .slice s.h.B s.h.m s.h.d, .slice s.a.A s.a.n s.a.c, .slice s.a.B s.a.m s.a.d, .slice s.b.A s.b.n s.b.c, .slice s.b.B s.b.m s.b.d, .int .i64 s.m], .int .i64 (p : Int), .int .i64 (f : Int)] w fun e w' => Ret1 w (some (ratQ l h p f)) e w' := by
  obtain ⟨hb1, hb2, hb3, hb4, hb5⟩ := ratQ_bd hk.il hk.ih hp hf
  have HM := hide (mulR_some (r := (h / l) ^ f) (s := ((1 - h) / (1 - l)) ^ p) (bd_fits hb3 (Nat.le_refl _)))
  have HK := hide hk
  have f1 := hide (bd_fits hb1 (by decide +kernel))
  have f2 := hide (bd_fits hb2 (by decide +kernel))
  have f3 := hide (bd_fits hb4 (by decide +kernel))
  have f4 := hide (bd_fits hb5 (by decide +kernel))
  have f5 := hide (bd_fits hk.ih.c.bdq (by decide +kernel))
  have f6 := hide (bd_fits hk.il.c.bdq (by decide +kernel))
  have HPF := hide (And.intro hp hf)
  clear hk hb1 hb2 hb3 hb4 hb5 hp hf
  go_enter Tryz.func100, Tryz.ntmps100
  go_upto_region 1 with (fail)
  generalize hW : World.alloc (World.alloc w _) _ = v
  have HF := hide (show FS w v w.heap.size s by rw [← hW]; exact (FS.mk0 hq _).alloc _)
  have HRB := hide (show Rb v (w.heap.size + 1) by rw [← hW]; exact Rb.mk0 _ (by simp))
  have hz := HF.out.cb.sz
  clear hW hq
  go_cut [7] from 7 to 27 (fun s7 wx => ∃ (g : Nat) (c : Fa), s7 = .pointer (some ⟨g, 0, none⟩) ∧ Hid (Bq wx g c) ∧ Hid (Fo wx c (some (ratQ l h p f))) ∧ Hid (Rb wx (w.heap.size + 1)) ∧ Hid (Below w.heap.size w wx))
  case first =>
    apply region_seqo 17 19 [10, 11, 12, 13, 14, 15, 16, 17, 18, 19, 20, 21, 22, 23, 24, 9, 25, 26, 7] [eqV _, eqV _, eqV _, eqV _, eqV _, fun x w => ∃ c : Fa, x = .agg #[.slice c.A c.n c.c, .slice c.B c.m c.d] ∧ Fo w c (some ((h / l) ^ f)), eqV _, eqV _, fun x w => ∃ c : Fa, x = .agg #[.slice c.A c.n c.c, .slice c.B c.m c.d] ∧ Fo w c (some (1 - h)), eqV _, eqV _, fun x w => ∃ c : Fa, x = .agg #[.slice c.A c.n c.c, .slice c.B c.m c.d] ∧ Fo w c (some (1 - l)), eqV _, fun x w => ∃ c : Fa, x = .agg #[.slice c.A c.n c.c, .slice c.B c.m c.d] ∧ Fo w c (some (((1 - h) / (1 - l)) ^ p)), fun x w => ∃ c : Fa, x = .tuple #[.agg #[.slice c.A c.n c.c, .slice c.B c.m c.d], .int .i64 0] ∧ Fo w c (some (ratQ l h p f)), fun x w => ∃ c : Fa, x = .tuple #[.agg #[.slice c.A c.n c.c, .slice c.B c.m c.d], .int .i64 0] ∧ Fo w c (some (ratQ l h p f)), fun x w => ∃ c : Fa, x = .agg #[.slice c.A c.n c.c, .slice c.B c.m c.d] ∧ Fo w c (some (ratQ l h p f)), eqV _, fun x w => ∃ b : Nat, x = .pointer (some ⟨b, 0, none⟩) ∧ v.heap.size ≤ b ∧ Bq w b fa0] [false, false, false, false, false, false, false, false, false, false, false, false, false, false, false, false, false, false, false] (by kernel_rfl) (by decide) (by decide) rfl rfl rfl (by decide) (by kernel_rfl) (by kernel_rfl) rfl ?stb1 ?steps1 ?fina1 ?finb1
    case stb1 => repeat' (first | exact trivial | apply stb_eq | (first | exact fun x w w' ⟨c, h1, h2⟩ hb => ⟨c, h1, h2.below hb⟩ | exact fun x w w' ⟨c, h1, h2, h3⟩ hb => ⟨c, h1, h2, h3.below hb⟩) | apply And.intro)
    case steps1 =>
      repeat' (first | exact trivial | apply And.intro)
      all_goals
        intro a' w' hbw hdf hoff hdep K hK
        (have o3 := hoff 3 rfl; have o1 := hoff 1 rfl; have o2 := hoff 2 rfl)
        (have HG := hide (HF.out.below hbw); obtain ⟨y0, y1, y2, y3, y4, y5, y6, y7, y8, y9⟩ := HG.out.ca; have hvz := hbw.size)
        replace hdep := hdep _ rfl
        simp only [List.getElem_toArray, List.getElem_cons_succ, List.getElem_cons_zero, List.toList_toArray, depAll, binds_data, binds_chain, binds_guard, binds_phase, binds_text, binds_gc, cond_true, cond_false, true_and, getR, eqV, List.getD_cons_succ, List.getD_cons_zero, and_true] at hdep
        simp only [Nat.zero_add, Nat.reduceAdd, getR, eqV, List.getD_cons_succ, List.getD_cons_zero] at hK
        clear hoff hdf
        (first | (obtain ⟨⟨c1, e18, HO1⟩, ⟨c2, e21, HO2⟩, hdep⟩ : (∃ c : Fa, _) ∧ (∃ c : Fa, _) ∧ _ := hdep) | (obtain ⟨⟨c1, e24, HO1⟩, hdep⟩ : (∃ c : Fa, _) ∧ _ := hdep) | (obtain ⟨c1, e24, HO1⟩ : ∃ c : Fa, _ := hdep) | skip)
        first
          | (refine rg_unwanted rfl rfl rfl (b' := false) (by first | (simp [hdep]; done) | assumption) (by decide) ?_; exact hK _ _ rfl (Below.refl _ _) (by simp))
          | (refine rg_unwanted rfl rfl rfl (b' := true) (by first | (simp [hdep]; done) | assumption) (by decide) ?_; exact hK _ _ rfl (Below.refl _ _) (by simp))
          | (refine rg_wanted rfl rfl rfl (b' := true) (by first | (simp [hdep]; done) | assumption) rfl (fun K' hKK => ?_); go_wp2_with (first | (go_at_call 133; (with_reducible refine (spower_any _ s.h s.l h l f (fo_of HG.out.q.h HK.out.fh) (fo_of HG.out.q.l HK.out.fl) HK.out.il.ne f3.out f1.out HPF.out.2).mono ?_); rintro e w1 ⟨c, rfl, ho, hb⟩) | (go_at_call 81; (with_reducible refine (sother_any _ s.h h (fo_of HG.out.q.h HK.out.fh) HK.out.ih.c.h1 f5.out).mono ?_); rintro e w1 ⟨c, rfl, ho, hb⟩) | (go_at_call 81; (with_reducible refine (sother_any _ s.l l (fo_of HG.out.q.l HK.out.fl) HK.out.il.c.h1 f6.out).mono ?_); rintro e w1 ⟨c, rfl, ho, hb⟩) | (go_at_call 133; (with_reducible refine (spower_any _ c1 c2 (1 - h) (1 - l) p HO1 HO2 HK.out.il.qne f4.out f2.out HPF.out.1).mono ?_); rintro e w1 ⟨c, rfl, ho, hb⟩) | (go_at_call 80; (with_reducible refine (fmul_o _ c1 c2 _ _ HO1 HO2).mono ?_); rintro e w1 ⟨c, rfl, ho, hb⟩; rw [HM.out] at ho ⊢)); first | exact hK _ _ rfl (Below.refl _ _) (by simp) | (first | exact hK _ _ ⟨c, rfl, ho⟩ hb (by simp) | exact hK _ _ ⟨c1, rfl, HO1⟩ (Below.refl _ _) (by simp) | exact hK _ _ ⟨_, rfl, hvz, Bq.mk0 _ fa0 rfl⟩ ((Below.refl _ _).alloc (Nat.le_refl _) _) (by simp)))
          | (refine rg_wanted rfl rfl rfl (b' := false) (by first | (simp [hdep]; done) | assumption) rfl (fun K' hKK => ?_); go_wp2_with (first | (go_at_call 133; (with_reducible refine (spower_any _ s.h s.l h l f (fo_of HG.out.q.h HK.out.fh) (fo_of HG.out.q.l HK.out.fl) HK.out.il.ne f3.out f1.out HPF.out.2).mono ?_); rintro e w1 ⟨c, rfl, ho, hb⟩) | (go_at_call 81; (with_reducible refine (sother_any _ s.h h (fo_of HG.out.q.h HK.out.fh) HK.out.ih.c.h1 f5.out).mono ?_); rintro e w1 ⟨c, rfl, ho, hb⟩) | (go_at_call 81; (with_reducible refine (sother_any _ s.l l (fo_of HG.out.q.l HK.out.fl) HK.out.il.c.h1 f6.out).mono ?_); rintro e w1 ⟨c, rfl, ho, hb⟩) | (go_at_call 133; (with_reducible refine (spower_any _ c1 c2 (1 - h) (1 - l) p HO1 HO2 HK.out.il.qne f4.out f2.out HPF.out.1).mono ?_); rintro e w1 ⟨c, rfl, ho, hb⟩) | (go_at_call 80; (with_reducible refine (fmul_o _ c1 c2 _ _ HO1 HO2).mono ?_); rintro e w1 ⟨c, rfl, ho, hb⟩; rw [HM.out] at ho ⊢)); first | exact hK _ _ rfl (Below.refl _ _) (by simp) | (first | exact hK _ _ ⟨c, rfl, ho⟩ hb (by simp) | exact hK _ _ ⟨c1, rfl, HO1⟩ (Below.refl _ _) (by simp) | exact hK _ _ ⟨_, rfl, hvz, Bq.mk0 _ fa0 rfl⟩ ((Below.refl _ _).alloc (Nat.le_refl _) _) (by simp)))
          | (refine rg_free rfl rfl (fun K' hKK => ?_); fail)
          | (refine rg_free rfl rfl (fun K' hKK => ?_); go_wp2_with (first | (go_at_call 133; (with_reducible refine (spower_any _ s.h s.l h l f (fo_of HG.out.q.h HK.out.fh) (fo_of HG.out.q.l HK.out.fl) HK.out.il.ne f3.out f1.out HPF.out.2).mono ?_); rintro e w1 ⟨c, rfl, ho, hb⟩) | (go_at_call 81; (with_reducible refine (sother_any _ s.h h (fo_of HG.out.q.h HK.out.fh) HK.out.ih.c.h1 f5.out).mono ?_); rintro e w1 ⟨c, rfl, ho, hb⟩) | (go_at_call 81; (with_reducible refine (sother_any _ s.l l (fo_of HG.out.q.l HK.out.fl) HK.out.il.c.h1 f6.out).mono ?_); rintro e w1 ⟨c, rfl, ho, hb⟩) | (go_at_call 133; (with_reducible refine (spower_any _ c1 c2 (1 - h) (1 - l) p HO1 HO2 HK.out.il.qne f4.out f2.out HPF.out.1).mono ?_); rintro e w1 ⟨c, rfl, ho, hb⟩) | (go_at_call 80; (with_reducible refine (fmul_o _ c1 c2 _ _ HO1 HO2).mono ?_); rintro e w1 ⟨c, rfl, ho, hb⟩; rw [HM.out] at ho ⊢)); first | exact hK _ _ rfl (Below.refl _ _) (by simp) | (first | exact hK _ _ ⟨c, rfl, ho⟩ hb (by simp) | exact hK _ _ ⟨c1, rfl, HO1⟩ (Below.refl _ _) (by simp) | exact hK _ _ ⟨_, rfl, hvz, Bq.mk0 _ fa0 rfl⟩ ((Below.refl _ _).alloc (Nat.le_refl _) _) (by simp)))
    all_goals
      intro w' hbw
      repeat (first | refine fin_eq ?_ | refine fin_any (fun x hx => ?_))
      rename_i x15 h15 x16 h16
      obtain ⟨c5, rfl, -⟩ := h15
      obtain ⟨c, rfl, ho⟩ := h16
      obtain ⟨g, rfl, hg, hq⟩ := hx
      have HO := hide ho
      have HQ := hide hq
      have HRW := hide (HRB.out.below hbw)
      have HBW := hide (HF.out.bw.trans (hbw.mono HF.out.bw.size))
      have hvz := HRB.out.sz
      have hrel := hide (show ∃ (g' : Nat) (c' : Fa), Value.pointer (some ⟨g, 0, none⟩) = .pointer (some ⟨g', 0, none⟩) ∧ Hid (Bq ((w'.setCell ⟨g, 0, none⟩ (.slice c.A c.n c.c)).setCell ⟨g, 1, none⟩ (.slice c.B c.m c.d)) g' c') ∧ Hid (Fo ((w'.setCell ⟨g, 0, none⟩ (.slice c.A c.n c.c)).setCell ⟨g, 1, none⟩ (.slice c.B c.m c.d)) c' (some (ratQ l h p f))) ∧ Hid (Rb ((w'.setCell ⟨g, 0, none⟩ (.slice c.A c.n c.c)).setCell ⟨g, 1, none⟩ (.slice c.B c.m c.d)) (w.heap.size + 1)) ∧ Hid (Below w.heap.size w ((w'.setCell ⟨g, 0, none⟩ (.slice c.A c.n c.c)).setCell ⟨g, 1, none⟩ (.slice c.B c.m c.d))) from
        ⟨g, c, rfl, hide (HQ.out.fill c), hide (HO.out.fill HQ.out c), hide (HRW.out.bq.far (by omega) _ _).rb, hide (Rb.end0 HBW.out (by omega) _ _)⟩)
      obtain ⟨c0, c1, cf, cz, -⟩ := HQ.out
      clear ho hq
      refine fin_nil ?_
      simp only [List.setIfInBounds_toArray, List.set_cons_succ, List.set_cons_zero]
    · skip
      refine wpAny_one (i := 19) (by kernel_rfl) ?_
      refine rg_free rfl rfl (fun K' hKK => ?_)
      go_wp2_with fail
      refine wpAny_one (i := 20) (by kernel_rfl) ?_
      refine rg_free rfl rfl (fun K' hKK => ?_)
      go_wp2_with fail
      refine wpAny_done (by kernel_rfl) ?_ _
      go_wp2_with fail
      go_meet
      case rel => exact hrel.out
    · skip
      refine wpAny_two (i := 17) (j := 19) (by kernel_rfl) ?_ ?_
      · skip
        refine rg_free rfl rfl (fun K' hKK => ?_)
        go_wp2_with fail
        refine wpAny_one (i := 19) (by kernel_rfl) ?_
        refine rg_free rfl rfl (fun K' hKK => ?_)
        go_wp2_with fail
        refine wpAny_one (i := 20) (by kernel_rfl) ?_
        refine rg_free rfl rfl (fun K' hKK => ?_)
        go_wp2_with fail
        refine wpAny_done (by kernel_rfl) ?_ _
        go_wp2_with fail
        go_meet
        case rel => exact hrel.out
      · skip
        refine rg_free rfl rfl (fun K' hKK => ?_)
        go_wp2_with fail
        refine wpAny_one (i := 17) (by kernel_rfl) ?_
        refine rg_free rfl rfl (fun K' hKK => ?_)
        go_wp2_with fail
        refine wpAny_one (i := 20) (by kernel_rfl) ?_
        refine rg_free rfl rfl (fun K' hKK => ?_)
        go_wp2_with fail
        refine wpAny_done (by kernel_rfl) ?_ _
        go_wp2_with fail
        go_meet
        case rel => exact hrel.out
  case rest =>
    obtain ⟨g, c, rfl, HQ, HO, HR, HBZ⟩ := hcut
    obtain ⟨c0, c1, cf, cz, -⟩ := HQ.out
    obtain ⟨r0, r1, rf, rz, -⟩ := HR.out
    go_wp2_with fail
    refine bodyPost_ret (v := .agg #[.slice c.A c.n c.c, .slice c.B c.m c.d]) (by simp [results, Tryz.results100, go_sem, *]) rfl ⟨c, rfl, HO.out.put2 HR.out.nb _ _ (by simp), Rb.end0 HBZ.out (by omega) _ _⟩
end Go.Proofs.YtnokfhkcfebimaaGreat
