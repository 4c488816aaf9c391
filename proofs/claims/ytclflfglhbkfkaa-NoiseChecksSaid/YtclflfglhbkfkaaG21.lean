/- Contracts of the functions that these laws reach: part 21: Contracts: Check of a noise model, the program's and the reference's. -/
import Derived.Test.YtclflfglhbkfkaaG19
import Derived.Test.YtclflfglhbkfkaaG20
set_option linter.unusedVariables false
set_option linter.unusedSimpArgs false

/- Contracts: Check of a noise model, the program's and the reference's. -/
namespace Go.Proofs.Ytclflfglhbkfkaa
open Go.RowKit

/-- A right noise model. -/
def nzO : Option Rat → Option Rat → Bool
  | some r, some s => chO (some r) && chO (some s) && decide (0 < r) && decide (r < s) && decide (s < 1)
  | _, _ => false
/-- The box of two fractions. -/
structure FN (w0 v : World) (a b : Fa) (la ka lb kb : List Nat) : Prop where
  bw : Below w0.heap.size w0 v
  ca : v.cell? ⟨w0.heap.size, 0, none⟩ = some (.slice a.A a.n a.c) ∧ v.cell? ⟨w0.heap.size, 1, none⟩ = some (.slice a.B a.m a.d) ∧ v.cell? ⟨w0.heap.size, 2, none⟩ = some (.slice b.A b.n b.c) ∧ v.cell? ⟨w0.heap.size, 3, none⟩ = some (.slice b.B b.m b.d)
  sz : w0.heap.size < v.heap.size
  qa : Fq v a la ka
  qb : Fq v b lb kb
theorem FN.below {w0 v v' : World} {a b : Fa} {la ka lb kb : List Nat} (h : FN w0 v a b la ka lb kb) (hb : Below v.heap.size v v') : FN w0 v' a b la ka lb kb := by
  have h1 := h.sz
  obtain ⟨c0, c1, c2, c3⟩ := h.ca
  refine ⟨h.bw.trans (hb.mono h.bw.size), ⟨?_, ?_, ?_, ?_⟩, Nat.lt_of_lt_of_le h.sz hb.size, h.qa.below hb, h.qb.below hb⟩
  · rw [hb.cell (by simp; omega)]; exact c0
  · rw [hb.cell (by simp; omega)]; exact c1
  · rw [hb.cell (by simp; omega)]; exact c2
  · rw [hb.cell (by simp; omega)]; exact c3
theorem FN.drew {w0 v : World} {a b : Fa} {la ka lb kb : List Nat} (h : FN w0 v a b la ka lb kb) : FN w0 v.drew a b la ka lb kb := h.below (Dr.below ⟨1, rfl⟩)
theorem FN.mk0 {w0 : World} {a b : Fa} {la ka lb kb : List Nat} (ha : Fq w0 a la ka) (hb : Fq w0 b lb kb) (t : TypeId) : FN w0 (w0.alloc (.cells #[.slice a.A a.n a.c, .slice a.B a.m a.d, .slice b.A b.n b.c, .slice b.B b.m b.d] t)) a b la ka lb kb :=
  ⟨(Below.refl _ _).alloc (Nat.le_refl _) _, ⟨by simp [go_sem], by simp [go_sem], by simp [go_sem], by simp [go_sem]⟩, by simp, ha.alloc _, hb.alloc _⟩
theorem nzO_no1 {x y : Option Rat} (h : chO x = false) : nzO x y = false := by
  cases x <;> cases y <;> first | rfl | (simp [nzO, h])
theorem nzO_no2 {x y : Option Rat} (h : chO y = false) : nzO x y = false := by
  cases x <;> cases y <;> first | rfl | (simp [nzO, h])
theorem chO_some {x : Option Rat} (h : chO x = true) : ∃ r, x = some r := by
  cases x with
  | none => cases h
  | some r => exact ⟨r, rfl⟩
theorem fo_of {w : World} {a : Fa} {l k : List Nat} {r : Rat} (h : Fq w a l k) (hA : fracOf l k = some r) : Fo w a (some r) := ⟨by have h1 := fracOf_some hA; rw [h1.1, h1.2.1] at h; exact h, (fracOf_some hA).2.2⟩
theorem fq_len {w : World} {a : Fa} {l k : List Nat} {r : Rat} (h : Fq w a l k) (hA : fracOf l k = some r) : (0 < a.n ↔ 0 < r) ∧ 0 ≤ r := by
  have h1 := fracOf_some hA
  have h2 := h.u.len
  rw [h1.1] at h2
  have h3 := rn_eq_zero h1.2.2.1
  refine ⟨?_, h1.2.2.1⟩
  rw [← h2, List.length_pos_iff, Ne, lm_eq_nil, h3]
  constructor
  · intro h4; exact Rat.lt_of_le_of_ne h1.2.2.1 (fun e => h4 e.symm)
  · intro h4 h5; rw [h5] at h4; exact absurd h4 (by decide)
theorem cmpQ_neg' {r s : Rat} : decide (cmpO (some r) (some s) < 0) = decide (r < s) := decide_eq_decide.2 cmpQ_neg
set_option maxRecDepth 100000 in
set_option maxHeartbeats 8000000 in
theorem nzcheck_any (w : World) (a b : Fa) (la ka lb kb : List Nat) (ha : Fq w a la ka) (hb : Fq w b lb kb) :
    Calls Try.prog 32 #[.agg #[.slice a.A a.n a.c, .slice a.B a.m a.d, .slice b.A b.n b.c, .slice b.B b.m b.d]] w fun e w' => e = .returned (.bool (nzO (fracOf la ka) (fracOf lb kb))) ∧ Below w.heap.size w w' := by
  rcases h1 : chO (fracOf la ka)
  · have H1 := hide h1
    have HX := hide (nzO_no1 (y := fracOf lb kb) h1)
    clear h1
    go_enter Try.func32, Try.ntmps32
    go_upto_region 1 with (fail)
    generalize hW : World.alloc w _ = v
    have HF := hide (show FN w v a b la ka lb kb by rw [← hW]; exact FN.mk0 ha hb _)
    obtain ⟨a0, a1, a2, a3⟩ := HF.out.ca
    have hvz := HF.out.sz
    clear hW ha hb
    apply region_seq 31 [3, 4, 5, 6, 7, 8, 9, 10, 11, 12, 13, 14, 15, 16, 17, 18, 19, 20, 21, 22, 23, 24, 25, 26, 27, 28, 29, 30, 31, 32, 2] [eqV _, eqV _, eqV _, eqV _, eqV _, eqV _, eqV _, eqV _, eqV _, eqV _, eqV _, eqV _, eqV _, eqV _, eqV _, eqV _, eqV _, eqV _, eqV _, eqV _, eqV _, eqV _, eqV _, eqV _, eqV _, eqV _, eqV _, eqV _, eqV _, eqV _, eqV _] [false, false, false, false, false, false, false, false, false, false, false, false, false, false, false, false, false, false, false, false, false, false, false, false, false, false, false, false, false, false, false] (by kernel_rfl) (by decide) rfl rfl rfl (by decide) (by kernel_rfl) (by kernel_rfl) ?stb21 ?steps21 ?fin21
    case stb21 => repeat' (first | exact trivial | apply stb_eq | fail | apply And.intro)
    case steps21 =>
      repeat' (first | exact trivial | apply And.intro)
      all_goals
        intro a' w' hbw hdf hoff hdep K hK
        have o1 := hoff 1 rfl
        (have HF2 := hide (HF.out.below hbw); obtain ⟨y0, y1, y2, y3⟩ := HF2.out.ca)
        replace hdep := hdep _ rfl rfl
        simp only [List.getElem_toArray, List.getElem_cons_succ, List.getElem_cons_zero, List.toList_toArray, depAll, getR, eqV, List.getD_cons_succ, List.getD_cons_zero, and_true] at hdep
        simp only [Nat.zero_add, Nat.reduceAdd, getR, eqV, List.getD_cons_succ, List.getD_cons_zero] at hK
        clear hoff hdf
        skip
        first
          | (refine rg_unwanted rfl rfl rfl (b' := false) (by first | (simp [hdep]; done) | assumption) (by decide) ?_; exact hK _ _ rfl (Below.refl _ _) (by simp))
          | (refine rg_unwanted rfl rfl rfl (b' := true) (by first | (simp [hdep]; done) | assumption) (by decide) ?_; exact hK _ _ rfl (Below.refl _ _) (by simp))
          | (refine rg_wanted rfl rfl rfl (b' := true) (by first | (simp [hdep]; done) | assumption) rfl (fun K' hKK => ?_); go_wp2_with ((go_at_call 34; (with_reducible refine (chance_any _ a la ka HF2.out.qa).mono ?_); rintro e w1 ⟨rfl, hb⟩; rw [H1.out])); first | exact hK _ _ rfl (Below.refl _ _) (by simp) | exact hK _ _ rfl hb (by simp))
          | (refine rg_wanted rfl rfl rfl (b' := false) (by first | (simp [hdep]; done) | assumption) rfl (fun K' hKK => ?_); go_wp2_with ((go_at_call 34; (with_reducible refine (chance_any _ a la ka HF2.out.qa).mono ?_); rintro e w1 ⟨rfl, hb⟩; rw [H1.out])); first | exact hK _ _ rfl (Below.refl _ _) (by simp) | exact hK _ _ rfl hb (by simp))
          | (refine rg_free rfl rfl (fun K' hKK => ?_); fail)
          | (refine rg_free rfl rfl (fun K' hKK => ?_); go_wp2_with ((go_at_call 34; (with_reducible refine (chance_any _ a la ka HF2.out.qa).mono ?_); rintro e w1 ⟨rfl, hb⟩; rw [H1.out])); first | exact hK _ _ rfl (Below.refl _ _) (by simp) | exact hK _ _ rfl hb (by simp))
    intro w' hbw
    repeat (refine fin_eq ?_)
    refine fin_nil ?_
    (simp only [List.setIfInBounds_toArray, List.set_cons_succ, List.set_cons_zero]; refine wpAny_done (by kernel_rfl) ?_ _)
    go_wp2_with fail
    refine bodyPost_ret (v := .bool false) (by simp [results, Try.results32, go_sem, *]) rfl ⟨by rw [HX.out], HF.out.bw.trans (hbw.mono HF.out.bw.size)⟩
  · rcases h2 : chO (fracOf lb kb)
    · have H1 := hide h1
      have H2 := hide h2
      have HX := hide (nzO_no2 (x := fracOf la ka) h2)
      clear h1 h2
      go_enter Try.func32, Try.ntmps32
      go_upto_region 1 with (fail)
      generalize hW : World.alloc w _ = v
      have HF := hide (show FN w v a b la ka lb kb by rw [← hW]; exact FN.mk0 ha hb _)
      obtain ⟨a0, a1, a2, a3⟩ := HF.out.ca
      have hvz := HF.out.sz
      clear hW ha hb
      apply region_seq 31 [3, 4, 5, 6, 7, 8, 9, 10, 11, 12, 13, 14, 15, 16, 17, 18, 19, 20, 21, 22, 23, 24, 25, 26, 27, 28, 29, 30, 31, 32, 2] [eqV _, eqV _, eqV _, eqV _, eqV _, eqV _, eqV _, eqV _, eqV _, eqV _, eqV _, eqV _, eqV _, eqV _, eqV _, eqV _, eqV _, eqV _, eqV _, eqV _, eqV _, eqV _, eqV _, eqV _, eqV _, eqV _, eqV _, eqV _, eqV _, eqV _, eqV _] [false, false, false, false, false, false, false, false, false, false, false, false, false, false, false, false, false, false, false, false, false, false, false, false, false, false, false, false, false, false, false] (by kernel_rfl) (by decide) rfl rfl rfl (by decide) (by kernel_rfl) (by kernel_rfl) ?stb22 ?steps22 ?fin22
      case stb22 => repeat' (first | exact trivial | apply stb_eq | fail | apply And.intro)
      case steps22 =>
        repeat' (first | exact trivial | apply And.intro)
        all_goals
          intro a' w' hbw hdf hoff hdep K hK
          have o1 := hoff 1 rfl
          (have HF2 := hide (HF.out.below hbw); obtain ⟨y0, y1, y2, y3⟩ := HF2.out.ca)
          replace hdep := hdep _ rfl rfl
          simp only [List.getElem_toArray, List.getElem_cons_succ, List.getElem_cons_zero, List.toList_toArray, depAll, getR, eqV, List.getD_cons_succ, List.getD_cons_zero, and_true] at hdep
          simp only [Nat.zero_add, Nat.reduceAdd, getR, eqV, List.getD_cons_succ, List.getD_cons_zero] at hK
          clear hoff hdf
          skip
          first
            | (refine rg_unwanted rfl rfl rfl (b' := false) (by first | (simp [hdep]; done) | assumption) (by decide) ?_; exact hK _ _ rfl (Below.refl _ _) (by simp))
            | (refine rg_unwanted rfl rfl rfl (b' := true) (by first | (simp [hdep]; done) | assumption) (by decide) ?_; exact hK _ _ rfl (Below.refl _ _) (by simp))
            | (refine rg_wanted rfl rfl rfl (b' := true) (by first | (simp [hdep]; done) | assumption) rfl (fun K' hKK => ?_); go_wp2_with (first | (go_at_call 34; (with_reducible refine (chance_any _ a la ka HF2.out.qa).mono ?_); rintro e w1 ⟨rfl, hb⟩; rw [H1.out]) | (go_at_call 34; (with_reducible refine (chance_any _ b lb kb HF2.out.qb).mono ?_); rintro e w1 ⟨rfl, hb⟩; rw [H2.out])); first | exact hK _ _ rfl (Below.refl _ _) (by simp) | exact hK _ _ rfl hb (by simp))
            | (refine rg_wanted rfl rfl rfl (b' := false) (by first | (simp [hdep]; done) | assumption) rfl (fun K' hKK => ?_); go_wp2_with (first | (go_at_call 34; (with_reducible refine (chance_any _ a la ka HF2.out.qa).mono ?_); rintro e w1 ⟨rfl, hb⟩; rw [H1.out]) | (go_at_call 34; (with_reducible refine (chance_any _ b lb kb HF2.out.qb).mono ?_); rintro e w1 ⟨rfl, hb⟩; rw [H2.out])); first | exact hK _ _ rfl (Below.refl _ _) (by simp) | exact hK _ _ rfl hb (by simp))
            | (refine rg_free rfl rfl (fun K' hKK => ?_); fail)
            | (refine rg_free rfl rfl (fun K' hKK => ?_); go_wp2_with (first | (go_at_call 34; (with_reducible refine (chance_any _ a la ka HF2.out.qa).mono ?_); rintro e w1 ⟨rfl, hb⟩; rw [H1.out]) | (go_at_call 34; (with_reducible refine (chance_any _ b lb kb HF2.out.qb).mono ?_); rintro e w1 ⟨rfl, hb⟩; rw [H2.out])); first | exact hK _ _ rfl (Below.refl _ _) (by simp) | exact hK _ _ rfl hb (by simp))
      intro w' hbw
      repeat (refine fin_eq ?_)
      refine fin_nil ?_
      (simp only [List.setIfInBounds_toArray, List.set_cons_succ, List.set_cons_zero]; refine wpAny_done (by kernel_rfl) ?_ _)
      go_wp2_with fail
      refine bodyPost_ret (v := .bool false) (by simp [results, Try.results32, go_sem, *]) rfl ⟨by rw [HX.out], HF.out.bw.trans (hbw.mono HF.out.bw.size)⟩
    · skip
      obtain ⟨r, hA⟩ := chO_some h1
      obtain ⟨s, hB⟩ := chO_some h2
      have HA := hide hA
      have HB := hide hB
      have H1 := hide h1
      have H2 := hide h2
      have hq := fq_len ha hA
      rw [hA] at h1
      rw [hB] at h2
      have HXX := hide (show nzO (fracOf la ka) (fracOf lb kb) = (decide (0 < r) && decide (r < s) && decide (s < 1)) by
        rw [hA, hB]
        show (chO (some r) && chO (some s) && decide (0 < r) && decide (r < s) && decide (s < 1)) = _
        rw [h1, h2, Bool.and_self, Bool.true_and])
      clear hA hB h1 h2
      by_cases h0 : 0 < r
      · have g0 : decide (0 < a.n) = true := decide_eq_true (hq.1.2 h0)
        by_cases h3 : r < s
        · have g3 : decide (cmpO (some r) (some s) < 0) = true := by rw [cmpQ_neg']; exact decide_eq_true h3
          have HX := hide (show nzO (fracOf la ka) (fracOf lb kb) = decide (cmpO (some s) (some 1) < 0) by rw [HXX.out, cmpQ_neg', decide_eq_true h0, decide_eq_true h3]; simp)
          clear h0 h3 hq HXX
          go_enter Try.func32, Try.ntmps32
          go_upto_region 1 with (fail)
          generalize hW : World.alloc w _ = v
          have HF := hide (show FN w v a b la ka lb kb by rw [← hW]; exact FN.mk0 ha hb _)
          obtain ⟨a0, a1, a2, a3⟩ := HF.out.ca
          have hvz := HF.out.sz
          clear hW ha hb
          apply region_seq 31 [3, 4, 5, 6, 7, 8, 9, 10, 11, 12, 13, 14, 15, 16, 17, 18, 19, 20, 21, 22, 23, 24, 25, 26, 27, 28, 29, 30, 31, 32, 2] [eqV _, eqV _, eqV _, eqV _, eqV _, eqV _, eqV _, eqV _, eqV _, eqV _, eqV _, eqV _, eqV _, eqV _, eqV _, eqV _, eqV _, eqV _, eqV _, eqV _, eqV _, eqV _, eqV _, eqV _, eqV _, eqV _, fun x w => ∃ c : Fa, x = .agg #[.slice c.A c.n c.c, .slice c.B c.m c.d] ∧ Fo w c (some 1), eqV _, eqV _, eqV _, eqV _] [false, false, false, false, false, false, false, false, false, false, false, false, false, false, false, false, false, false, false, false, false, false, false, false, false, false, false, false, false, false, false] (by kernel_rfl) (by decide) rfl rfl rfl (by decide) (by kernel_rfl) (by kernel_rfl) ?stb14 ?steps14 ?fin14
          case stb14 => repeat' (first | exact trivial | apply stb_eq | (exact fun x w w' ⟨c, h1, h2⟩ hb => ⟨c, h1, h2.below hb⟩) | apply And.intro)
          case steps14 =>
            repeat' (first | exact trivial | apply And.intro)
            all_goals
              intro a' w' hbw hdf hoff hdep K hK
              have o1 := hoff 1 rfl
              (have HF2 := hide (HF.out.below hbw); obtain ⟨y0, y1, y2, y3⟩ := HF2.out.ca)
              replace hdep := hdep _ rfl rfl
              simp only [List.getElem_toArray, List.getElem_cons_succ, List.getElem_cons_zero, List.toList_toArray, depAll, getR, eqV, List.getD_cons_succ, List.getD_cons_zero, and_true] at hdep
              simp only [Nat.zero_add, Nat.reduceAdd, getR, eqV, List.getD_cons_succ, List.getD_cons_zero] at hK
              clear hoff hdf
              (try (obtain ⟨h28, ⟨c1, h29, HO1⟩, -, hg⟩ := hdep))
              first
                | (refine rg_unwanted rfl rfl rfl (b' := false) (by first | (simp [hdep]; done) | assumption) (by decide) ?_; exact hK _ _ rfl (Below.refl _ _) (by simp))
                | (refine rg_unwanted rfl rfl rfl (b' := true) (by first | (simp [hdep]; done) | assumption) (by decide) ?_; exact hK _ _ rfl (Below.refl _ _) (by simp))
                | (refine rg_wanted rfl rfl rfl (b' := true) (by first | (simp [hdep]; done) | assumption) rfl (fun K' hKK => ?_); go_wp2_with (first | (go_at_call 34; (with_reducible refine (chance_any _ a la ka HF2.out.qa).mono ?_); rintro e w1 ⟨rfl, hb⟩; rw [H1.out]) | (go_at_call 34; (with_reducible refine (chance_any _ b lb kb HF2.out.qb).mono ?_); rintro e w1 ⟨rfl, hb⟩; rw [H2.out]) | (go_at_call 14; (with_reducible refine (fcmp_o _ a b (some r) (some s) (fo_of HF2.out.qa HA.out) (fo_of HF2.out.qb HB.out)).mono ?_); rintro e w1 ⟨rfl, hb⟩) | (go_at_call 64; (with_reducible refine (whole1_any _).mono ?_); rintro e w1 ⟨c1, rfl, ho, hb⟩) | (go_at_call 14; (with_reducible refine (fcmp_o _ b c1 (some s) (some 1) (fo_of HF2.out.qb HB.out) HO1).mono ?_); rintro e w1 ⟨rfl, hb⟩)); first | exact hK _ _ rfl (Below.refl _ _) (by simp) | (first | exact hK _ _ rfl hb (by simp) | exact hK _ _ ⟨c1, rfl, ho⟩ hb (by simp)))
                | (refine rg_wanted rfl rfl rfl (b' := false) (by first | (simp [hdep]; done) | assumption) rfl (fun K' hKK => ?_); go_wp2_with (first | (go_at_call 34; (with_reducible refine (chance_any _ a la ka HF2.out.qa).mono ?_); rintro e w1 ⟨rfl, hb⟩; rw [H1.out]) | (go_at_call 34; (with_reducible refine (chance_any _ b lb kb HF2.out.qb).mono ?_); rintro e w1 ⟨rfl, hb⟩; rw [H2.out]) | (go_at_call 14; (with_reducible refine (fcmp_o _ a b (some r) (some s) (fo_of HF2.out.qa HA.out) (fo_of HF2.out.qb HB.out)).mono ?_); rintro e w1 ⟨rfl, hb⟩) | (go_at_call 64; (with_reducible refine (whole1_any _).mono ?_); rintro e w1 ⟨c1, rfl, ho, hb⟩) | (go_at_call 14; (with_reducible refine (fcmp_o _ b c1 (some s) (some 1) (fo_of HF2.out.qb HB.out) HO1).mono ?_); rintro e w1 ⟨rfl, hb⟩)); first | exact hK _ _ rfl (Below.refl _ _) (by simp) | (first | exact hK _ _ rfl hb (by simp) | exact hK _ _ ⟨c1, rfl, ho⟩ hb (by simp)))
                | (refine rg_free rfl rfl (fun K' hKK => ?_); fail)
                | (refine rg_free rfl rfl (fun K' hKK => ?_); go_wp2_with (first | (go_at_call 34; (with_reducible refine (chance_any _ a la ka HF2.out.qa).mono ?_); rintro e w1 ⟨rfl, hb⟩; rw [H1.out]) | (go_at_call 34; (with_reducible refine (chance_any _ b lb kb HF2.out.qb).mono ?_); rintro e w1 ⟨rfl, hb⟩; rw [H2.out]) | (go_at_call 14; (with_reducible refine (fcmp_o _ a b (some r) (some s) (fo_of HF2.out.qa HA.out) (fo_of HF2.out.qb HB.out)).mono ?_); rintro e w1 ⟨rfl, hb⟩) | (go_at_call 64; (with_reducible refine (whole1_any _).mono ?_); rintro e w1 ⟨c1, rfl, ho, hb⟩) | (go_at_call 14; (with_reducible refine (fcmp_o _ b c1 (some s) (some 1) (fo_of HF2.out.qb HB.out) HO1).mono ?_); rintro e w1 ⟨rfl, hb⟩)); first | exact hK _ _ rfl (Below.refl _ _) (by simp) | (first | exact hK _ _ rfl hb (by simp) | exact hK _ _ ⟨c1, rfl, ho⟩ hb (by simp)))
          intro w' hbw
          repeat (refine fin_eq ?_)
          refine fin_any (fun x26 hx26 => ?_)
          repeat (refine fin_eq ?_)
          refine fin_nil ?_
          (simp only [List.setIfInBounds_toArray, List.set_cons_succ, List.set_cons_zero]; refine wpAny_done (by kernel_rfl) ?_ _)
          go_wp2_with fail
          refine bodyPost_ret (v := .bool (decide (cmpO (some s) (some 1) < 0))) (by simp [results, Try.results32, go_sem, *]) rfl ⟨by rw [HX.out], HF.out.bw.trans (hbw.mono HF.out.bw.size)⟩
        · have g3 : decide (cmpO (some r) (some s) < 0) = false := by rw [cmpQ_neg']; exact decide_eq_false h3
          have HX := hide (show nzO (fracOf la ka) (fracOf lb kb) = false by rw [HXX.out, decide_eq_false h3]; simp)
          clear h0 h3 hq HXX
          go_enter Try.func32, Try.ntmps32
          go_upto_region 1 with (fail)
          generalize hW : World.alloc w _ = v
          have HF := hide (show FN w v a b la ka lb kb by rw [← hW]; exact FN.mk0 ha hb _)
          obtain ⟨a0, a1, a2, a3⟩ := HF.out.ca
          have hvz := HF.out.sz
          clear hW ha hb
          apply region_seq 31 [3, 4, 5, 6, 7, 8, 9, 10, 11, 12, 13, 14, 15, 16, 17, 18, 19, 20, 21, 22, 23, 24, 25, 26, 27, 28, 29, 30, 31, 32, 2] [eqV _, eqV _, eqV _, eqV _, eqV _, eqV _, eqV _, eqV _, eqV _, eqV _, eqV _, eqV _, eqV _, eqV _, eqV _, eqV _, eqV _, eqV _, eqV _, eqV _, eqV _, eqV _, eqV _, eqV _, eqV _, eqV _, eqV _, eqV _, eqV _, eqV _, eqV _] [false, false, false, false, false, false, false, false, false, false, false, false, false, false, false, false, false, false, false, false, false, false, false, false, false, false, false, false, false, false, false] (by kernel_rfl) (by decide) rfl rfl rfl (by decide) (by kernel_rfl) (by kernel_rfl) ?stb23 ?steps23 ?fin23
          case stb23 => repeat' (first | exact trivial | apply stb_eq | fail | apply And.intro)
          case steps23 =>
            repeat' (first | exact trivial | apply And.intro)
            all_goals
              intro a' w' hbw hdf hoff hdep K hK
              have o1 := hoff 1 rfl
              (have HF2 := hide (HF.out.below hbw); obtain ⟨y0, y1, y2, y3⟩ := HF2.out.ca)
              replace hdep := hdep _ rfl rfl
              simp only [List.getElem_toArray, List.getElem_cons_succ, List.getElem_cons_zero, List.toList_toArray, depAll, getR, eqV, List.getD_cons_succ, List.getD_cons_zero, and_true] at hdep
              simp only [Nat.zero_add, Nat.reduceAdd, getR, eqV, List.getD_cons_succ, List.getD_cons_zero] at hK
              clear hoff hdf
              skip
              first
                | (refine rg_unwanted rfl rfl rfl (b' := false) (by first | (simp [hdep]; done) | assumption) (by decide) ?_; exact hK _ _ rfl (Below.refl _ _) (by simp))
                | (refine rg_unwanted rfl rfl rfl (b' := true) (by first | (simp [hdep]; done) | assumption) (by decide) ?_; exact hK _ _ rfl (Below.refl _ _) (by simp))
                | (refine rg_wanted rfl rfl rfl (b' := true) (by first | (simp [hdep]; done) | assumption) rfl (fun K' hKK => ?_); go_wp2_with (first | (go_at_call 34; (with_reducible refine (chance_any _ a la ka HF2.out.qa).mono ?_); rintro e w1 ⟨rfl, hb⟩; rw [H1.out]) | (go_at_call 34; (with_reducible refine (chance_any _ b lb kb HF2.out.qb).mono ?_); rintro e w1 ⟨rfl, hb⟩; rw [H2.out]) | (go_at_call 14; (with_reducible refine (fcmp_o _ a b (some r) (some s) (fo_of HF2.out.qa HA.out) (fo_of HF2.out.qb HB.out)).mono ?_); rintro e w1 ⟨rfl, hb⟩)); first | exact hK _ _ rfl (Below.refl _ _) (by simp) | exact hK _ _ rfl hb (by simp))
                | (refine rg_wanted rfl rfl rfl (b' := false) (by first | (simp [hdep]; done) | assumption) rfl (fun K' hKK => ?_); go_wp2_with (first | (go_at_call 34; (with_reducible refine (chance_any _ a la ka HF2.out.qa).mono ?_); rintro e w1 ⟨rfl, hb⟩; rw [H1.out]) | (go_at_call 34; (with_reducible refine (chance_any _ b lb kb HF2.out.qb).mono ?_); rintro e w1 ⟨rfl, hb⟩; rw [H2.out]) | (go_at_call 14; (with_reducible refine (fcmp_o _ a b (some r) (some s) (fo_of HF2.out.qa HA.out) (fo_of HF2.out.qb HB.out)).mono ?_); rintro e w1 ⟨rfl, hb⟩)); first | exact hK _ _ rfl (Below.refl _ _) (by simp) | exact hK _ _ rfl hb (by simp))
                | (refine rg_free rfl rfl (fun K' hKK => ?_); fail)
                | (refine rg_free rfl rfl (fun K' hKK => ?_); go_wp2_with (first | (go_at_call 34; (with_reducible refine (chance_any _ a la ka HF2.out.qa).mono ?_); rintro e w1 ⟨rfl, hb⟩; rw [H1.out]) | (go_at_call 34; (with_reducible refine (chance_any _ b lb kb HF2.out.qb).mono ?_); rintro e w1 ⟨rfl, hb⟩; rw [H2.out]) | (go_at_call 14; (with_reducible refine (fcmp_o _ a b (some r) (some s) (fo_of HF2.out.qa HA.out) (fo_of HF2.out.qb HB.out)).mono ?_); rintro e w1 ⟨rfl, hb⟩)); first | exact hK _ _ rfl (Below.refl _ _) (by simp) | exact hK _ _ rfl hb (by simp))
          intro w' hbw
          repeat (refine fin_eq ?_)
          refine fin_nil ?_
          (simp only [List.setIfInBounds_toArray, List.set_cons_succ, List.set_cons_zero]; refine wpAny_done (by kernel_rfl) ?_ _)
          go_wp2_with fail
          refine bodyPost_ret (v := .bool false) (by simp [results, Try.results32, go_sem, *]) rfl ⟨by rw [HX.out], HF.out.bw.trans (hbw.mono HF.out.bw.size)⟩
      · have g0 : decide (0 < a.n) = false := decide_eq_false (fun h => h0 (hq.1.1 h))
        have HX := hide (show nzO (fracOf la ka) (fracOf lb kb) = false by rw [HXX.out, decide_eq_false h0]; simp)
        clear h0 hq HXX
        go_enter Try.func32, Try.ntmps32
        go_upto_region 1 with (fail)
        generalize hW : World.alloc w _ = v
        have HF := hide (show FN w v a b la ka lb kb by rw [← hW]; exact FN.mk0 ha hb _)
        obtain ⟨a0, a1, a2, a3⟩ := HF.out.ca
        have hvz := HF.out.sz
        clear hW ha hb
        apply region_seq 31 [3, 4, 5, 6, 7, 8, 9, 10, 11, 12, 13, 14, 15, 16, 17, 18, 19, 20, 21, 22, 23, 24, 25, 26, 27, 28, 29, 30, 31, 32, 2] [eqV _, eqV _, eqV _, eqV _, eqV _, eqV _, eqV _, eqV _, eqV _, eqV _, eqV _, eqV _, eqV _, eqV _, eqV _, eqV _, eqV _, eqV _, eqV _, eqV _, eqV _, eqV _, eqV _, eqV _, eqV _, eqV _, eqV _, eqV _, eqV _, eqV _, eqV _] [false, false, false, false, false, false, false, false, false, false, false, false, false, false, false, false, false, false, false, false, false, false, false, false, false, false, false, false, false, false, false] (by kernel_rfl) (by decide) rfl rfl rfl (by decide) (by kernel_rfl) (by kernel_rfl) ?stb24 ?steps24 ?fin24
        case stb24 => repeat' (first | exact trivial | apply stb_eq | fail | apply And.intro)
        case steps24 =>
          repeat' (first | exact trivial | apply And.intro)
          all_goals
            intro a' w' hbw hdf hoff hdep K hK
            have o1 := hoff 1 rfl
            (have HF2 := hide (HF.out.below hbw); obtain ⟨y0, y1, y2, y3⟩ := HF2.out.ca)
            replace hdep := hdep _ rfl rfl
            simp only [List.getElem_toArray, List.getElem_cons_succ, List.getElem_cons_zero, List.toList_toArray, depAll, getR, eqV, List.getD_cons_succ, List.getD_cons_zero, and_true] at hdep
            simp only [Nat.zero_add, Nat.reduceAdd, getR, eqV, List.getD_cons_succ, List.getD_cons_zero] at hK
            clear hoff hdf
            skip
            first
              | (refine rg_unwanted rfl rfl rfl (b' := false) (by first | (simp [hdep]; done) | assumption) (by decide) ?_; exact hK _ _ rfl (Below.refl _ _) (by simp))
              | (refine rg_unwanted rfl rfl rfl (b' := true) (by first | (simp [hdep]; done) | assumption) (by decide) ?_; exact hK _ _ rfl (Below.refl _ _) (by simp))
              | (refine rg_wanted rfl rfl rfl (b' := true) (by first | (simp [hdep]; done) | assumption) rfl (fun K' hKK => ?_); go_wp2_with (first | (go_at_call 34; (with_reducible refine (chance_any _ a la ka HF2.out.qa).mono ?_); rintro e w1 ⟨rfl, hb⟩; rw [H1.out]) | (go_at_call 34; (with_reducible refine (chance_any _ b lb kb HF2.out.qb).mono ?_); rintro e w1 ⟨rfl, hb⟩; rw [H2.out])); first | exact hK _ _ rfl (Below.refl _ _) (by simp) | exact hK _ _ rfl hb (by simp))
              | (refine rg_wanted rfl rfl rfl (b' := false) (by first | (simp [hdep]; done) | assumption) rfl (fun K' hKK => ?_); go_wp2_with (first | (go_at_call 34; (with_reducible refine (chance_any _ a la ka HF2.out.qa).mono ?_); rintro e w1 ⟨rfl, hb⟩; rw [H1.out]) | (go_at_call 34; (with_reducible refine (chance_any _ b lb kb HF2.out.qb).mono ?_); rintro e w1 ⟨rfl, hb⟩; rw [H2.out])); first | exact hK _ _ rfl (Below.refl _ _) (by simp) | exact hK _ _ rfl hb (by simp))
              | (refine rg_free rfl rfl (fun K' hKK => ?_); fail)
              | (refine rg_free rfl rfl (fun K' hKK => ?_); go_wp2_with (first | (go_at_call 34; (with_reducible refine (chance_any _ a la ka HF2.out.qa).mono ?_); rintro e w1 ⟨rfl, hb⟩; rw [H1.out]) | (go_at_call 34; (with_reducible refine (chance_any _ b lb kb HF2.out.qb).mono ?_); rintro e w1 ⟨rfl, hb⟩; rw [H2.out])); first | exact hK _ _ rfl (Below.refl _ _) (by simp) | exact hK _ _ rfl hb (by simp))
        intro w' hbw
        repeat (refine fin_eq ?_)
        refine fin_nil ?_
        (simp only [List.setIfInBounds_toArray, List.set_cons_succ, List.set_cons_zero]; refine wpAny_done (by kernel_rfl) ?_ _)
        go_wp2_with fail
        refine bodyPost_ret (v := .bool false) (by simp [results, Try.results32, go_sem, *]) rfl ⟨by rw [HX.out], HF.out.bw.trans (hbw.mono HF.out.bw.size)⟩
end Go.Proofs.Ytclflfglhbkfkaa
