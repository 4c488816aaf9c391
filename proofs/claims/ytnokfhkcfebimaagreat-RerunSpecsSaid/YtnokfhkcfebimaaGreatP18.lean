/- Contracts of the functions that these laws reach: part 18: Words for specifications; contracts: sequential.inner, Check. -/
import Derived.Test.YtnokfhkcfebimaaGreatP15
import Derived.Test.YtnokfhkcfebimaaGreatP16
import Derived.Test.YtnokfhkcfebimaaGreatP17
set_option linter.unusedVariables false
set_option linter.unusedSimpArgs false

/- Words for specifications; contracts: sequential.inner, Check. -/
namespace Go.Proofs.YtnokfhkcfebimaaGreat
open Go.RowKit

/-- A specification: its fractions, their limbs, the most runs. -/
structure Sv where
  l : Fa
  h : Fa
  a : Fa
  b : Fa
  m : Int
  ll : List Nat
  lk : List Nat
  hl : List Nat
  hk : List Nat
  al : List Nat
  ak : List Nat
  bl : List Nat
  bk : List Nat
/-- Its cells. -/
def Sv.cs (s : Sv) : List Value := [.slice s.l.A s.l.n s.l.c, .slice s.l.B s.l.m s.l.d, .slice s.h.A s.h.n s.h.c, .slice s.h.B s.h.m s.h.d, .slice s.a.A s.a.n s.a.c, .slice s.a.B s.a.m s.a.d, .slice s.b.A s.b.n s.b.c, .slice s.b.B s.b.m s.b.d, .int .i64 s.m]
structure SQ (w : World) (s : Sv) : Prop where
  l : Fq w s.l s.ll s.lk
  h : Fq w s.h s.hl s.hk
  a : Fq w s.a s.al s.ak
  b : Fq w s.b s.bl s.bk
theorem SQ.below {w w' : World} {s : Sv} (h : SQ w s) (hb : Below w.heap.size w w') : SQ w' s := ⟨h.l.below hb, h.h.below hb, h.a.below hb, h.b.below hb⟩
theorem SQ.alloc {w : World} {s : Sv} (h : SQ w s) (o : Obj) : SQ (w.alloc o) s := ⟨h.l.alloc o, h.h.alloc o, h.a.alloc o, h.b.alloc o⟩
def Sv.ok (s : Sv) : Bool := okS (fracOf s.ll s.lk) (fracOf s.hl s.hk) (fracOf s.al s.ak) (fracOf s.bl s.bk) s.m
/-- The box of a specification. -/
structure FS (w0 v : World) (g : Nat) (s : Sv) : Prop where
  bw : Below w0.heap.size w0 v
  cb : Cb v g s.cs
  q : SQ v s
theorem FS.below {w0 v v' : World} {g : Nat} {s : Sv} (h : FS w0 v g s) (hb : Below v.heap.size v v') : FS w0 v' g s := ⟨h.bw.trans (hb.mono h.bw.size), h.cb.below hb, h.q.below hb⟩
theorem FS.alloc {w0 v : World} {g : Nat} {s : Sv} (h : FS w0 v g s) (o : Obj) : FS w0 (v.alloc o) g s := h.below ((Below.refl _ _).alloc (Nat.le_refl _) _)
theorem FS.mk0 {w : World} {s : Sv} (h : SQ w s) (t : TypeId) : FS w (w.alloc (.cells #[.slice s.l.A s.l.n s.l.c, .slice s.l.B s.l.m s.l.d, .slice s.h.A s.h.n s.h.c, .slice s.h.B s.h.m s.h.d, .slice s.a.A s.a.n s.a.c, .slice s.a.B s.a.m s.a.d, .slice s.b.A s.b.n s.b.c, .slice s.b.B s.b.m s.b.d, .int .i64 s.m] t)) w.heap.size s :=
  ⟨(Below.refl _ _).alloc (Nat.le_refl _) _, Cb.mk0 s.cs (by simp [Sv.cs]) t rfl, h.alloc _⟩
theorem FS.ca {w0 v : World} {g : Nat} {s : Sv} (h : FS w0 v g s) : v.cell? ⟨g, 0, none⟩ = some (.slice s.l.A s.l.n s.l.c) ∧ v.cell? ⟨g, 1, none⟩ = some (.slice s.l.B s.l.m s.l.d) ∧ v.cell? ⟨g, 2, none⟩ = some (.slice s.h.A s.h.n s.h.c) ∧ v.cell? ⟨g, 3, none⟩ = some (.slice s.h.B s.h.m s.h.d) ∧ v.cell? ⟨g, 4, none⟩ = some (.slice s.a.A s.a.n s.a.c) ∧ v.cell? ⟨g, 5, none⟩ = some (.slice s.a.B s.a.m s.a.d) ∧ v.cell? ⟨g, 6, none⟩ = some (.slice s.b.A s.b.n s.b.c) ∧ v.cell? ⟨g, 7, none⟩ = some (.slice s.b.B s.b.m s.b.d) ∧ v.cell? ⟨g, 8, none⟩ = some (.int .i64 s.m) ∧ g < v.heap.size :=
  ⟨h.cb.cell 0 _ rfl, h.cb.cell 1 _ rfl, h.cb.cell 2 _ rfl, h.cb.cell 3 _ rfl, h.cb.cell 4 _ rfl, h.cb.cell 5 _ rfl, h.cb.cell 6 _ rfl, h.cb.cell 7 _ rfl, h.cb.cell 8 _ rfl, h.cb.sz⟩
theorem cmp_lt (o o' : Option Rat) : decide (cmpO o o' < 0) = ltO o o' := by
  cases o with
  | none => cases o' <;> rfl
  | some r =>
    cases o' with
    | none => rfl
    | some s => exact decide_eq_decide.2 cmpQ_neg
theorem innO_no {o : Option Rat} (h : chO o = false) : innO o = false := by
  cases o with
  | none => rfl
  | some r => simp [innO, h]
theorem innO_some {r : Rat} (h : chO (some r) = true) : innO (some r) = (decide (0 < r) && decide (r < 1)) := by simp [innO, h]
set_option maxRecDepth 100000 in
set_option maxHeartbeats 8000000 in
theorem sinner_any (w : World) (a : Fa) (l k : List Nat) (hq : Fq w a l k) :
    Calls Tryz.prog 70 #[.agg #[.slice a.A a.n a.c, .slice a.B a.m a.d]] w fun e w' => e = .returned (.bool (innO (fracOf l k))) ∧ Below w.heap.size w w' := by
  rcases h1 : chO (fracOf l k)
  · have H1 := hide h1
    have HX := hide (innO_no h1)
    clear h1
    go_enter Tryz.func70, Tryz.ntmps70
    go_upto_region 1 with (fail)
    generalize hW : World.alloc w _ = v
    have HB := hide (show Cb v w.heap.size [.slice a.A a.n a.c, .slice a.B a.m a.d] by rw [← hW]; exact Cb.mk0 _ (by simp) _ rfl)
    have HQ0 := hide (show Fq v a l k by rw [← hW]; exact hq.alloc _)
    have HBV := hide (show Below w.heap.size w v by rw [← hW]; exact (Below.refl _ _).alloc (Nat.le_refl _) _)
    clear hW hq
    apply region_seq 15 [3, 4, 5, 6, 7, 8, 9, 10, 11, 12, 13, 14, 15, 16, 2] [eqV _, eqV _, eqV _, eqV _, eqV _, eqV _, eqV _, eqV _, eqV _, eqV _, eqV _, eqV _, eqV _, eqV _, eqV _] [false, false, false, false, false, false, false, false, false, false, false, false, false, false, false] (by kernel_rfl) (by decide) rfl rfl rfl (by decide) (by kernel_rfl) (by kernel_rfl) ?stb16 ?steps16 ?fin16
    case stb16 => repeat' (first | exact trivial | apply stb_eq | fail | apply And.intro)
    case steps16 =>
      repeat' (first | exact trivial | apply And.intro)
      all_goals
        intro a' w' hbw hdf hoff hdep K hK
        have o1 := hoff 1 rfl
        (have HC := hide (HB.out.below hbw); have HQ := hide (HQ0.out.below hbw); have y0 := HC.out.cell 0 _ rfl; have y1 := HC.out.cell 1 _ rfl)
        replace hdep := hdep _ rfl
        simp only [List.getElem_toArray, List.getElem_cons_succ, List.getElem_cons_zero, List.toList_toArray, depAll, binds_data, binds_chain, binds_guard, binds_phase, binds_text, binds_gc, cond_true, cond_false, true_and, getR, eqV, List.getD_cons_succ, List.getD_cons_zero, and_true] at hdep
        simp only [Nat.zero_add, Nat.reduceAdd, getR, eqV, List.getD_cons_succ, List.getD_cons_zero] at hK
        clear hoff hdf
        skip
        first
          | (refine rg_unwanted rfl rfl rfl (b' := false) (by first | (simp [hdep]; done) | assumption) (by decide) ?_; exact hK _ _ rfl (Below.refl _ _) (by simp))
          | (refine rg_unwanted rfl rfl rfl (b' := true) (by first | (simp [hdep]; done) | assumption) (by decide) ?_; exact hK _ _ rfl (Below.refl _ _) (by simp))
          | (refine rg_wanted rfl rfl rfl (b' := true) (by first | (simp [hdep]; done) | assumption) rfl (fun K' hKK => ?_); go_wp2_with (go_at_call 43; (with_reducible refine (chance_any _ a l k HQ.out).mono ?_); rintro e w1 ⟨rfl, hb⟩; rw [H1.out]); first | exact hK _ _ rfl (Below.refl _ _) (by simp) | exact hK _ _ rfl hb (by simp))
          | (refine rg_wanted rfl rfl rfl (b' := false) (by first | (simp [hdep]; done) | assumption) rfl (fun K' hKK => ?_); go_wp2_with (go_at_call 43; (with_reducible refine (chance_any _ a l k HQ.out).mono ?_); rintro e w1 ⟨rfl, hb⟩; rw [H1.out]); first | exact hK _ _ rfl (Below.refl _ _) (by simp) | exact hK _ _ rfl hb (by simp))
          | (refine rg_free rfl rfl (fun K' hKK => ?_); fail)
          | (refine rg_free rfl rfl (fun K' hKK => ?_); go_wp2_with (go_at_call 43; (with_reducible refine (chance_any _ a l k HQ.out).mono ?_); rintro e w1 ⟨rfl, hb⟩; rw [H1.out]); first | exact hK _ _ rfl (Below.refl _ _) (by simp) | exact hK _ _ rfl hb (by simp))
    intro w' hbw
    repeat (refine fin_eq ?_)
    refine fin_nil ?_
    (simp only [List.setIfInBounds_toArray, List.set_cons_succ, List.set_cons_zero]; refine wpAny_done (by kernel_rfl) ?_ _)
    go_wp2_with fail
    refine bodyPost_ret (v := .bool false) (by simp [results, Tryz.results70, go_sem, *]) rfl ⟨by rw [HX.out], HBV.out.trans (hbw.mono HBV.out.size)⟩
  · obtain ⟨r, hA⟩ := chO_some h1
    have HA := hide hA
    have H1 := hide h1
    have hn := fq_len hq hA
    have HXX := hide (show innO (fracOf l k) = (decide (0 < r) && decide (r < 1)) by rw [hA] at h1 ⊢; exact innO_some h1)
    clear hA h1
    by_cases h0 : 0 < r
    · have g0 : decide (0 < a.n) = true := decide_eq_true (hn.1.2 h0)
      have HX := hide (show innO (fracOf l k) = decide (cmpO (some r) (some 1) < 0) by rw [HXX.out, decide_eq_true h0, cmp_lt]; simp [ltO])
      clear h0 hn HXX
      go_enter Tryz.func70, Tryz.ntmps70
      go_upto_region 1 with (fail)
      generalize hW : World.alloc w _ = v
      have HB := hide (show Cb v w.heap.size [.slice a.A a.n a.c, .slice a.B a.m a.d] by rw [← hW]; exact Cb.mk0 _ (by simp) _ rfl)
      have HQ0 := hide (show Fq v a l k by rw [← hW]; exact hq.alloc _)
      have HBV := hide (show Below w.heap.size w v by rw [← hW]; exact (Below.refl _ _).alloc (Nat.le_refl _) _)
      clear hW hq
      apply region_seq 15 [3, 4, 5, 6, 7, 8, 9, 10, 11, 12, 13, 14, 15, 16, 2] [eqV _, eqV _, eqV _, eqV _, eqV _, eqV _, eqV _, eqV _, eqV _, eqV _, fun x w => ∃ c : Fa, x = .agg #[.slice c.A c.n c.c, .slice c.B c.m c.d] ∧ Fo w c (some 1), eqV _, eqV _, eqV _, eqV _] [false, false, false, false, false, false, false, false, false, false, false, false, false, false, false] (by kernel_rfl) (by decide) rfl rfl rfl (by decide) (by kernel_rfl) (by kernel_rfl) ?stb17 ?steps17 ?fin17
      case stb17 => repeat' (first | exact trivial | apply stb_eq | (exact fun x w w' ⟨c, h1, h2⟩ hb => ⟨c, h1, h2.below hb⟩) | apply And.intro)
      case steps17 =>
        repeat' (first | exact trivial | apply And.intro)
        all_goals
          intro a' w' hbw hdf hoff hdep K hK
          have o1 := hoff 1 rfl
          (have HC := hide (HB.out.below hbw); have HQ := hide (HQ0.out.below hbw); have y0 := HC.out.cell 0 _ rfl; have y1 := HC.out.cell 1 _ rfl)
          replace hdep := hdep _ rfl
          simp only [List.getElem_toArray, List.getElem_cons_succ, List.getElem_cons_zero, List.toList_toArray, depAll, binds_data, binds_chain, binds_guard, binds_phase, binds_text, binds_gc, cond_true, cond_false, true_and, getR, eqV, List.getD_cons_succ, List.getD_cons_zero, and_true] at hdep
          simp only [Nat.zero_add, Nat.reduceAdd, getR, eqV, List.getD_cons_succ, List.getD_cons_zero] at hK
          clear hoff hdf
          (try (obtain ⟨h12, ⟨c1, h13, HO1⟩, -, hg⟩ := hdep))
          first
            | (refine rg_unwanted rfl rfl rfl (b' := false) (by first | (simp [hdep]; done) | assumption) (by decide) ?_; exact hK _ _ rfl (Below.refl _ _) (by simp))
            | (refine rg_unwanted rfl rfl rfl (b' := true) (by first | (simp [hdep]; done) | assumption) (by decide) ?_; exact hK _ _ rfl (Below.refl _ _) (by simp))
            | (refine rg_wanted rfl rfl rfl (b' := true) (by first | (simp [hdep]; done) | assumption) rfl (fun K' hKK => ?_); go_wp2_with (first | (go_at_call 43; (with_reducible refine (chance_any _ a l k HQ.out).mono ?_); rintro e w1 ⟨rfl, hb⟩; rw [H1.out]) | (go_at_call 76; (with_reducible refine (swhole1_any _).mono ?_); rintro e w1 ⟨c1, rfl, ho, hb⟩) | (go_at_call 71; (with_reducible refine (fcmp_o _ a c1 (some r) (some 1) (fo_of HQ.out HA.out) HO1).mono ?_); rintro e w1 ⟨rfl, hb⟩)); first | exact hK _ _ rfl (Below.refl _ _) (by simp) | (first | exact hK _ _ rfl hb (by simp) | exact hK _ _ ⟨c1, rfl, ho⟩ hb (by simp)))
            | (refine rg_wanted rfl rfl rfl (b' := false) (by first | (simp [hdep]; done) | assumption) rfl (fun K' hKK => ?_); go_wp2_with (first | (go_at_call 43; (with_reducible refine (chance_any _ a l k HQ.out).mono ?_); rintro e w1 ⟨rfl, hb⟩; rw [H1.out]) | (go_at_call 76; (with_reducible refine (swhole1_any _).mono ?_); rintro e w1 ⟨c1, rfl, ho, hb⟩) | (go_at_call 71; (with_reducible refine (fcmp_o _ a c1 (some r) (some 1) (fo_of HQ.out HA.out) HO1).mono ?_); rintro e w1 ⟨rfl, hb⟩)); first | exact hK _ _ rfl (Below.refl _ _) (by simp) | (first | exact hK _ _ rfl hb (by simp) | exact hK _ _ ⟨c1, rfl, ho⟩ hb (by simp)))
            | (refine rg_free rfl rfl (fun K' hKK => ?_); fail)
            | (refine rg_free rfl rfl (fun K' hKK => ?_); go_wp2_with (first | (go_at_call 43; (with_reducible refine (chance_any _ a l k HQ.out).mono ?_); rintro e w1 ⟨rfl, hb⟩; rw [H1.out]) | (go_at_call 76; (with_reducible refine (swhole1_any _).mono ?_); rintro e w1 ⟨c1, rfl, ho, hb⟩) | (go_at_call 71; (with_reducible refine (fcmp_o _ a c1 (some r) (some 1) (fo_of HQ.out HA.out) HO1).mono ?_); rintro e w1 ⟨rfl, hb⟩)); first | exact hK _ _ rfl (Below.refl _ _) (by simp) | (first | exact hK _ _ rfl hb (by simp) | exact hK _ _ ⟨c1, rfl, ho⟩ hb (by simp)))
      intro w' hbw
      repeat (refine fin_eq ?_)
      refine fin_any (fun x9 hx9 => ?_)
      repeat (refine fin_eq ?_)
      refine fin_nil ?_
      (simp only [List.setIfInBounds_toArray, List.set_cons_succ, List.set_cons_zero]; refine wpAny_done (by kernel_rfl) ?_ _)
      go_wp2_with fail
      refine bodyPost_ret (v := .bool (decide (cmpO (some r) (some 1) < 0))) (by simp [results, Tryz.results70, go_sem, *]) rfl ⟨by rw [HX.out], HBV.out.trans (hbw.mono HBV.out.size)⟩
    · have g0 : decide (0 < a.n) = false := decide_eq_false (fun h => h0 (hn.1.1 h))
      have HX := hide (show innO (fracOf l k) = false by rw [HXX.out, decide_eq_false h0]; rfl)
      clear h0 hn HXX
      go_enter Tryz.func70, Tryz.ntmps70
      go_upto_region 1 with (fail)
      generalize hW : World.alloc w _ = v
      have HB := hide (show Cb v w.heap.size [.slice a.A a.n a.c, .slice a.B a.m a.d] by rw [← hW]; exact Cb.mk0 _ (by simp) _ rfl)
      have HQ0 := hide (show Fq v a l k by rw [← hW]; exact hq.alloc _)
      have HBV := hide (show Below w.heap.size w v by rw [← hW]; exact (Below.refl _ _).alloc (Nat.le_refl _) _)
      clear hW hq
      apply region_seq 15 [3, 4, 5, 6, 7, 8, 9, 10, 11, 12, 13, 14, 15, 16, 2] [eqV _, eqV _, eqV _, eqV _, eqV _, eqV _, eqV _, eqV _, eqV _, eqV _, eqV _, eqV _, eqV _, eqV _, eqV _] [false, false, false, false, false, false, false, false, false, false, false, false, false, false, false] (by kernel_rfl) (by decide) rfl rfl rfl (by decide) (by kernel_rfl) (by kernel_rfl) ?stb18 ?steps18 ?fin18
      case stb18 => repeat' (first | exact trivial | apply stb_eq | fail | apply And.intro)
      case steps18 =>
        repeat' (first | exact trivial | apply And.intro)
        all_goals
          intro a' w' hbw hdf hoff hdep K hK
          have o1 := hoff 1 rfl
          (have HC := hide (HB.out.below hbw); have HQ := hide (HQ0.out.below hbw); have y0 := HC.out.cell 0 _ rfl; have y1 := HC.out.cell 1 _ rfl)
          replace hdep := hdep _ rfl
          simp only [List.getElem_toArray, List.getElem_cons_succ, List.getElem_cons_zero, List.toList_toArray, depAll, binds_data, binds_chain, binds_guard, binds_phase, binds_text, binds_gc, cond_true, cond_false, true_and, getR, eqV, List.getD_cons_succ, List.getD_cons_zero, and_true] at hdep
          simp only [Nat.zero_add, Nat.reduceAdd, getR, eqV, List.getD_cons_succ, List.getD_cons_zero] at hK
          clear hoff hdf
          skip
          first
            | (refine rg_unwanted rfl rfl rfl (b' := false) (by first | (simp [hdep]; done) | assumption) (by decide) ?_; exact hK _ _ rfl (Below.refl _ _) (by simp))
            | (refine rg_unwanted rfl rfl rfl (b' := true) (by first | (simp [hdep]; done) | assumption) (by decide) ?_; exact hK _ _ rfl (Below.refl _ _) (by simp))
            | (refine rg_wanted rfl rfl rfl (b' := true) (by first | (simp [hdep]; done) | assumption) rfl (fun K' hKK => ?_); go_wp2_with (go_at_call 43; (with_reducible refine (chance_any _ a l k HQ.out).mono ?_); rintro e w1 ⟨rfl, hb⟩; rw [H1.out]); first | exact hK _ _ rfl (Below.refl _ _) (by simp) | exact hK _ _ rfl hb (by simp))
            | (refine rg_wanted rfl rfl rfl (b' := false) (by first | (simp [hdep]; done) | assumption) rfl (fun K' hKK => ?_); go_wp2_with (go_at_call 43; (with_reducible refine (chance_any _ a l k HQ.out).mono ?_); rintro e w1 ⟨rfl, hb⟩; rw [H1.out]); first | exact hK _ _ rfl (Below.refl _ _) (by simp) | exact hK _ _ rfl hb (by simp))
            | (refine rg_free rfl rfl (fun K' hKK => ?_); fail)
            | (refine rg_free rfl rfl (fun K' hKK => ?_); go_wp2_with (go_at_call 43; (with_reducible refine (chance_any _ a l k HQ.out).mono ?_); rintro e w1 ⟨rfl, hb⟩; rw [H1.out]); first | exact hK _ _ rfl (Below.refl _ _) (by simp) | exact hK _ _ rfl hb (by simp))
      intro w' hbw
      repeat (refine fin_eq ?_)
      refine fin_nil ?_
      (simp only [List.setIfInBounds_toArray, List.set_cons_succ, List.set_cons_zero]; refine wpAny_done (by kernel_rfl) ?_ _)
      go_wp2_with fail
      refine bodyPost_ret (v := .bool false) (by simp [results, Tryz.results70, go_sem, *]) rfl ⟨by rw [HX.out], HBV.out.trans (hbw.mono HBV.out.size)⟩
set_option maxRecDepth 100000 in
set_option maxHeartbeats 8000000 in
theorem scheck_any (w : World) (s : Sv) (hq : SQ w s) :
    Calls Tryz.prog 42 #[.agg s.cs.toArray] w fun e w' => e = .returned (.bool s.ok) ∧ Below w.heap.size w w' := by
  have HXX := hide (show s.ok = (innO (fracOf s.ll s.lk) && innO (fracOf s.hl s.hk) && innO (fracOf s.al s.ak) && innO (fracOf s.bl s.bk) && ltO (fracOf s.ll s.lk) (fracOf s.hl s.hk) && decide (1 ≤ s.m) && decide (s.m ≤ 32)) from rfl)
  show Calls Tryz.prog 42 #[.agg #[.slice s.l.A s.l.n s.l.c, .slice s.l.B s.l.m s.l.d, .slice s.h.A s.h.n s.h.c, .slice s.h.B s.h.m s.h.d, .slice s.a.A s.a.n s.a.c, .slice s.a.B s.a.m s.a.d, .slice s.b.A s.b.n s.b.c, .slice s.b.B s.b.m s.b.d, .int .i64 s.m]] w _
  rcases h1 : innO (fracOf s.ll s.lk)
  · have HX := hide (show s.ok = false by rw [HXX.out, h1]; simp)
    have H1 := hide h1
    clear h1 HXX
    go_enter Tryz.func42, Tryz.ntmps42
    go_upto_region 1 with (fail)
    generalize hW : World.alloc w _ = v
    have HF := hide (show FS w v w.heap.size s by rw [← hW]; exact FS.mk0 hq _)
    obtain ⟨a0, a1, a2, a3, a4, a5, a6, a7, a8, a9⟩ := HF.out.ca
    clear hW hq
    go_wp2_with (go_at_call 70; (with_reducible refine (sinner_any _ s.l _ _ HF.out.q.l).mono ?_); rintro e w1 ⟨rfl, hb⟩; rw [H1.out]; have HF1 := hide (HF.out.below hb); obtain ⟨b0, b1, b2, b3, b4, b5, b6, b7, b8, b9⟩ := HF1.out.ca; clear hb)
    refine bodyPost_ret (v := .bool false) (by simp [results, Tryz.results42, go_sem, *]) rfl ⟨by rw [HX.out], HF1.out.bw⟩
  rcases h2 : innO (fracOf s.hl s.hk)
  · have HX := hide (show s.ok = false by rw [HXX.out, h2]; simp)
    have H1 := hide h1
    have H2 := hide h2
    clear h1 h2 HXX
    go_enter Tryz.func42, Tryz.ntmps42
    go_upto_region 1 with (fail)
    generalize hW : World.alloc w _ = v
    have HF := hide (show FS w v w.heap.size s by rw [← hW]; exact FS.mk0 hq _)
    obtain ⟨a0, a1, a2, a3, a4, a5, a6, a7, a8, a9⟩ := HF.out.ca
    clear hW hq
    go_wp2_with (first | (go_at_call 70; (with_reducible refine (sinner_any _ s.l _ _ HF.out.q.l).mono ?_); rintro e w1 ⟨rfl, hb⟩; rw [H1.out]; have HF1 := hide (HF.out.below hb); obtain ⟨b0, b1, b2, b3, b4, b5, b6, b7, b8, b9⟩ := HF1.out.ca; clear hb) | (go_at_call 70; (with_reducible refine (sinner_any _ s.h _ _ HF1.out.q.h).mono ?_); rintro e w2 ⟨rfl, hb⟩; rw [H2.out]; have HF2 := hide (HF1.out.below hb); obtain ⟨c0, c1, c2, c3, c4, c5, c6, c7, c8, c9⟩ := HF2.out.ca; clear hb))
    refine bodyPost_ret (v := .bool false) (by simp [results, Tryz.results42, go_sem, *]) rfl ⟨by rw [HX.out], HF2.out.bw⟩
  rcases h3 : innO (fracOf s.al s.ak)
  · have HX := hide (show s.ok = false by rw [HXX.out, h3]; simp)
    have H1 := hide h1
    have H2 := hide h2
    have H3 := hide h3
    clear h1 h2 h3 HXX
    go_enter Tryz.func42, Tryz.ntmps42
    go_upto_region 1 with (fail)
    generalize hW : World.alloc w _ = v
    have HF := hide (show FS w v w.heap.size s by rw [← hW]; exact FS.mk0 hq _)
    obtain ⟨a0, a1, a2, a3, a4, a5, a6, a7, a8, a9⟩ := HF.out.ca
    clear hW hq
    go_wp2_with (first | (go_at_call 70; (with_reducible refine (sinner_any _ s.l _ _ HF.out.q.l).mono ?_); rintro e w1 ⟨rfl, hb⟩; rw [H1.out]; have HF1 := hide (HF.out.below hb); obtain ⟨b0, b1, b2, b3, b4, b5, b6, b7, b8, b9⟩ := HF1.out.ca; clear hb) | (go_at_call 70; (with_reducible refine (sinner_any _ s.h _ _ HF1.out.q.h).mono ?_); rintro e w2 ⟨rfl, hb⟩; rw [H2.out]; have HF2 := hide (HF1.out.below hb); obtain ⟨c0, c1, c2, c3, c4, c5, c6, c7, c8, c9⟩ := HF2.out.ca; clear hb) | (go_at_call 70; (with_reducible refine (sinner_any _ s.a _ _ HF2.out.q.a).mono ?_); rintro e w3 ⟨rfl, hb⟩; rw [H3.out]; have HF3 := hide (HF2.out.below hb); obtain ⟨d0, d1, d2, d3, d4, d5, d6, d7, d8, d9⟩ := HF3.out.ca; clear hb))
    refine bodyPost_ret (v := .bool false) (by simp [results, Tryz.results42, go_sem, *]) rfl ⟨by rw [HX.out], HF3.out.bw⟩
  rcases h4 : innO (fracOf s.bl s.bk)
  · have HX := hide (show s.ok = false by rw [HXX.out, h4]; simp)
    have H1 := hide h1
    have H2 := hide h2
    have H3 := hide h3
    have H4 := hide h4
    clear h1 h2 h3 h4 HXX
    go_enter Tryz.func42, Tryz.ntmps42
    go_upto_region 1 with (fail)
    generalize hW : World.alloc w _ = v
    have HF := hide (show FS w v w.heap.size s by rw [← hW]; exact FS.mk0 hq _)
    obtain ⟨a0, a1, a2, a3, a4, a5, a6, a7, a8, a9⟩ := HF.out.ca
    clear hW hq
    go_wp2_with (first | (go_at_call 70; (with_reducible refine (sinner_any _ s.l _ _ HF.out.q.l).mono ?_); rintro e w1 ⟨rfl, hb⟩; rw [H1.out]; have HF1 := hide (HF.out.below hb); obtain ⟨b0, b1, b2, b3, b4, b5, b6, b7, b8, b9⟩ := HF1.out.ca; clear hb) | (go_at_call 70; (with_reducible refine (sinner_any _ s.h _ _ HF1.out.q.h).mono ?_); rintro e w2 ⟨rfl, hb⟩; rw [H2.out]; have HF2 := hide (HF1.out.below hb); obtain ⟨c0, c1, c2, c3, c4, c5, c6, c7, c8, c9⟩ := HF2.out.ca; clear hb) | (go_at_call 70; (with_reducible refine (sinner_any _ s.a _ _ HF2.out.q.a).mono ?_); rintro e w3 ⟨rfl, hb⟩; rw [H3.out]; have HF3 := hide (HF2.out.below hb); obtain ⟨d0, d1, d2, d3, d4, d5, d6, d7, d8, d9⟩ := HF3.out.ca; clear hb) | (go_at_call 70; (with_reducible refine (sinner_any _ s.b _ _ HF3.out.q.b).mono ?_); rintro e w4 ⟨rfl, hb⟩; rw [H4.out]; have HF4 := hide (HF3.out.below hb); obtain ⟨e0, e1, e2, e3, e4, e5, e6, e7, e8, e9⟩ := HF4.out.ca; clear hb))
    refine bodyPost_ret (v := .bool false) (by simp [results, Tryz.results42, go_sem, *]) rfl ⟨by rw [HX.out], HF4.out.bw⟩
  have H1 := hide h1
  have H2 := hide h2
  have H3 := hide h3
  have H4 := hide h4
  have HY := hide (show s.ok = (ltO (fracOf s.ll s.lk) (fracOf s.hl s.hk) && decide (1 ≤ s.m) && decide (s.m ≤ 32)) by rw [HXX.out, h1, h2, h3, h4]; simp)
  clear h1 h2 h3 h4 HXX
  rcases h5 : ltO (fracOf s.ll s.lk) (fracOf s.hl s.hk)
  · have HX := hide (show s.ok = false by rw [HY.out, h5]; simp)
    have g5 : decide (cmpO (fracOf s.ll s.lk) (fracOf s.hl s.hk) < 0) = false := by rw [cmp_lt]; exact h5
    clear h5 HY
    go_enter Tryz.func42, Tryz.ntmps42
    go_upto_region 1 with (fail)
    generalize hW : World.alloc w _ = v
    have HF := hide (show FS w v w.heap.size s by rw [← hW]; exact FS.mk0 hq _)
    obtain ⟨a0, a1, a2, a3, a4, a5, a6, a7, a8, a9⟩ := HF.out.ca
    clear hW hq
    go_wp2_with (first | (go_at_call 70; (with_reducible refine (sinner_any _ s.l _ _ HF.out.q.l).mono ?_); rintro e w1 ⟨rfl, hb⟩; rw [H1.out]; have HF1 := hide (HF.out.below hb); obtain ⟨b0, b1, b2, b3, b4, b5, b6, b7, b8, b9⟩ := HF1.out.ca; clear hb) | (go_at_call 70; (with_reducible refine (sinner_any _ s.h _ _ HF1.out.q.h).mono ?_); rintro e w2 ⟨rfl, hb⟩; rw [H2.out]; have HF2 := hide (HF1.out.below hb); obtain ⟨c0, c1, c2, c3, c4, c5, c6, c7, c8, c9⟩ := HF2.out.ca; clear hb) | (go_at_call 70; (with_reducible refine (sinner_any _ s.a _ _ HF2.out.q.a).mono ?_); rintro e w3 ⟨rfl, hb⟩; rw [H3.out]; have HF3 := hide (HF2.out.below hb); obtain ⟨d0, d1, d2, d3, d4, d5, d6, d7, d8, d9⟩ := HF3.out.ca; clear hb) | (go_at_call 70; (with_reducible refine (sinner_any _ s.b _ _ HF3.out.q.b).mono ?_); rintro e w4 ⟨rfl, hb⟩; rw [H4.out]; have HF4 := hide (HF3.out.below hb); obtain ⟨e0, e1, e2, e3, e4, e5, e6, e7, e8, e9⟩ := HF4.out.ca; clear hb) | (go_at_call 71; (with_reducible refine (fcmp_any _ s.l s.h _ _ _ _ HF4.out.q.l HF4.out.q.h).mono ?_); rintro e w5 ⟨rfl, hb⟩; have HF5 := hide (HF4.out.below hb); obtain ⟨f0, f1, f2, f3, f4, f5, f6, f7, f8, f9⟩ := HF5.out.ca; clear hb))
    refine bodyPost_ret (v := .bool false) (by simp [results, Tryz.results42, go_sem, *]) rfl ⟨by rw [HX.out], HF5.out.bw⟩
  have g5 : decide (cmpO (fracOf s.ll s.lk) (fracOf s.hl s.hk) < 0) = true := by rw [cmp_lt]; exact h5
  have HZ := hide (show s.ok = (decide (1 ≤ s.m) && decide (s.m ≤ 32)) by rw [HY.out, h5]; simp)
  clear h5 HY
  by_cases h6 : 1 ≤ s.m
  · have HX := hide (show s.ok = decide (s.m ≤ 32) by rw [HZ.out, decide_eq_true h6]; simp)
    have g6 : decide (1 ≤ s.m) = true := decide_eq_true h6
    clear h6 HZ
    go_enter Tryz.func42, Tryz.ntmps42
    go_upto_region 1 with (fail)
    generalize hW : World.alloc w _ = v
    have HF := hide (show FS w v w.heap.size s by rw [← hW]; exact FS.mk0 hq _)
    obtain ⟨a0, a1, a2, a3, a4, a5, a6, a7, a8, a9⟩ := HF.out.ca
    clear hW hq
    go_wp2_with (first | (go_at_call 70; (with_reducible refine (sinner_any _ s.l _ _ HF.out.q.l).mono ?_); rintro e w1 ⟨rfl, hb⟩; rw [H1.out]; have HF1 := hide (HF.out.below hb); obtain ⟨b0, b1, b2, b3, b4, b5, b6, b7, b8, b9⟩ := HF1.out.ca; clear hb) | (go_at_call 70; (with_reducible refine (sinner_any _ s.h _ _ HF1.out.q.h).mono ?_); rintro e w2 ⟨rfl, hb⟩; rw [H2.out]; have HF2 := hide (HF1.out.below hb); obtain ⟨c0, c1, c2, c3, c4, c5, c6, c7, c8, c9⟩ := HF2.out.ca; clear hb) | (go_at_call 70; (with_reducible refine (sinner_any _ s.a _ _ HF2.out.q.a).mono ?_); rintro e w3 ⟨rfl, hb⟩; rw [H3.out]; have HF3 := hide (HF2.out.below hb); obtain ⟨d0, d1, d2, d3, d4, d5, d6, d7, d8, d9⟩ := HF3.out.ca; clear hb) | (go_at_call 70; (with_reducible refine (sinner_any _ s.b _ _ HF3.out.q.b).mono ?_); rintro e w4 ⟨rfl, hb⟩; rw [H4.out]; have HF4 := hide (HF3.out.below hb); obtain ⟨e0, e1, e2, e3, e4, e5, e6, e7, e8, e9⟩ := HF4.out.ca; clear hb) | (go_at_call 71; (with_reducible refine (fcmp_any _ s.l s.h _ _ _ _ HF4.out.q.l HF4.out.q.h).mono ?_); rintro e w5 ⟨rfl, hb⟩; have HF5 := hide (HF4.out.below hb); obtain ⟨f0, f1, f2, f3, f4, f5, f6, f7, f8, f9⟩ := HF5.out.ca; clear hb))
    refine bodyPost_ret (v := .bool (decide (s.m ≤ 32))) (by simp [results, Tryz.results42, go_sem, *]) rfl ⟨by rw [HX.out], HF5.out.bw⟩
  · have HX := hide (show s.ok = false by rw [HZ.out, decide_eq_false h6]; simp)
    have g6 : decide (1 ≤ s.m) = false := decide_eq_false h6
    clear h6 HZ
    go_enter Tryz.func42, Tryz.ntmps42
    go_upto_region 1 with (fail)
    generalize hW : World.alloc w _ = v
    have HF := hide (show FS w v w.heap.size s by rw [← hW]; exact FS.mk0 hq _)
    obtain ⟨a0, a1, a2, a3, a4, a5, a6, a7, a8, a9⟩ := HF.out.ca
    clear hW hq
    go_wp2_with (first | (go_at_call 70; (with_reducible refine (sinner_any _ s.l _ _ HF.out.q.l).mono ?_); rintro e w1 ⟨rfl, hb⟩; rw [H1.out]; have HF1 := hide (HF.out.below hb); obtain ⟨b0, b1, b2, b3, b4, b5, b6, b7, b8, b9⟩ := HF1.out.ca; clear hb) | (go_at_call 70; (with_reducible refine (sinner_any _ s.h _ _ HF1.out.q.h).mono ?_); rintro e w2 ⟨rfl, hb⟩; rw [H2.out]; have HF2 := hide (HF1.out.below hb); obtain ⟨c0, c1, c2, c3, c4, c5, c6, c7, c8, c9⟩ := HF2.out.ca; clear hb) | (go_at_call 70; (with_reducible refine (sinner_any _ s.a _ _ HF2.out.q.a).mono ?_); rintro e w3 ⟨rfl, hb⟩; rw [H3.out]; have HF3 := hide (HF2.out.below hb); obtain ⟨d0, d1, d2, d3, d4, d5, d6, d7, d8, d9⟩ := HF3.out.ca; clear hb) | (go_at_call 70; (with_reducible refine (sinner_any _ s.b _ _ HF3.out.q.b).mono ?_); rintro e w4 ⟨rfl, hb⟩; rw [H4.out]; have HF4 := hide (HF3.out.below hb); obtain ⟨e0, e1, e2, e3, e4, e5, e6, e7, e8, e9⟩ := HF4.out.ca; clear hb) | (go_at_call 71; (with_reducible refine (fcmp_any _ s.l s.h _ _ _ _ HF4.out.q.l HF4.out.q.h).mono ?_); rintro e w5 ⟨rfl, hb⟩; have HF5 := hide (HF4.out.below hb); obtain ⟨f0, f1, f2, f3, f4, f5, f6, f7, f8, f9⟩ := HF5.out.ca; clear hb))
    refine bodyPost_ret (v := .bool false) (by simp [results, Tryz.results42, go_sem, *]) rfl ⟨by rw [HX.out], HF5.out.bw⟩
end Go.Proofs.YtnokfhkcfebimaaGreat
