/- Contracts of the functions that these laws reach: part 26: Contracts: report's and the reference's bounds, for all arguments; Contracts: the reference's bounds, found by halving. -/
import Derived.Test.YtjkffgcikbkjeaaGreatP25
set_option linter.unusedVariables false
set_option linter.unusedSimpArgs false

/- Contracts: report's and the reference's bounds, for all arguments. -/
namespace Go.Proofs.YtjkffgcikbkjeaaGreat
open Go.RowKit

theorem not_inn {r : Rat} (hc : chO (some r) = true) (h0 : 0 ≤ r) (hi : innO (some r) = false) (hp : 0 < r) : r = 1 := by
  have h1 : r ≤ 1 := by simp [chO] at hc; exact hc.1
  have h2 : ¬ r < 1 := fun h => by
    simp only [innO, hc, decide_eq_true hp, decide_eq_true h] at hi
    simp at hi
  exact Rat.le_antisymm h1 (Rat.not_lt.1 h2)
set_option maxRecDepth 100000 in
set_option maxHeartbeats 8000000 in
theorem repcheck_bad (w : World) (n m : Int) (al : Fa) (l k : List Nat) (hq : Fq w al l k) (hE : repE (fracOf l k) n m ≠ 0) :
    Calls Tryz.prog 34 #[.int .i64 n, .int .i64 m, .agg #[.slice al.A al.n al.c, .slice al.B al.m al.d]] w fun e w' => e = .returned (.int .i64 (repE (fracOf l k) n m)) ∧ Below w.heap.size w w' := by
  have HQ := hide hq
  have HF := hide (show ∀ W, Calls Tryz.prog 52 #[.int .i64 1, .int .i64 1] W fun e w' => Ret W (some 1, 0) e w' from fun W => by
    have := fof_any W 1 1 (by omega) (by omega) (by omega)
    rwa [show mkRat ((1 : Nat) : Int) 1 = 1 by decide +kernel] at this)
  rcases hi : innO (fracOf l k)
  · have HE := hide (repE_no n m hi)
    rcases hc : chO (fracOf l k)
    · have HCH := hide hc
      clear hq hE hi hc
      go_enter Tryz.func34, Tryz.ntmps34
      go_upto_region 1 with (fail)
      generalize hW : World.alloc w _ = v
      have HV := hide (show Below w.heap.size w v by rw [← hW]; exact (Below.refl _ _).alloc (Nat.le_refl _) _)
      have HB := hide (show Bq v w.heap.size al by rw [← hW]; exact Bq.mk0 _ al rfl)
      have HQ1 := hide (show Fq v al l k by rw [← hW]; exact HQ.out.alloc _)
      clear hW
      go_upto_region 2 with (go_at_call 52; (with_reducible refine (HF.out _).mono ?_); rintro e w1 ⟨c, rfl, ho, hb⟩; have HO := hide (show Fo w1 c (some 1) from ho); have HV1 := hide (HV.out.trans (hb.mono HV.out.size)); have HB1 := hide (HB.out.below hb); have HQ2 := hide (HQ1.out.below hb); clear ho hb)
      generalize hW : World.alloc w1 _ = v2
      have HP2 := hide (show Bf v2 w1.heap.size c 1 by rw [← hW]; exact ⟨Bq.mk0 _ c rfl, HO.out.alloc _⟩)
      have HB2 := hide (show Bq v2 w.heap.size al by rw [← hW]; exact HB1.out.alloc _)
      have HQ3 := hide (show Fq v2 al l k by rw [← hW]; exact HQ2.out.alloc _)
      have HV2 := hide (show Below w.heap.size w v2 by rw [← hW]; exact HV1.out.alloc HV1.out.size _)
      obtain ⟨bp, hbp⟩ : ∃ x, x = w1.heap.size := ⟨_, rfl⟩
      rw [← hbp] at HP2 ⊢
      have q0 := HB2.out.c0
      have q1 := HB2.out.c1
      clear hW hbp
      go_wp2_with ((go_at_call 53; (with_reducible refine (chance_any _ al l k HQ3.out).mono ?_); rintro e w2 ⟨rfl, hb⟩; rw [HCH.out]; have HV3 := hide (HV2.out.trans (hb.mono HV2.out.size)); have HP3 := hide (HP2.out.below hb); have HB3 := hide (HB2.out.below hb); have HQ4 := hide (HQ3.out.below hb); have u0 := HB3.out.c0; have u1 := HB3.out.c1; have y0 := HP3.out.b.c0; have y1 := HP3.out.b.c1; clear hb))
      refine bodyPost_ret (v := .int .i64 41) (by simp [results, Tryz.results34, go_sem, *]) rfl ⟨by rw [HE.out], HV3.out⟩
    · obtain ⟨r, hr⟩ := chO_some hc
      have hlen := fq_len hq hr
      have HCH := hide hc
      have HR := hide hr
      by_cases hn0 : al.n = 0
      · have g0 : decide ((al.n : Int) = 0) = true := decide_eq_true (by omega)
        have g1 : (al.n : Int) = 0 := by omega
        have g2 : ((al.n : Int) == 0) = true := by simp [g1]
        clear hq hE hi hc hr hlen hn0
        go_enter Tryz.func34, Tryz.ntmps34
        go_upto_region 1 with (fail)
        generalize hW : World.alloc w _ = v
        have HV := hide (show Below w.heap.size w v by rw [← hW]; exact (Below.refl _ _).alloc (Nat.le_refl _) _)
        have HB := hide (show Bq v w.heap.size al by rw [← hW]; exact Bq.mk0 _ al rfl)
        have HQ1 := hide (show Fq v al l k by rw [← hW]; exact HQ.out.alloc _)
        clear hW
        go_upto_region 2 with (go_at_call 52; (with_reducible refine (HF.out _).mono ?_); rintro e w1 ⟨c, rfl, ho, hb⟩; have HO := hide (show Fo w1 c (some 1) from ho); have HV1 := hide (HV.out.trans (hb.mono HV.out.size)); have HB1 := hide (HB.out.below hb); have HQ2 := hide (HQ1.out.below hb); clear ho hb)
        generalize hW : World.alloc w1 _ = v2
        have HP2 := hide (show Bf v2 w1.heap.size c 1 by rw [← hW]; exact ⟨Bq.mk0 _ c rfl, HO.out.alloc _⟩)
        have HB2 := hide (show Bq v2 w.heap.size al by rw [← hW]; exact HB1.out.alloc _)
        have HQ3 := hide (show Fq v2 al l k by rw [← hW]; exact HQ2.out.alloc _)
        have HV2 := hide (show Below w.heap.size w v2 by rw [← hW]; exact HV1.out.alloc HV1.out.size _)
        obtain ⟨bp, hbp⟩ : ∃ x, x = w1.heap.size := ⟨_, rfl⟩
        rw [← hbp] at HP2 ⊢
        have q0 := HB2.out.c0
        have q1 := HB2.out.c1
        clear hW hbp
        go_wp2_with ((go_at_call 53; (with_reducible refine (chance_any _ al l k HQ3.out).mono ?_); rintro e w2 ⟨rfl, hb⟩; rw [HCH.out]; have HV3 := hide (HV2.out.trans (hb.mono HV2.out.size)); have HP3 := hide (HP2.out.below hb); have HB3 := hide (HB2.out.below hb); have HQ4 := hide (HQ3.out.below hb); have u0 := HB3.out.c0; have u1 := HB3.out.c1; have y0 := HP3.out.b.c0; have y1 := HP3.out.b.c1; clear hb))
        refine bodyPost_ret (v := .int .i64 41) (by simp [results, Tryz.results34, go_sem, *]) rfl ⟨by rw [HE.out], HV3.out⟩
      · have hp : 0 < r := hlen.1.1 (by omega)
        have h1 : r = 1 := not_inn (by rw [← hr]; exact hc) hlen.2 (by rw [← hr]; exact hi) hp
        have g0 : decide ((al.n : Int) = 0) = false := decide_eq_false (by omega)
        have g1 : ¬ ((al.n : Int) = 0) := by omega
        have g2 : ((al.n : Int) == 0) = false := beq_eq_false_iff_ne.2 g1
        have HZ := hide (show (0 : Int) = cmpO (some r) (some 1) by rw [h1]; decide +kernel)
        clear hq hE hi hc hr hlen hn0 hp h1
        go_enter Tryz.func34, Tryz.ntmps34
        go_upto_region 1 with (fail)
        generalize hW : World.alloc w _ = v
        have HV := hide (show Below w.heap.size w v by rw [← hW]; exact (Below.refl _ _).alloc (Nat.le_refl _) _)
        have HB := hide (show Bq v w.heap.size al by rw [← hW]; exact Bq.mk0 _ al rfl)
        have HQ1 := hide (show Fq v al l k by rw [← hW]; exact HQ.out.alloc _)
        clear hW
        go_upto_region 2 with (go_at_call 52; (with_reducible refine (HF.out _).mono ?_); rintro e w1 ⟨c, rfl, ho, hb⟩; have HO := hide (show Fo w1 c (some 1) from ho); have HV1 := hide (HV.out.trans (hb.mono HV.out.size)); have HB1 := hide (HB.out.below hb); have HQ2 := hide (HQ1.out.below hb); clear ho hb)
        generalize hW : World.alloc w1 _ = v2
        have HP2 := hide (show Bf v2 w1.heap.size c 1 by rw [← hW]; exact ⟨Bq.mk0 _ c rfl, HO.out.alloc _⟩)
        have HB2 := hide (show Bq v2 w.heap.size al by rw [← hW]; exact HB1.out.alloc _)
        have HQ3 := hide (show Fq v2 al l k by rw [← hW]; exact HQ2.out.alloc _)
        have HV2 := hide (show Below w.heap.size w v2 by rw [← hW]; exact HV1.out.alloc HV1.out.size _)
        obtain ⟨bp, hbp⟩ : ∃ x, x = w1.heap.size := ⟨_, rfl⟩
        rw [← hbp] at HP2 ⊢
        have q0 := HB2.out.c0
        have q1 := HB2.out.c1
        clear hW hbp
        go_wp2_with (first | (go_at_call 54; (with_reducible refine (fcmp_o _ al c (some r) (some 1) (fo_of HQ4.out HR.out) HP3.out.o).mono ?_); rintro e w5 ⟨rfl, hb⟩; rw [← HZ.out]; have HV8 := hide (HV3.out.trans (hb.mono HV3.out.size)); clear hb) | (go_at_call 53; (with_reducible refine (chance_any _ al l k HQ3.out).mono ?_); rintro e w2 ⟨rfl, hb⟩; rw [HCH.out]; have HV3 := hide (HV2.out.trans (hb.mono HV2.out.size)); have HP3 := hide (HP2.out.below hb); have HB3 := hide (HB2.out.below hb); have HQ4 := hide (HQ3.out.below hb); have u0 := HB3.out.c0; have u1 := HB3.out.c1; have y0 := HP3.out.b.c0; have y1 := HP3.out.b.c1; clear hb))
        refine bodyPost_ret (v := .int .i64 41) (by simp [results, Tryz.results34, go_sem, *]) rfl ⟨by rw [HE.out], HV8.out⟩
  · have HE := hide (repE_yes n m hi)
    have hbad : n < 0 ∨ 32 < n ∨ m < 0 ∨ n < m := Classical.byContradiction fun h => hE (by rw [HE.out, if_neg h])
    have HE3 := hide (show repE (fracOf l k) n m = 3 by rw [HE.out, if_pos hbad])
    cases hr : fracOf l k with
    | none => rw [hr] at hi; simp [innO] at hi
    | some r =>
      rw [hr] at hi
      have hin := innO_innV hi
      have hlen := fq_len hq hr
      have HCH := hide (show chO (fracOf l k) = true by rw [hr]; simp [chO, hin.c.h1, hin.c.hd])
      have HR := hide hr
      have hpos : 0 < al.n := hlen.1.2 hin.p
      have g0 : decide ((al.n : Int) = 0) = false := decide_eq_false (by omega)
      have g1 : ¬ ((al.n : Int) = 0) := by omega
      have g2 : ((al.n : Int) == 0) = false := beq_eq_false_iff_ne.2 g1
      have hcv : cmpO (some r) (some 1) < 0 := cmpQ_neg.2 hin.q
      obtain ⟨z, hz⟩ : ∃ z, z = cmpO (some r) (some 1) := ⟨_, rfl⟩
      rw [← hz] at hcv
      have HZ := hide hz
      have g3 : ¬ (z = 0) := by omega
      have g4 : (z == 0) = false := beq_eq_false_iff_ne.2 g3
      rw [hr] at HE3
      clear hq hE hi hr hin hlen hpos hcv hz HE
      go_enter Tryz.func34, Tryz.ntmps34
      go_upto_region 1 with (fail)
      generalize hW : World.alloc w _ = v
      have HV := hide (show Below w.heap.size w v by rw [← hW]; exact (Below.refl _ _).alloc (Nat.le_refl _) _)
      have HB := hide (show Bq v w.heap.size al by rw [← hW]; exact Bq.mk0 _ al rfl)
      have HQ1 := hide (show Fq v al l k by rw [← hW]; exact HQ.out.alloc _)
      clear hW
      go_upto_region 2 with (go_at_call 52; (with_reducible refine (HF.out _).mono ?_); rintro e w1 ⟨c, rfl, ho, hb⟩; have HO := hide (show Fo w1 c (some 1) from ho); have HV1 := hide (HV.out.trans (hb.mono HV.out.size)); have HB1 := hide (HB.out.below hb); have HQ2 := hide (HQ1.out.below hb); clear ho hb)
      generalize hW : World.alloc w1 _ = v2
      have HP2 := hide (show Bf v2 w1.heap.size c 1 by rw [← hW]; exact ⟨Bq.mk0 _ c rfl, HO.out.alloc _⟩)
      have HB2 := hide (show Bq v2 w.heap.size al by rw [← hW]; exact HB1.out.alloc _)
      have HQ3 := hide (show Fq v2 al l k by rw [← hW]; exact HQ2.out.alloc _)
      have HV2 := hide (show Below w.heap.size w v2 by rw [← hW]; exact HV1.out.alloc HV1.out.size _)
      obtain ⟨bp, hbp⟩ : ∃ x, x = w1.heap.size := ⟨_, rfl⟩
      rw [← hbp] at HP2 ⊢
      have q0 := HB2.out.c0
      have q1 := HB2.out.c1
      clear hW hbp
      go_wp2_with (first | (go_at_call 54; (with_reducible refine (fcmp_o _ al c (some r) (some 1) (fo_of HQ4.out HR.out) HP3.out.o).mono ?_); rintro e w5 ⟨rfl, hb⟩; rw [← HZ.out]; have HV8 := hide (HV3.out.trans (hb.mono HV3.out.size)); clear hb) | (go_at_call 53; (with_reducible refine (chance_any _ al l k HQ3.out).mono ?_); rintro e w2 ⟨rfl, hb⟩; rw [HCH.out]; have HV3 := hide (HV2.out.trans (hb.mono HV2.out.size)); have HP3 := hide (HP2.out.below hb); have HB3 := hide (HB2.out.below hb); have HQ4 := hide (HQ3.out.below hb); have u0 := HB3.out.c0; have u1 := HB3.out.c1; have y0 := HP3.out.b.c0; have y1 := HP3.out.b.c1; clear hb))
      all_goals first | (exfalso; omega) | (go_ret; exact ⟨by rw [HE3.out]; rfl, HV8.out⟩)
set_option maxRecDepth 100000 in
set_option maxHeartbeats 8000000 in
theorem upper_bad (w : World) (n m : Int) (al : Fa) (l k : List Nat) (hq : Fq w al l k) (hE : repE (fracOf l k) n m ≠ 0) :
    Calls Tryz.prog 22 #[.int .i64 n, .int .i64 m, .agg #[.slice al.A al.n al.c, .slice al.B al.m al.d]] w fun e w' => e = .returned (.tuple #[.int .i64 0, .int .i64 (repE (fracOf l k) n m)]) ∧ Below w.heap.size w w' := by
  obtain ⟨E, hEE⟩ : ∃ E, E = repE (fracOf l k) n m := ⟨_, rfl⟩
  rw [← hEE] at hE ⊢
  have HE := hide hEE
  have HQ := hide hq
  have HCK := hide (show ∀ W, Fq W al l k → Calls Tryz.prog 34 #[.int .i64 n, .int .i64 m, .agg #[.slice al.A al.n al.c, .slice al.B al.m al.d]] W fun e w' => e = .returned (.int .i64 E) ∧ Below W.heap.size W w' from fun W hW => by rw [hEE]; exact repcheck_bad W n m al l k hW (by rw [← hEE]; exact hE))
  have z1 : (E != 0) = true := by simpa using hE
  have z2 : ¬ E = 0 := hE
  clear hq hEE
  go_enter Tryz.func22, Tryz.ntmps22
  go_upto_region 1 with (fail)
  generalize hW : World.alloc (World.alloc (World.alloc w _) _) _ = v
  have HV := hide (show Below w.heap.size w v by rw [← hW]; exact (((Below.refl _ _).alloc (Nat.le_refl _) _).alloc (by simp) _).alloc (by simp; omega) _)
  have h3 : v.cell? ⟨w.heap.size, 0, none⟩ = some (.int .i64 n) := by rw [← hW]; simp [go_sem]
  have h4 : v.cell? ⟨w.heap.size + 1, 0, none⟩ = some (.int .i64 m) := by rw [← hW]; simp [go_sem]
  have HB := hide (show Bq v (w.heap.size + 2) al by rw [← hW]; exact Bq.mk0 _ al (by simp))
  have HQ1 := hide (show Fq v al l k by rw [← hW]; exact ((HQ.out.alloc _).alloc _).alloc _)
  have q0 := HB.out.c0
  have q1 := HB.out.c1
  have qz := HB.out.sz
  clear hW
  go_wp2_with (go_at_call 34; (with_reducible refine (HCK.out _ HQ1.out).mono ?_); rintro e w1 ⟨rfl, hb⟩; have HV1 := hide (HV.out.trans (hb.mono HV.out.size)); clear hb)
  refine bodyPost_ret (v := .tuple #[.int .i64 0, .int .i64 E]) (by simp [results, Tryz.results22, go_sem, *]) rfl ⟨rfl, HV1.out⟩
set_option maxRecDepth 100000 in
set_option maxHeartbeats 8000000 in
theorem r38up_bad (w : World) (n m : Int) (al : Fa) (l k : List Nat) (hq : Fq w al l k) (hE : repE (fracOf l k) n m ≠ 0) :
    Calls Tryz.prog 24 #[.int .i64 n, .int .i64 m, .agg #[.slice al.A al.n al.c, .slice al.B al.m al.d]] w fun e w' => e = .returned (.tuple #[.int .i64 0, .int .i64 (repE (fracOf l k) n m)]) ∧ Below w.heap.size w w' := by
  obtain ⟨E, hEE⟩ : ∃ E, E = repE (fracOf l k) n m := ⟨_, rfl⟩
  rw [← hEE] at hE ⊢
  have HE := hide hEE
  have HQ := hide hq
  have HCK := hide (show ∀ W, Fq W al l k → Calls Tryz.prog 41 #[.int .i64 n, .int .i64 m, .agg #[.slice al.A al.n al.c, .slice al.B al.m al.d]] W fun e w' => e = .returned (.int .i64 E) ∧ Below W.heap.size W w' from fun W hW => by rw [hEE]; exact r38check_any W n m al l k hW)
  have z1 : (E != 0) = true := by simpa using hE
  have z2 : ¬ E = 0 := hE
  clear hq hEE
  go_enter Tryz.func24, Tryz.ntmps24
  go_upto_region 1 with (fail)
  generalize hW : World.alloc w _ = v
  have HV := hide (show Below w.heap.size w v by rw [← hW]; exact (Below.refl _ _).alloc (Nat.le_refl _) _)
  have HB := hide (show Bq v w.heap.size al by rw [← hW]; exact Bq.mk0 _ al rfl)
  have HQ1 := hide (show Fq v al l k by rw [← hW]; exact HQ.out.alloc _)
  have q0 := HB.out.c0
  have q1 := HB.out.c1
  clear hW
  go_wp2_with (go_at_call 41; (with_reducible refine (HCK.out _ HQ1.out).mono ?_); rintro e w1 ⟨rfl, hb⟩; have HV1 := hide (HV.out.trans (hb.mono HV.out.size)); clear hb)
  refine bodyPost_ret (v := .tuple #[.int .i64 0, .int .i64 E]) (by simp [results, Tryz.results24, go_sem, *]) rfl ⟨rfl, HV1.out⟩
end Go.Proofs.YtjkffgcikbkjeaaGreat

/- Contracts: the reference's bounds, found by halving. -/
namespace Go.Proofs.YtjkffgcikbkjeaaGreat
open Go.RowKit

theorem lst_half {g : Nat → Bool} {r : Nat} (hm : ∀ i j, i ≤ j → j ≤ 1000 → g i = true → g j = true) (h0 : r ≤ 1000) (h1 : r = 0 ∨ g (r - 1) = false) (h2 : r = 1000 ∨ g r = true) : IsLst g 1000 r := by
  refine ⟨h0, fun h hh => ?_, fun hr => by rcases h2 with h2 | h2; omega; exact h2⟩
  rcases h1 with h1 | h1
  · omega
  · cases hg : g h with
    | false => rfl
    | true => rw [hm h (r - 1) (by omega) (by omega) hg] at h1; cases h1
theorem r38check_ok {n : Nat} {m : Int} {al : Fa} {ar : Rat} (hi : Inn ar) (hn : n ≤ 32) (hm : 0 ≤ m) (hmn : m ≤ n) (hok : okR (some ar)) : ∀ W, Fq W al (numL (some ar)) (denL (some ar)) → Calls Tryz.prog 41 #[.int .i64 (n : Int), .int .i64 m, .agg #[.slice al.A al.n al.c, .slice al.B al.m al.d]] W fun e w' => e = .returned (.int .i64 0) ∧ Below W.heap.size W w' := fun W hW => by
  have h := r38check_any W (n : Int) m al _ _ hW
  rw [fracOf_self hok] at h
  have h1 : innO (some ar) = true := by simp [innO, chO, hi.c.h1, hi.c.hd, hi.p, hi.q]
  rw [repE_yes (n : Int) m h1, if_neg (by omega)] at h
  exact h
set_option maxRecDepth 100000 in
set_option maxHeartbeats 8000000 in
theorem r38up_ok (w : World) (n : Nat) (m : Int) (al : Fa) (ar : Rat) (ha : Fo w al (some ar)) (hi : Inn ar) (hn : n ≤ 32) (hm : 0 ≤ m) (hmn : m ≤ n) :
    Calls Tryz.prog 24 #[.int .i64 (n : Int), .int .i64 m, .agg #[.slice al.A al.n al.c, .slice al.B al.m al.d]] w fun e w' => ∃ v : Nat, e = .returned (.tuple #[.int .i64 (v : Int), .int .i64 0]) ∧ IsLst (fun (b : Nat) => decide (atM (mkRat (b : Int) 1000) n m ≤ ar)) 1000 v ∧ Below w.heap.size w w' := by
  have HCK := hide (r38check_ok (al := al) hi hn hm hmn ha.2)
  have HA := hide ha
  obtain ⟨G, hG⟩ : ∃ G : Nat → Bool, G = fun (b : Nat) => decide (atM (mkRat (b : Int) 1000) n m ≤ ar) := ⟨_, rfl⟩
  rw [← hG]
  have HG := hide (show ∀ W, Fo W al (some ar) → ∀ b : Nat, b ≤ 1000 → Calls Tryz.prog 42 #[.int .i64 (n : Int), .int .i64 m, .int .i64 (b : Int), .agg #[.slice al.A al.n al.c, .slice al.B al.m al.d]] W fun e w' => e = .returned (.bool (G b)) ∧ Below W.heap.size W w' from fun W hW b hb => by rw [hG]; exact r38low_any W b hb al ar n m hW hn)
  have HM := hide (show ∀ i j, i ≤ j → j ≤ 1000 → G i = true → G j = true from fun i j h1 h2 h3 => by rw [hG] at h3 ⊢; exact atM_step i j h1 h2 h3)
  clear ha hi hG hm hmn
  go_enter Tryz.func24, Tryz.ntmps24
  go_upto_region 1 with (fail)
  generalize hW : World.alloc w _ = v
  have HV := hide (show Below w.heap.size w v by rw [← hW]; exact (Below.refl _ _).alloc (Nat.le_refl _) _)
  have HL := hide (show Bf v w.heap.size al ar by rw [← hW]; exact ⟨Bq.mk0 _ al rfl, HA.out.alloc _⟩)
  have q0 := HL.out.b.c0
  have q1 := HL.out.b.c1
  have HQL := hide (show Fq v al (numL (some ar)) (denL (some ar)) from HL.out.o.1)
  clear hW
  go_wp2_with (go_at_call 41; (with_reducible refine (HCK.out _ HQL.out).mono ?_); rintro e w1 ⟨rfl, hb⟩; have HV1 := hide (HV.out.trans (hb.mono HV.out.size)); have HL1 := hide (HL.out.below hb); clear hb)
  go_loopw [9, 10] (fun iv jv wr => ∃ i j : Nat, iv = .int .i64 (i : Int) ∧ jv = .int .i64 (j : Int) ∧ i ≤ j ∧ j ≤ 1000 ∧ Hid (i = 0 ∨ G (i - 1) = false) ∧ Hid (j = 1000 ∨ G j = true) ∧ Hid (Below w1.heap.size w1 wr)) (fun iv jv _ => ((intOf jv).toNat - (intOf iv).toNat))
  case atStart => exact ⟨0, 1000, rfl, rfl, by omega, by omega, hide (.inl rfl), hide (.inl rfl), hide (Below.refl _ _)⟩
  case round =>
    obtain ⟨i, j, rfl, rfl, hij, hj, HI, HJ, HB⟩ := hrel
    have HLr := hide (HL1.out.below HB.out)
    have HBw := hide (HV1.out.trans (HB.out.mono HV1.out.size))
    by_cases he : i = j
    · subst he
      have hlt : decide ((i : Int) < (i : Int)) = false := decide_eq_false (by omega)
      go_wp2_with fail
      refine bodyPost_ret (v := .tuple #[.int .i64 (i : Int), .int .i64 0]) (by simp [results, Tryz.results24, go_sem, *]) rfl ⟨i, rfl, lst_half HM.out hj HI.out HJ.out, HBw.out⟩
    · have hlt : decide ((i : Int) < (j : Int)) = true := decide_eq_true (by omega)
      have hlt2 : (i : Int) < (j : Int) := by omega
      obtain ⟨h, hh⟩ : ∃ h : Nat, h = (i + j) / 2 := ⟨_, rfl⟩
      have hh1 : i ≤ h := by omega
      have hh2 : h < j := by omega
      have hh3 : ((i : Int) + (j : Int)) / 2 = (h : Int) := by omega
      have hh4 : ((i : Int) + (j : Int)).tdiv 2 = (h : Int) := by rw [Int.tdiv_eq_ediv_of_nonneg (by omega)]; exact hh3
      have hi1000 : i ≤ 1000 := by omega
      have q0 := HLr.out.b.c0
      have q1 := HLr.out.b.c1
      clear hh
      go_upto_region 7 with (fail)
      clear hh3 hh4
      have HC := hide (HG.out wr HLr.out.o h (by omega))
      cases hg : G h
      · rw [hg] at HC
        have HGH := hide hg
        clear hg
        go_wp2_with (go_at_call 42; (with_reducible refine HC.out.mono ?_); rintro e w2 ⟨rfl, hb⟩; have HB2 := hide (HB.out.trans (hb.mono HB.out.size)); clear hb)
        go_roundw
        case rel => exact ⟨h + 1, j, by go_num, rfl, by omega, hj, hide (.inr (by simpa using HGH.out)), HJ, HB2⟩
        case measure => simp [intOf]; omega
      · rw [hg] at HC
        have HGH := hide hg
        clear hg
        go_wp2_with (go_at_call 42; (with_reducible refine HC.out.mono ?_); rintro e w2 ⟨rfl, hb⟩; have HB2 := hide (HB.out.trans (hb.mono HB.out.size)); clear hb)
        go_roundw
        case rel => exact ⟨i, h, rfl, rfl, by omega, by omega, HI, hide (.inr HGH.out), HB2⟩
        case measure => simp [intOf]; omega
end Go.Proofs.YtjkffgcikbkjeaaGreat
