/- Contracts of the functions that these laws reach: part 22: Contracts: the reference's Value, Mixed. -/
import Derived.Test.YtnofljgmkdommaaG21
set_option linter.unusedVariables false
set_option linter.unusedSimpArgs false

/- Contracts: the reference's Value, Mixed. -/
namespace Go.Proofs.Ytnofljgmkdommaa
open Go.RowKit

set_option maxRecDepth 100000 in
set_option maxHeartbeats 16000000 in
theorem r28mixed_any (w : World) (a b : Fa) (l k l' k' : List Nat) (p : Int) (ha : Fq w a l k) (hb : Fq w b l' k') :
    Calls Try.prog 26 #[.agg #[.slice a.A a.n a.c, .slice a.B a.m a.d], .agg #[.slice b.A b.n b.c, .slice b.B b.m b.d], .int .i64 p] w fun e w' => Ret w (mixR (fracOf l k) (fracOf l' k') p) e w' := by
  rcases hA : fracOf l k with _ | r
  · have HA := hide hA
    clear hA
    go_enter Try.func26, Try.ntmps26
    go_upto_region 1 with (fail)
    generalize hW : World.alloc (World.alloc (World.alloc w _) _) _ = v
    have HX := hide (show MX w v a b l k l' k' by rw [← hW]; exact ⟨((Bq.mk0 _ a rfl).alloc _).alloc _, (Bq.mk0 _ b (by simp)).alloc _, Rb.mk0 _ (by simp), ((ha.alloc _).alloc _).alloc _, ((hb.alloc _).alloc _).alloc _, (((Below.refl _ _).alloc (Nat.le_refl _) _).alloc (by simp) _ : Below w.heap.size w _).alloc (by simp; omega) _⟩)
    obtain ⟨a0, a1, af, az, -⟩ := HX.out.a0; obtain ⟨b0, b1, bf, bz, -⟩ := HX.out.b0; obtain ⟨r0, r1, rf, rz, -⟩ := HX.out.r
    clear hW ha hb
    go_upto_region 2 with (go_at_call 46; (with_reducible refine (r2check_any _ a l k HX.out.fa).mono ?_); rintro e w1 ⟨rfl, hb⟩; rw [HA.out]; have HX1 := hide (HX.out.below hb); clear hb; obtain ⟨p0, p1, pf, pz, -⟩ := HX1.out.a0; obtain ⟨q0, q1, qf, qz, -⟩ := HX1.out.b0; obtain ⟨s0, s1, sf, sz, -⟩ := HX1.out.r)
    clear a0 a1 af az b0 b1 bf bz r0 r1 rf rz
    go_wp2_with fail
    refine bodyPost_ret (v := .tuple #[.agg #[.slice fa0.A fa0.n fa0.c, .slice fa0.B fa0.m fa0.d], .int .i64 1]) (by simp [results, Try.results26, go_sem, *]) rfl ⟨fa0, rfl, (Fo.nil _).put2 HX1.out.r.nb _ _ (by simp), Rb.end0 HX1.out.bw (by omega) _ _⟩
  · rcases hB : fracOf l' k' with _ | s
    · have HA := hide hA
      have HBN := hide hB
      clear hA hB
      go_enter Try.func26, Try.ntmps26
      go_upto_region 1 with (fail)
      generalize hW : World.alloc (World.alloc (World.alloc w _) _) _ = v
      have HX := hide (show MX w v a b l k l' k' by rw [← hW]; exact ⟨((Bq.mk0 _ a rfl).alloc _).alloc _, (Bq.mk0 _ b (by simp)).alloc _, Rb.mk0 _ (by simp), ((ha.alloc _).alloc _).alloc _, ((hb.alloc _).alloc _).alloc _, (((Below.refl _ _).alloc (Nat.le_refl _) _).alloc (by simp) _ : Below w.heap.size w _).alloc (by simp; omega) _⟩)
      obtain ⟨a0, a1, af, az, -⟩ := HX.out.a0; obtain ⟨b0, b1, bf, bz, -⟩ := HX.out.b0; obtain ⟨r0, r1, rf, rz, -⟩ := HX.out.r
      clear hW ha hb
      go_upto_region 2 with (first
        | (go_at_call 46; (with_reducible refine (r2check_any _ a l k HX.out.fa).mono ?_); rintro e w1 ⟨rfl, hb⟩; rw [HA.out]; have HX1 := hide (HX.out.below hb); clear hb; clear a0 a1 af az b0 b1 bf bz r0 r1 rf rz; obtain ⟨a0, a1, af, az, -⟩ := HX1.out.a0; obtain ⟨b0, b1, bf, bz, -⟩ := HX1.out.b0; obtain ⟨r0, r1, rf, rz, -⟩ := HX1.out.r)
        | (go_at_call 46; (with_reducible refine (r2check_any _ b l' k' HX1.out.fb).mono ?_); rintro e w2 ⟨rfl, hb⟩; rw [HBN.out]; have HX2 := hide (HX1.out.below hb); clear hb; obtain ⟨p0, p1, pf, pz, -⟩ := HX2.out.a0; obtain ⟨q0, q1, qf, qz, -⟩ := HX2.out.b0; obtain ⟨s0, s1, sf, sz, -⟩ := HX2.out.r))
      clear a0 a1 af az b0 b1 bf bz r0 r1 rf rz
      go_wp2_with fail
      refine bodyPost_ret (v := .tuple #[.agg #[.slice fa0.A fa0.n fa0.c, .slice fa0.B fa0.m fa0.d], .int .i64 1]) (by simp [results, Try.results26, go_sem, *]) rfl ⟨fa0, rfl, (Fo.nil _).put2 HX2.out.r.nb _ _ (by simp), Rb.end0 HX2.out.bw (by omega) _ _⟩
    · have HA := hide hA
      have HBN := hide hB
      clear hA hB
      by_cases hp0 : p < 0
      · have q0 : decide (p < 0) = true := decide_eq_true hp0
        go_enter Try.func26, Try.ntmps26
        go_upto_region 1 with (fail)
        generalize hW : World.alloc (World.alloc (World.alloc w _) _) _ = v
        have HX := hide (show MX w v a b l k l' k' by rw [← hW]; exact ⟨((Bq.mk0 _ a rfl).alloc _).alloc _, (Bq.mk0 _ b (by simp)).alloc _, Rb.mk0 _ (by simp), ((ha.alloc _).alloc _).alloc _, ((hb.alloc _).alloc _).alloc _, (((Below.refl _ _).alloc (Nat.le_refl _) _).alloc (by simp) _ : Below w.heap.size w _).alloc (by simp; omega) _⟩)
        obtain ⟨a0, a1, af, az, -⟩ := HX.out.a0; obtain ⟨b0, b1, bf, bz, -⟩ := HX.out.b0; obtain ⟨r0, r1, rf, rz, -⟩ := HX.out.r
        clear hW ha hb
        go_upto_region 3 with ((first | (go_at_call 46; (with_reducible refine (r2check_any _ a l k HX.out.fa).mono ?_); rintro e w1 ⟨rfl, hb⟩; rw [HA.out]; have HX1 := hide (HX.out.below hb); clear hb; clear a0 a1 af az b0 b1 bf bz r0 r1 rf rz; obtain ⟨a0, a1, af, az, -⟩ := HX1.out.a0; obtain ⟨b0, b1, bf, bz, -⟩ := HX1.out.b0; obtain ⟨r0, r1, rf, rz, -⟩ := HX1.out.r) | (go_at_call 46; (with_reducible refine (r2check_any _ b l' k' HX1.out.fb).mono ?_); rintro e w2 ⟨rfl, hb⟩; rw [HBN.out]; have HX2 := hide (HX1.out.below hb); clear hb; obtain ⟨p0, p1, pf, pz, -⟩ := HX2.out.a0; obtain ⟨q0, q1, qf, qz, -⟩ := HX2.out.b0; obtain ⟨s0, s1, sf, sz, -⟩ := HX2.out.r)))
        clear a0 a1 af az b0 b1 bf bz r0 r1 rf rz
        go_wp2_with fail
        refine bodyPost_ret (v := .tuple #[.agg #[.slice fa0.A fa0.n fa0.c, .slice fa0.B fa0.m fa0.d], .int .i64 3]) (by simp [results, Try.results26, go_sem, *]) rfl ⟨fa0, by rw [mixR_range (.inl hp0)], by rw [mixR_range (.inl hp0)]; exact (Fo.nil _).put2 HX2.out.r.nb _ _ (by simp), Rb.end0 HX2.out.bw (by omega) _ _⟩
      · have q0 : decide (p < 0) = false := decide_eq_false hp0
        by_cases hp1 : 100 < p
        · have q1 : decide (100 < p) = true := decide_eq_true hp1
          go_enter Try.func26, Try.ntmps26
          go_upto_region 1 with (fail)
          generalize hW : World.alloc (World.alloc (World.alloc w _) _) _ = v
          have HX := hide (show MX w v a b l k l' k' by rw [← hW]; exact ⟨((Bq.mk0 _ a rfl).alloc _).alloc _, (Bq.mk0 _ b (by simp)).alloc _, Rb.mk0 _ (by simp), ((ha.alloc _).alloc _).alloc _, ((hb.alloc _).alloc _).alloc _, (((Below.refl _ _).alloc (Nat.le_refl _) _).alloc (by simp) _ : Below w.heap.size w _).alloc (by simp; omega) _⟩)
          obtain ⟨a0, a1, af, az, -⟩ := HX.out.a0; obtain ⟨b0, b1, bf, bz, -⟩ := HX.out.b0; obtain ⟨r0, r1, rf, rz, -⟩ := HX.out.r
          clear hW ha hb
          go_upto_region 3 with ((first | (go_at_call 46; (with_reducible refine (r2check_any _ a l k HX.out.fa).mono ?_); rintro e w1 ⟨rfl, hb⟩; rw [HA.out]; have HX1 := hide (HX.out.below hb); clear hb; clear a0 a1 af az b0 b1 bf bz r0 r1 rf rz; obtain ⟨a0, a1, af, az, -⟩ := HX1.out.a0; obtain ⟨b0, b1, bf, bz, -⟩ := HX1.out.b0; obtain ⟨r0, r1, rf, rz, -⟩ := HX1.out.r) | (go_at_call 46; (with_reducible refine (r2check_any _ b l' k' HX1.out.fb).mono ?_); rintro e w2 ⟨rfl, hb⟩; rw [HBN.out]; have HX2 := hide (HX1.out.below hb); clear hb; obtain ⟨p0, p1, pf, pz, -⟩ := HX2.out.a0; obtain ⟨q0, q1, qf, qz, -⟩ := HX2.out.b0; obtain ⟨s0, s1, sf, sz, -⟩ := HX2.out.r)))
          clear a0 a1 af az b0 b1 bf bz r0 r1 rf rz
          go_wp2_with fail
          refine bodyPost_ret (v := .tuple #[.agg #[.slice fa0.A fa0.n fa0.c, .slice fa0.B fa0.m fa0.d], .int .i64 3]) (by simp [results, Try.results26, go_sem, *]) rfl ⟨fa0, by rw [mixR_range (.inr hp1)], by rw [mixR_range (.inr hp1)]; exact (Fo.nil _).put2 HX2.out.r.nb _ _ (by simp), Rb.end0 HX2.out.bw (by omega) _ _⟩
        · obtain ⟨P, rfl⟩ : ∃ P : Nat, p = (P : Int) := ⟨p.toNat, by omega⟩
          have hP : P ≤ 100 := by omega
          have q1 : decide (100 < (P : Int)) = false := decide_eq_false hp1
          have q2 : decide (100 < P) = false := decide_eq_false (by omega)
          obtain ⟨xo, xe, hxe⟩ : ∃ xo xe, mulR (some r) (some (mkRat (P : Int) 100)) = (xo, xe) := ⟨_, _, rfl⟩
          obtain ⟨yo, ye, hye⟩ : ∃ yo ye, mulR (some s) (some (mkRat ((100 - P : Nat) : Int) 100)) = (yo, ye) := ⟨_, _, rfl⟩
          have HXE := hide hxe
          have HYE := hide hye
          clear hxe hye
          go_enter Try.func26, Try.ntmps26
          go_upto_region 1 with (fail)
          generalize hW : World.alloc (World.alloc (World.alloc w _) _) _ = v
          have HX := hide (show MX w v a b l k l' k' by rw [← hW]; exact ⟨((Bq.mk0 _ a rfl).alloc _).alloc _, (Bq.mk0 _ b (by simp)).alloc _, Rb.mk0 _ (by simp), ((ha.alloc _).alloc _).alloc _, ((hb.alloc _).alloc _).alloc _, (((Below.refl _ _).alloc (Nat.le_refl _) _).alloc (by simp) _ : Below w.heap.size w _).alloc (by simp; omega) _⟩)
          obtain ⟨a0, a1, af, az, -⟩ := HX.out.a0; obtain ⟨b0, b1, bf, bz, -⟩ := HX.out.b0; obtain ⟨r0, r1, rf, rz, -⟩ := HX.out.r
          clear hW ha hb
          go_upto_region 5 with ((first | (go_at_call 46; (with_reducible refine (r2check_any _ a l k HX.out.fa).mono ?_); rintro e w1 ⟨rfl, hb⟩; rw [HA.out]; have HX1 := hide (HX.out.below hb); clear hb; clear a0 a1 af az b0 b1 bf bz r0 r1 rf rz; obtain ⟨a0, a1, af, az, -⟩ := HX1.out.a0; obtain ⟨b0, b1, bf, bz, -⟩ := HX1.out.b0; obtain ⟨r0, r1, rf, rz, -⟩ := HX1.out.r) | (go_at_call 46; (with_reducible refine (r2check_any _ b l' k' HX1.out.fb).mono ?_); rintro e w2 ⟨rfl, hb⟩; rw [HBN.out]; have HX2 := hide (HX1.out.below hb); clear hb; obtain ⟨p0, p1, pf, pz, -⟩ := HX2.out.a0; obtain ⟨q0, q1, qf, qz, -⟩ := HX2.out.b0; obtain ⟨s0, s1, sf, sz, -⟩ := HX2.out.r)))
          clear HX HX1
          clear a0 a1 af az b0 b1 bf bz r0 r1 rf rz
          go_cut [8, 9] from 8 to 33 (fun s8 s9 wx => ∃ (g : Nat) (c : Fa), s8 = .pointer (some ⟨g, 0, none⟩) ∧ s9 = .int .i64 xe ∧ Hid (Bq wx g c) ∧ Hid (Fo wx c xo) ∧ Hid (Below w2.heap.size w2 wx))
          case first =>
            apply region_seqo 6 8 [28, 29, 30, 31, 27, 32, 33, 8] [eqV _, eqV _, fun x w => ∃ c : Fa, x = .agg #[.slice c.A c.n c.c, .slice c.B c.m c.d] ∧ Fo w c (some (mkRat (P : Int) 100)), fun x w => ∃ c : Fa, x = .tuple #[.agg #[.slice c.A c.n c.c, .slice c.B c.m c.d], .int .i64 xe] ∧ Fo w c xo, fun x w => ∃ c : Fa, x = .tuple #[.agg #[.slice c.A c.n c.c, .slice c.B c.m c.d], .int .i64 xe] ∧ Fo w c xo, fun x w => ∃ c : Fa, x = .agg #[.slice c.A c.n c.c, .slice c.B c.m c.d] ∧ Fo w c xo, eqV _, fun x w => ∃ b : Nat, x = .pointer (some ⟨b, 0, none⟩) ∧ w2.heap.size ≤ b ∧ Bq w b fa0] [false, false, false, false, false, false, false, false] (by kernel_rfl) (by decide) (by decide) rfl rfl rfl (by decide) (by kernel_rfl) (by kernel_rfl) rfl ?stb37 ?steps37 ?fina37 ?finb37
            case stb37 => repeat' (first | exact trivial | apply stb_eq | (first | exact fun x w w' ⟨c, h1, h2⟩ hb => ⟨c, h1, h2.below hb⟩ | exact fun x w w' ⟨c, h1, h2, h3⟩ hb => ⟨c, h1, h2, h3.below hb⟩) | apply And.intro)
            case steps37 =>
              repeat' (first | exact trivial | apply And.intro)
              all_goals
                intro a' w' hbw hdf hoff hdep K hK
                (have o3 := hoff 3 rfl; have o2 := hoff 2 rfl)
                (have HG := hide (HX2.out.below hbw); obtain ⟨p0, p1, pf, pz, -⟩ := HG.out.a0; obtain ⟨q0, q1, qf, qz, -⟩ := HG.out.b0; obtain ⟨s0, s1, sf, sz, -⟩ := HG.out.r; have hvz := hbw.size)
                replace hdep := hdep _ rfl
                simp only [List.getElem_toArray, List.getElem_cons_succ, List.getElem_cons_zero, List.toList_toArray, depAll, binds_data, binds_chain, binds_guard, binds_phase, binds_text, binds_gc, cond_true, cond_false, true_and, getR, eqV, List.getD_cons_succ, List.getD_cons_zero, and_true] at hdep
                simp only [Nat.zero_add, Nat.reduceAdd, getR, eqV, List.getD_cons_succ, List.getD_cons_zero] at hK
                clear hoff hdf
                (first | (obtain ⟨e30, ⟨c1, e32, HO1⟩, hdep⟩ : (_ = _) ∧ (∃ c : Fa, _) ∧ _ := hdep) | (obtain ⟨⟨c1, e24, HO1⟩, hdep⟩ : (∃ c : Fa, _) ∧ _ := hdep) | (obtain ⟨c1, e24, HO1⟩ : ∃ c : Fa, _ := hdep) | skip)
                first
                  | (refine rg_unwanted rfl rfl rfl (b' := false) (by first | (simp [hdep]; done) | assumption) (by decide) ?_; exact hK _ _ rfl (Below.refl _ _) (by simp))
                  | (refine rg_unwanted rfl rfl rfl (b' := true) (by first | (simp [hdep]; done) | assumption) (by decide) ?_; exact hK _ _ rfl (Below.refl _ _) (by simp))
                  | (refine rg_wanted rfl rfl rfl (b' := true) (by first | (simp [hdep]; done) | assumption) rfl (fun K' hKK => ?_); go_wp2_with (first | (go_at_call 33; (with_reducible refine (rzof_any _ _ 100 P 100 (by first | rfl | omega) rfl (by omega) (by omega) (by omega)).mono ?_); rintro e w1 ⟨c, rfl, ho, hb⟩) | (go_at_call 48; (with_reducible refine (r2mul_o _ a c1 (some r) (some (mkRat ((P : Nat) : Int) 100)) (fo_of HG.out.fa HA.out) HO1).mono ?_); rintro e w1 ⟨c, rfl, ho, hb⟩; rw [HXE.out] at ho ⊢)); first | exact hK _ _ rfl (Below.refl _ _) (by simp) | (first | exact hK _ _ ⟨c, rfl, ho⟩ hb (by simp) | exact hK _ _ ⟨c1, rfl, HO1⟩ (Below.refl _ _) (by simp) | exact hK _ _ ⟨_, rfl, hvz, Bq.mk0 _ fa0 rfl⟩ ((Below.refl _ _).alloc (Nat.le_refl _) _) (by simp)))
                  | (refine rg_wanted rfl rfl rfl (b' := false) (by first | (simp [hdep]; done) | assumption) rfl (fun K' hKK => ?_); go_wp2_with (first | (go_at_call 33; (with_reducible refine (rzof_any _ _ 100 P 100 (by first | rfl | omega) rfl (by omega) (by omega) (by omega)).mono ?_); rintro e w1 ⟨c, rfl, ho, hb⟩) | (go_at_call 48; (with_reducible refine (r2mul_o _ a c1 (some r) (some (mkRat ((P : Nat) : Int) 100)) (fo_of HG.out.fa HA.out) HO1).mono ?_); rintro e w1 ⟨c, rfl, ho, hb⟩; rw [HXE.out] at ho ⊢)); first | exact hK _ _ rfl (Below.refl _ _) (by simp) | (first | exact hK _ _ ⟨c, rfl, ho⟩ hb (by simp) | exact hK _ _ ⟨c1, rfl, HO1⟩ (Below.refl _ _) (by simp) | exact hK _ _ ⟨_, rfl, hvz, Bq.mk0 _ fa0 rfl⟩ ((Below.refl _ _).alloc (Nat.le_refl _) _) (by simp)))
                  | (refine rg_free rfl rfl (fun K' hKK => ?_); fail)
                  | (refine rg_free rfl rfl (fun K' hKK => ?_); go_wp2_with (first | (go_at_call 33; (with_reducible refine (rzof_any _ _ 100 P 100 (by first | rfl | omega) rfl (by omega) (by omega) (by omega)).mono ?_); rintro e w1 ⟨c, rfl, ho, hb⟩) | (go_at_call 48; (with_reducible refine (r2mul_o _ a c1 (some r) (some (mkRat ((P : Nat) : Int) 100)) (fo_of HG.out.fa HA.out) HO1).mono ?_); rintro e w1 ⟨c, rfl, ho, hb⟩; rw [HXE.out] at ho ⊢)); first | exact hK _ _ rfl (Below.refl _ _) (by simp) | (first | exact hK _ _ ⟨c, rfl, ho⟩ hb (by simp) | exact hK _ _ ⟨c1, rfl, HO1⟩ (Below.refl _ _) (by simp) | exact hK _ _ ⟨_, rfl, hvz, Bq.mk0 _ fa0 rfl⟩ ((Below.refl _ _).alloc (Nat.le_refl _) _) (by simp)))
            all_goals
              intro w' hbw
              repeat (first | refine fin_eq ?_ | refine fin_any (fun x hx => ?_))
              rename_i x15 h15 x16 h16
              obtain ⟨c5, rfl, -⟩ := h15
              obtain ⟨q, rfl, ho⟩ := h16
              obtain ⟨g, rfl, hg, hq⟩ := hx
              have HO := hide ho
              have HQ := hide hq
              have HBW := hide hbw
              have hrel := hide (show ∃ (g' : Nat) (c' : Fa), Value.pointer (some ⟨g, 0, none⟩) = .pointer (some ⟨g', 0, none⟩) ∧ Hid (Bq ((w'.setCell ⟨g, 0, none⟩ (.slice q.A q.n q.c)).setCell ⟨g, 1, none⟩ (.slice q.B q.m q.d)) g' c') ∧ Hid (Fo ((w'.setCell ⟨g, 0, none⟩ (.slice q.A q.n q.c)).setCell ⟨g, 1, none⟩ (.slice q.B q.m q.d)) c' xo) ∧ Hid (Below w2.heap.size w2 ((w'.setCell ⟨g, 0, none⟩ (.slice q.A q.n q.c)).setCell ⟨g, 1, none⟩ (.slice q.B q.m q.d))) from
                ⟨g, q, rfl, hide (HQ.out.fill q), hide (HO.out.fill HQ.out q), hide (Rb.end0 HBW.out hg _ _)⟩)
              obtain ⟨c0, c1, cf, cz, -⟩ := HQ.out
              clear ho hq hbw
              refine fin_nil ?_
              simp only [List.setIfInBounds_toArray, List.set_cons_succ, List.set_cons_zero]
            · skip
              refine wpAny_one (i := 8) (by kernel_rfl) ?_
              refine rg_free rfl rfl (fun K' hKK => ?_)
              go_wp2_with fail
              refine wpAny_one (i := 9) (by kernel_rfl) ?_
              refine rg_free rfl rfl (fun K' hKK => ?_)
              go_wp2_with fail
              refine wpAny_done (by kernel_rfl) ?_ _
              go_wp2_with fail
              go_meet
              case rel => obtain ⟨g', c', h1, h2⟩ := hrel.out; exact ⟨g', c', h1, rfl, h2⟩
            · skip
              refine wpAny_two (i := 6) (j := 8) (by kernel_rfl) ?_ ?_
              · skip
                refine rg_free rfl rfl (fun K' hKK => ?_)
                go_wp2_with fail
                refine wpAny_one (i := 8) (by kernel_rfl) ?_
                refine rg_free rfl rfl (fun K' hKK => ?_)
                go_wp2_with fail
                refine wpAny_one (i := 9) (by kernel_rfl) ?_
                refine rg_free rfl rfl (fun K' hKK => ?_)
                go_wp2_with fail
                refine wpAny_done (by kernel_rfl) ?_ _
                go_wp2_with fail
                go_meet
                case rel => obtain ⟨g', c', h1, h2⟩ := hrel.out; exact ⟨g', c', h1, rfl, h2⟩
              · skip
                refine rg_free rfl rfl (fun K' hKK => ?_)
                go_wp2_with fail
                refine wpAny_one (i := 6) (by kernel_rfl) ?_
                refine rg_free rfl rfl (fun K' hKK => ?_)
                go_wp2_with fail
                refine wpAny_one (i := 9) (by kernel_rfl) ?_
                refine rg_free rfl rfl (fun K' hKK => ?_)
                go_wp2_with fail
                refine wpAny_done (by kernel_rfl) ?_ _
                go_wp2_with fail
                go_meet
                case rel => obtain ⟨g', c', h1, h2⟩ := hrel.out; exact ⟨g', c', h1, rfl, h2⟩
          case rest =>
            obtain ⟨g8, c8, rfl, rfl, HQ8, HO8, HB8⟩ := hcut
            have HX3 := hide (HX2.out.below HB8.out)
            clear HX2 HB8
            by_cases hf : fitsR (r * mkRat (P : Int) 100) = true
            · obtain ⟨rfl, rfl⟩ : xo = some (r * mkRat (P : Int) 100) ∧ xe = 0 := by
                have h := HXE.out
                rw [show mulR (some r) (some (mkRat (P : Int) 100)) = limR (r * mkRat (P : Int) 100) from rfl, limR_fit hf] at h
                injection h with h1 h2
                exact ⟨h1.symm, h2.symm⟩
              have HF := hide hf
              clear hf
              obtain ⟨p0, p1, pf, pz, -⟩ := HX3.out.a0; obtain ⟨q0, q1, qf, qz, -⟩ := HX3.out.b0; obtain ⟨s0, s1, sf, sz, -⟩ := HX3.out.r
              go_upto_region 8 with (fail)
              clear p0 p1 pf pz q0 q1 qf qz s0 s1 sf sz
              go_cut [9, 10] from 9 to 45 (fun s9 s10 wx => ∃ (g : Nat) (c : Fa), s10 = .pointer (some ⟨g, 0, none⟩) ∧ s9 = .int .i64 ye ∧ Hid (Bq wx g c) ∧ Hid (Fo wx c yo) ∧ Hid (Below wc.heap.size wc wx))
              case first =>
                apply region_seqo 7 9 [39, 40, 41, 42, 43, 38, 44, 45, 10] [eqV _, eqV _, eqV _, fun x w => ∃ c : Fa, x = .agg #[.slice c.A c.n c.c, .slice c.B c.m c.d] ∧ Fo w c (some (mkRat ((100 - P : Nat) : Int) 100)), fun x w => ∃ c : Fa, x = .tuple #[.agg #[.slice c.A c.n c.c, .slice c.B c.m c.d], .int .i64 ye] ∧ Fo w c yo, fun x w => ∃ c : Fa, x = .tuple #[.agg #[.slice c.A c.n c.c, .slice c.B c.m c.d], .int .i64 ye] ∧ Fo w c yo, fun x w => ∃ c : Fa, x = .agg #[.slice c.A c.n c.c, .slice c.B c.m c.d] ∧ Fo w c yo, eqV _, fun x w => ∃ b : Nat, x = .pointer (some ⟨b, 0, none⟩) ∧ wc.heap.size ≤ b ∧ Bq w b fa0] [false, false, false, false, false, false, false, false, false] (by kernel_rfl) (by decide) (by decide) rfl rfl rfl (by decide) (by kernel_rfl) (by kernel_rfl) rfl ?stb38 ?steps38 ?fina38 ?finb38
                case stb38 => repeat' (first | exact trivial | apply stb_eq | (first | exact fun x w w' ⟨c, h1, h2⟩ hb => ⟨c, h1, h2.below hb⟩ | exact fun x w w' ⟨c, h1, h2, h3⟩ hb => ⟨c, h1, h2, h3.below hb⟩) | apply And.intro)
                case steps38 =>
                  repeat' (first | exact trivial | apply And.intro)
                  all_goals
                    intro a' w' hbw hdf hoff hdep K hK
                    (have o3 := hoff 4 rfl; have o2 := hoff 2 rfl)
                    (have HG := hide (HX3.out.below hbw); obtain ⟨p0, p1, pf, pz, -⟩ := HG.out.a0; obtain ⟨q0, q1, qf, qz, -⟩ := HG.out.b0; obtain ⟨s0, s1, sf, sz, -⟩ := HG.out.r; have hvz := hbw.size)
                    replace hdep := hdep _ rfl
                    simp only [List.getElem_toArray, List.getElem_cons_succ, List.getElem_cons_zero, List.toList_toArray, depAll, binds_data, binds_chain, binds_guard, binds_phase, binds_text, binds_gc, cond_true, cond_false, true_and, getR, eqV, List.getD_cons_succ, List.getD_cons_zero, and_true] at hdep
                    simp only [Nat.zero_add, Nat.reduceAdd, getR, eqV, List.getD_cons_succ, List.getD_cons_zero] at hK
                    clear hoff hdf
                    (first | (obtain ⟨e30, ⟨c1, e32, HO1⟩, hdep⟩ : (_ = _) ∧ (∃ c : Fa, _) ∧ _ := hdep) | (obtain ⟨⟨c1, e24, HO1⟩, hdep⟩ : (∃ c : Fa, _) ∧ _ := hdep) | (obtain ⟨c1, e24, HO1⟩ : ∃ c : Fa, _ := hdep) | skip)
                    first
                      | (refine rg_unwanted rfl rfl rfl (b' := false) (by first | (simp [hdep]; done) | assumption) (by decide) ?_; exact hK _ _ rfl (Below.refl _ _) (by simp))
                      | (refine rg_unwanted rfl rfl rfl (b' := true) (by first | (simp [hdep]; done) | assumption) (by decide) ?_; exact hK _ _ rfl (Below.refl _ _) (by simp))
                      | (refine rg_wanted rfl rfl rfl (b' := true) (by first | (simp [hdep]; done) | assumption) rfl (fun K' hKK => ?_); go_wp2_with (first | (go_at_call 33; (with_reducible refine (rzof_any _ _ 100 (100 - P) 100 (by first | rfl | omega) rfl (by omega) (by omega) (by omega)).mono ?_); rintro e w1 ⟨c, rfl, ho, hb⟩) | (go_at_call 48; (with_reducible refine (r2mul_o _ b c1 (some s) (some (mkRat (((100 - P) : Nat) : Int) 100)) (fo_of HG.out.fb HBN.out) HO1).mono ?_); rintro e w1 ⟨c, rfl, ho, hb⟩; rw [HYE.out] at ho ⊢)); first | exact hK _ _ rfl (Below.refl _ _) (by simp) | (first | exact hK _ _ ⟨c, rfl, ho⟩ hb (by simp) | exact hK _ _ ⟨c1, rfl, HO1⟩ (Below.refl _ _) (by simp) | exact hK _ _ ⟨_, rfl, hvz, Bq.mk0 _ fa0 rfl⟩ ((Below.refl _ _).alloc (Nat.le_refl _) _) (by simp)))
                      | (refine rg_wanted rfl rfl rfl (b' := false) (by first | (simp [hdep]; done) | assumption) rfl (fun K' hKK => ?_); go_wp2_with (first | (go_at_call 33; (with_reducible refine (rzof_any _ _ 100 (100 - P) 100 (by first | rfl | omega) rfl (by omega) (by omega) (by omega)).mono ?_); rintro e w1 ⟨c, rfl, ho, hb⟩) | (go_at_call 48; (with_reducible refine (r2mul_o _ b c1 (some s) (some (mkRat (((100 - P) : Nat) : Int) 100)) (fo_of HG.out.fb HBN.out) HO1).mono ?_); rintro e w1 ⟨c, rfl, ho, hb⟩; rw [HYE.out] at ho ⊢)); first | exact hK _ _ rfl (Below.refl _ _) (by simp) | (first | exact hK _ _ ⟨c, rfl, ho⟩ hb (by simp) | exact hK _ _ ⟨c1, rfl, HO1⟩ (Below.refl _ _) (by simp) | exact hK _ _ ⟨_, rfl, hvz, Bq.mk0 _ fa0 rfl⟩ ((Below.refl _ _).alloc (Nat.le_refl _) _) (by simp)))
                      | (refine rg_free rfl rfl (fun K' hKK => ?_); fail)
                      | (refine rg_free rfl rfl (fun K' hKK => ?_); go_wp2_with (first | (go_at_call 33; (with_reducible refine (rzof_any _ _ 100 (100 - P) 100 (by first | rfl | omega) rfl (by omega) (by omega) (by omega)).mono ?_); rintro e w1 ⟨c, rfl, ho, hb⟩) | (go_at_call 48; (with_reducible refine (r2mul_o _ b c1 (some s) (some (mkRat (((100 - P) : Nat) : Int) 100)) (fo_of HG.out.fb HBN.out) HO1).mono ?_); rintro e w1 ⟨c, rfl, ho, hb⟩; rw [HYE.out] at ho ⊢)); first | exact hK _ _ rfl (Below.refl _ _) (by simp) | (first | exact hK _ _ ⟨c, rfl, ho⟩ hb (by simp) | exact hK _ _ ⟨c1, rfl, HO1⟩ (Below.refl _ _) (by simp) | exact hK _ _ ⟨_, rfl, hvz, Bq.mk0 _ fa0 rfl⟩ ((Below.refl _ _).alloc (Nat.le_refl _) _) (by simp)))
                all_goals
                  intro w' hbw
                  repeat (first | refine fin_eq ?_ | refine fin_any (fun x hx => ?_))
                  rename_i x15 h15 x16 h16
                  obtain ⟨c5, rfl, -⟩ := h15
                  obtain ⟨q, rfl, ho⟩ := h16
                  obtain ⟨g, rfl, hg, hq⟩ := hx
                  have HO := hide ho
                  have HQ := hide hq
                  have HBW := hide hbw
                  have hrel := hide (show ∃ (g' : Nat) (c' : Fa), Value.pointer (some ⟨g, 0, none⟩) = .pointer (some ⟨g', 0, none⟩) ∧ Hid (Bq ((w'.setCell ⟨g, 0, none⟩ (.slice q.A q.n q.c)).setCell ⟨g, 1, none⟩ (.slice q.B q.m q.d)) g' c') ∧ Hid (Fo ((w'.setCell ⟨g, 0, none⟩ (.slice q.A q.n q.c)).setCell ⟨g, 1, none⟩ (.slice q.B q.m q.d)) c' yo) ∧ Hid (Below wc.heap.size wc ((w'.setCell ⟨g, 0, none⟩ (.slice q.A q.n q.c)).setCell ⟨g, 1, none⟩ (.slice q.B q.m q.d))) from
                    ⟨g, q, rfl, hide (HQ.out.fill q), hide (HO.out.fill HQ.out q), hide (Rb.end0 HBW.out hg _ _)⟩)
                  obtain ⟨c0, c1, cf, cz, -⟩ := HQ.out
                  clear ho hq hbw
                  refine fin_nil ?_
                  simp only [List.setIfInBounds_toArray, List.set_cons_succ, List.set_cons_zero]
                · skip
                  refine wpAny_one (i := 9) (by kernel_rfl) ?_
                  refine rg_free rfl rfl (fun K' hKK => ?_)
                  go_wp2_with fail
                  refine wpAny_one (i := 10) (by kernel_rfl) ?_
                  refine rg_free rfl rfl (fun K' hKK => ?_)
                  go_wp2_with fail
                  refine wpAny_done (by kernel_rfl) ?_ _
                  go_wp2_with fail
                  go_meet
                  case rel => obtain ⟨g', c', h1, h2⟩ := hrel.out; exact ⟨g', c', h1, rfl, h2⟩
                · skip
                  refine wpAny_two (i := 7) (j := 9) (by kernel_rfl) ?_ ?_
                  · skip
                    refine rg_free rfl rfl (fun K' hKK => ?_)
                    go_wp2_with fail
                    refine wpAny_one (i := 9) (by kernel_rfl) ?_
                    refine rg_free rfl rfl (fun K' hKK => ?_)
                    go_wp2_with fail
                    refine wpAny_one (i := 10) (by kernel_rfl) ?_
                    refine rg_free rfl rfl (fun K' hKK => ?_)
                    go_wp2_with fail
                    refine wpAny_done (by kernel_rfl) ?_ _
                    go_wp2_with fail
                    go_meet
                    case rel => obtain ⟨g', c', h1, h2⟩ := hrel.out; exact ⟨g', c', h1, rfl, h2⟩
                  · skip
                    refine rg_free rfl rfl (fun K' hKK => ?_)
                    go_wp2_with fail
                    refine wpAny_one (i := 7) (by kernel_rfl) ?_
                    refine rg_free rfl rfl (fun K' hKK => ?_)
                    go_wp2_with fail
                    refine wpAny_one (i := 10) (by kernel_rfl) ?_
                    refine rg_free rfl rfl (fun K' hKK => ?_)
                    go_wp2_with fail
                    refine wpAny_done (by kernel_rfl) ?_ _
                    go_wp2_with fail
                    go_meet
                    case rel => obtain ⟨g', c', h1, h2⟩ := hrel.out; exact ⟨g', c', h1, rfl, h2⟩
              case rest =>
                obtain ⟨g10, c10, rfl, rfl, HQ10, HO10, HB10⟩ := hcut
                have HX4 := hide (HX3.out.below HB10.out)
                have HQ8' := hide (HQ8.out.below HB10.out)
                have HO8' := hide (HO8.out.below HB10.out)
                clear HX3 HQ8 HO8 HB10
                by_cases hf2 : fitsR (s * mkRat ((100 - P : Nat) : Int) 100) = true
                · obtain ⟨rfl, rfl⟩ := (mulR_cases HYE.out).1 hf2
                  have HMX := hide (mixR_in hP HF.out hf2)
                  clear hf2
                  obtain ⟨e0, e1, -, ez, -⟩ := HQ8'.out
                  obtain ⟨d0, d1, -, dz, -⟩ := HQ10.out
                  obtain ⟨zo, ze, hze⟩ : ∃ zo ze, addR (some (r * mkRat (P : Int) 100)) (some (s * mkRat ((100 - P : Nat) : Int) 100)) = (zo, ze) := ⟨_, _, rfl⟩
                  have HZE := hide hze
                  clear hze
                  go_wp2_with (go_at_call 39; (with_reducible refine (r2add_o _ c8 c10 _ _ HO8'.out HO10.out).mono ?_); rintro e w5 ⟨c11, rfl, ho, hb⟩; rw [HZE.out] at ho ⊢; have HO11 := hide ho; have HX5 := hide (HX4.out.below hb); obtain ⟨s0, s1, sf, sz, -⟩ := HX5.out.r; clear ho hb)
                  refine bodyPost_ret (v := .tuple #[.agg #[.slice c11.A c11.n c11.c, .slice c11.B c11.m c11.d], .int .i64 ze]) (by simp [results, Try.results26, go_sem, *]) rfl ⟨c11, by rw [HMX.out, HZE.out], by rw [HMX.out, HZE.out]; exact HO11.out.put2 HX5.out.r.nb _ _ (by simp), Rb.end0 HX5.out.bw (by omega) _ _⟩
                · obtain ⟨rfl, rfl⟩ := (mulR_cases HYE.out).2 hf2
                  have HMX := hide (mixR_no2 hP HF.out hf2)
                  clear hf2
                  obtain ⟨s0, s1, sf, sz, -⟩ := HX4.out.r
                  go_wp2_with fail
                  refine bodyPost_ret (v := .tuple #[.agg #[.slice fa0.A fa0.n fa0.c, .slice fa0.B fa0.m fa0.d], .int .i64 2]) (by simp [results, Try.results26, go_sem, *]) rfl ⟨fa0, by rw [HMX.out], by rw [HMX.out]; exact (Fo.nil _).put2 HX4.out.r.nb _ _ (by simp), Rb.end0 HX4.out.bw (by omega) _ _⟩
            · obtain ⟨rfl, rfl⟩ := (mulR_cases HXE.out).2 hf
              have HMX := hide (mixR_no1 (s := s) hP hf)
              clear hf
              obtain ⟨s0, s1, sf, sz, -⟩ := HX3.out.r
              go_wp2_with fail
              refine bodyPost_ret (v := .tuple #[.agg #[.slice fa0.A fa0.n fa0.c, .slice fa0.B fa0.m fa0.d], .int .i64 2]) (by simp [results, Try.results26, go_sem, *]) rfl ⟨fa0, by rw [HMX.out], by rw [HMX.out]; exact (Fo.nil _).put2 HX3.out.r.nb _ _ (by simp), Rb.end0 HX3.out.bw (by omega) _ _⟩
set_option maxRecDepth 100000 in
set_option maxHeartbeats 16000000 in
theorem r28value_any (w : World) (a : Fa) (l k : List Nat) (c : Int) (ha : Fq w a l k) :
    Calls Try.prog 24 #[.agg #[.slice a.A a.n a.c, .slice a.B a.m a.d], .int .i64 c] w fun e w' => Ret w (valR (fracOf l k) c) e w' := by
  rcases hA : fracOf l k with _ | r
  · have HA := hide hA
    clear hA
    go_enter Try.func24, Try.ntmps24
    go_upto_region 1 with (fail)
    generalize hW : World.alloc (World.alloc w _) _ = v
    have HB := hide (show Cb v w.heap.size [.slice a.A a.n a.c, .slice a.B a.m a.d] by rw [← hW]; exact (Cb.mk0 [.slice a.A a.n a.c, .slice a.B a.m a.d] (by simp) _ rfl).alloc _)
    have HQ0 := hide (show Fq v a l k by rw [← hW]; exact (ha.alloc _).alloc _)
    have HRB := hide (show Rb v (w.heap.size + 1) by rw [← hW]; exact Rb.mk0 _ (by simp))
    have HBV := hide (show Below w.heap.size w v by rw [← hW]; exact ((Below.refl _ _).alloc (Nat.le_refl _) _).alloc (by simp) _)
    clear hW ha
    apply region_seq 9 [6, 7, 8, 9, 10, 11, 12, 13, 14] [eqV _, eqV _, eqV _, eqV _, eqV _, eqV _, eqV _, eqV _, eqV _] [false, false, false, false, false, false, false, false, false] (by kernel_rfl) (by decide) rfl rfl rfl (by decide) (by kernel_rfl) (by kernel_rfl) ?stb39 ?steps39 ?fin39
    case stb39 => repeat' (first | exact trivial | apply stb_eq | fail | apply And.intro)
    case steps39 =>
      repeat' (first | exact trivial | apply And.intro)
      all_goals
        intro a' w' hbw hdf hoff hdep K hK
        have o2 := hoff 2 rfl
        (have HC := hide (HB.out.below hbw); have HQ := hide (HQ0.out.below hbw); have y0 := HC.out.cell 0 _ rfl; have y1 := HC.out.cell 1 _ rfl)
        replace hdep := hdep _ rfl
        simp only [List.getElem_toArray, List.getElem_cons_succ, List.getElem_cons_zero, List.toList_toArray, depAll, binds_data, binds_chain, binds_guard, binds_phase, binds_text, binds_gc, cond_true, cond_false, true_and, getR, eqV, List.getD_cons_succ, List.getD_cons_zero, and_true] at hdep
        simp only [Nat.zero_add, Nat.reduceAdd, getR, eqV, List.getD_cons_succ, List.getD_cons_zero] at hK
        clear hoff hdf
        skip
        first
          | (refine rg_unwanted rfl rfl rfl (b' := false) (by first | (simp [hdep]; done) | assumption) (by decide) ?_; exact hK _ _ rfl (Below.refl _ _) (by simp))
          | (refine rg_unwanted rfl rfl rfl (b' := true) (by first | (simp [hdep]; done) | assumption) (by decide) ?_; exact hK _ _ rfl (Below.refl _ _) (by simp))
          | (refine rg_wanted rfl rfl rfl (b' := true) (by first | (simp [hdep]; done) | assumption) rfl (fun K' hKK => ?_); go_wp2_with (go_at_call 46; (with_reducible refine (r2check_any _ a l k HQ.out).mono ?_); rintro e w1 ⟨rfl, hb⟩; rw [HA.out]); first | exact hK _ _ rfl (Below.refl _ _) (by simp) | exact hK _ _ rfl hb (by simp))
          | (refine rg_wanted rfl rfl rfl (b' := false) (by first | (simp [hdep]; done) | assumption) rfl (fun K' hKK => ?_); go_wp2_with (go_at_call 46; (with_reducible refine (r2check_any _ a l k HQ.out).mono ?_); rintro e w1 ⟨rfl, hb⟩; rw [HA.out]); first | exact hK _ _ rfl (Below.refl _ _) (by simp) | exact hK _ _ rfl hb (by simp))
          | (refine rg_free rfl rfl (fun K' hKK => ?_); fail)
          | (refine rg_free rfl rfl (fun K' hKK => ?_); go_wp2_with (go_at_call 46; (with_reducible refine (r2check_any _ a l k HQ.out).mono ?_); rintro e w1 ⟨rfl, hb⟩; rw [HA.out]); first | exact hK _ _ rfl (Below.refl _ _) (by simp) | exact hK _ _ rfl hb (by simp))
    intro w' hbw
    repeat (refine fin_eq ?_)
    refine fin_nil ?_
    (simp only [List.setIfInBounds_toArray, List.set_cons_succ, List.set_cons_zero]; refine wpAny_done (by kernel_rfl) ?_ _)
    have HR1 := hide (HRB.out.below hbw); have HBW := hide (HBV.out.trans (hbw.mono HBV.out.size)); obtain ⟨r0, r1, rf, rz, -⟩ := HR1.out
    go_wp2_with fail
    refine bodyPost_ret (v := .tuple #[.agg #[.slice fa0.A fa0.n fa0.c, .slice fa0.B fa0.m fa0.d], .int .i64 1]) (by simp [results, Try.results24, go_sem, *]) rfl ⟨fa0, rfl, (Fo.nil _).put2 HR1.out.nb _ _ (by simp), Rb.end0 HBW.out (by omega) _ _⟩
  · have HA := hide hA
    clear hA
    by_cases h1 : 1 < r
    · have g0 : decide (0 < cmpO (some r) (some 1)) = true := decide_eq_true (cmpQ_pos'.2 h1)
      have H1 := hide h1
      clear h1
      go_enter Try.func24, Try.ntmps24
      go_upto_region 1 with (fail)
      generalize hW : World.alloc (World.alloc w _) _ = v
      have HB := hide (show Cb v w.heap.size [.slice a.A a.n a.c, .slice a.B a.m a.d] by rw [← hW]; exact (Cb.mk0 [.slice a.A a.n a.c, .slice a.B a.m a.d] (by simp) _ rfl).alloc _)
      have HQ0 := hide (show Fq v a l k by rw [← hW]; exact (ha.alloc _).alloc _)
      have HRB := hide (show Rb v (w.heap.size + 1) by rw [← hW]; exact Rb.mk0 _ (by simp))
      have HBV := hide (show Below w.heap.size w v by rw [← hW]; exact ((Below.refl _ _).alloc (Nat.le_refl _) _).alloc (by simp) _)
      clear hW ha
      apply region_seq 9 [6, 7, 8, 9, 10, 11, 12, 13, 14] [eqV _, eqV _, eqV _, eqV _, eqV _, fun x w => ∃ c : Fa, x = .agg #[.slice c.A c.n c.c, .slice c.B c.m c.d] ∧ Fo w c (some 1), eqV _, eqV _, eqV _] [false, false, false, false, false, false, false, false, false] (by kernel_rfl) (by decide) rfl rfl rfl (by decide) (by kernel_rfl) (by kernel_rfl) ?stb43 ?steps43 ?fin43
      case stb43 => repeat' (first | exact trivial | apply stb_eq | (exact fun x w w' ⟨c, h1, h2⟩ hb => ⟨c, h1, h2.below hb⟩) | apply And.intro)
      case steps43 =>
        repeat' (first | exact trivial | apply And.intro)
        all_goals
          intro a' w' hbw hdf hoff hdep K hK
          have o2 := hoff 2 rfl
          (have HC := hide (HB.out.below hbw); have HQ := hide (HQ0.out.below hbw); have y0 := HC.out.cell 0 _ rfl; have y1 := HC.out.cell 1 _ rfl)
          replace hdep := hdep _ rfl
          simp only [List.getElem_toArray, List.getElem_cons_succ, List.getElem_cons_zero, List.toList_toArray, depAll, binds_data, binds_chain, binds_guard, binds_phase, binds_text, binds_gc, cond_true, cond_false, true_and, getR, eqV, List.getD_cons_succ, List.getD_cons_zero, and_true] at hdep
          simp only [Nat.zero_add, Nat.reduceAdd, getR, eqV, List.getD_cons_succ, List.getD_cons_zero] at hK
          clear hoff hdf
          (try (obtain ⟨h12, ⟨c1, h13, HO1⟩, -, hg⟩ := hdep))
          first
            | (refine rg_unwanted rfl rfl rfl (b' := false) (by first | (simp [hdep]; done) | assumption) (by decide) ?_; exact hK _ _ rfl (Below.refl _ _) (by simp))
            | (refine rg_unwanted rfl rfl rfl (b' := true) (by first | (simp [hdep]; done) | assumption) (by decide) ?_; exact hK _ _ rfl (Below.refl _ _) (by simp))
            | (refine rg_wanted rfl rfl rfl (b' := true) (by first | (simp [hdep]; done) | assumption) rfl (fun K' hKK => ?_); go_wp2_with (first | (go_at_call 46; (with_reducible refine (r2check_any _ a l k HQ.out).mono ?_); rintro e w1 ⟨rfl, hb⟩; rw [HA.out]) | (go_at_call 33; (with_reducible refine (rzof_one _).mono ?_); rintro e w1 ⟨c1, rfl, ho, hb⟩) | (go_at_call 47; (with_reducible refine (r2cmp_o _ a c1 (some r) (some 1) (fo_of HQ.out HA.out) HO1).mono ?_); rintro e w1 ⟨rfl, hb⟩)); first | exact hK _ _ rfl (Below.refl _ _) (by simp) | (first | exact hK _ _ rfl hb (by simp) | exact hK _ _ ⟨c1, rfl, ho⟩ hb (by simp)))
            | (refine rg_wanted rfl rfl rfl (b' := false) (by first | (simp [hdep]; done) | assumption) rfl (fun K' hKK => ?_); go_wp2_with (first | (go_at_call 46; (with_reducible refine (r2check_any _ a l k HQ.out).mono ?_); rintro e w1 ⟨rfl, hb⟩; rw [HA.out]) | (go_at_call 33; (with_reducible refine (rzof_one _).mono ?_); rintro e w1 ⟨c1, rfl, ho, hb⟩) | (go_at_call 47; (with_reducible refine (r2cmp_o _ a c1 (some r) (some 1) (fo_of HQ.out HA.out) HO1).mono ?_); rintro e w1 ⟨rfl, hb⟩)); first | exact hK _ _ rfl (Below.refl _ _) (by simp) | (first | exact hK _ _ rfl hb (by simp) | exact hK _ _ ⟨c1, rfl, ho⟩ hb (by simp)))
            | (refine rg_free rfl rfl (fun K' hKK => ?_); fail)
            | (refine rg_free rfl rfl (fun K' hKK => ?_); go_wp2_with (first | (go_at_call 46; (with_reducible refine (r2check_any _ a l k HQ.out).mono ?_); rintro e w1 ⟨rfl, hb⟩; rw [HA.out]) | (go_at_call 33; (with_reducible refine (rzof_one _).mono ?_); rintro e w1 ⟨c1, rfl, ho, hb⟩) | (go_at_call 47; (with_reducible refine (r2cmp_o _ a c1 (some r) (some 1) (fo_of HQ.out HA.out) HO1).mono ?_); rintro e w1 ⟨rfl, hb⟩)); first | exact hK _ _ rfl (Below.refl _ _) (by simp) | (first | exact hK _ _ rfl hb (by simp) | exact hK _ _ ⟨c1, rfl, ho⟩ hb (by simp)))
      intro w' hbw
      repeat (refine fin_eq ?_)
      refine fin_any (fun x9 hx9 => ?_)
      repeat (refine fin_eq ?_)
      refine fin_nil ?_
      (simp only [List.setIfInBounds_toArray, List.set_cons_succ, List.set_cons_zero]; refine wpAny_done (by kernel_rfl) ?_ _)
      have HR1 := hide (HRB.out.below hbw); have HBW := hide (HBV.out.trans (hbw.mono HBV.out.size)); obtain ⟨r0, r1, rf, rz, -⟩ := HR1.out
      go_wp2_with fail
      refine bodyPost_ret (v := .tuple #[.agg #[.slice fa0.A fa0.n fa0.c, .slice fa0.B fa0.m fa0.d], .int .i64 1]) (by simp [results, Try.results24, go_sem, *]) rfl ⟨fa0, by rw [valR_big H1.out], by rw [valR_big H1.out]; exact (Fo.nil _).put2 HR1.out.nb _ _ (by simp), Rb.end0 HBW.out (by omega) _ _⟩
    · have g0 : decide (0 < cmpO (some r) (some 1)) = false := decide_eq_false (fun h => h1 (cmpQ_pos'.1 h))
      have H1 := hide h1
      clear h1
      go_enter Try.func24, Try.ntmps24
      go_upto_region 1 with (fail)
      generalize hW : World.alloc (World.alloc w _) _ = v
      have HB := hide (show Cb v w.heap.size [.slice a.A a.n a.c, .slice a.B a.m a.d] by rw [← hW]; exact (Cb.mk0 [.slice a.A a.n a.c, .slice a.B a.m a.d] (by simp) _ rfl).alloc _)
      have HQ0 := hide (show Fq v a l k by rw [← hW]; exact (ha.alloc _).alloc _)
      have HRB := hide (show Rb v (w.heap.size + 1) by rw [← hW]; exact Rb.mk0 _ (by simp))
      have HBV := hide (show Below w.heap.size w v by rw [← hW]; exact ((Below.refl _ _).alloc (Nat.le_refl _) _).alloc (by simp) _)
      clear hW ha
      apply region_seq 9 [6, 7, 8, 9, 10, 11, 12, 13, 14] [eqV _, eqV _, eqV _, eqV _, eqV _, fun x w => ∃ c : Fa, x = .agg #[.slice c.A c.n c.c, .slice c.B c.m c.d] ∧ Fo w c (some 1), eqV _, eqV _, eqV _] [false, false, false, false, false, false, false, false, false] (by kernel_rfl) (by decide) rfl rfl rfl (by decide) (by kernel_rfl) (by kernel_rfl) ?stb44 ?steps44 ?fin44
      case stb44 => repeat' (first | exact trivial | apply stb_eq | (exact fun x w w' ⟨c, h1, h2⟩ hb => ⟨c, h1, h2.below hb⟩) | apply And.intro)
      case steps44 =>
        repeat' (first | exact trivial | apply And.intro)
        all_goals
          intro a' w' hbw hdf hoff hdep K hK
          have o2 := hoff 2 rfl
          (have HC := hide (HB.out.below hbw); have HQ := hide (HQ0.out.below hbw); have y0 := HC.out.cell 0 _ rfl; have y1 := HC.out.cell 1 _ rfl)
          replace hdep := hdep _ rfl
          simp only [List.getElem_toArray, List.getElem_cons_succ, List.getElem_cons_zero, List.toList_toArray, depAll, binds_data, binds_chain, binds_guard, binds_phase, binds_text, binds_gc, cond_true, cond_false, true_and, getR, eqV, List.getD_cons_succ, List.getD_cons_zero, and_true] at hdep
          simp only [Nat.zero_add, Nat.reduceAdd, getR, eqV, List.getD_cons_succ, List.getD_cons_zero] at hK
          clear hoff hdf
          (try (obtain ⟨h12, ⟨c1, h13, HO1⟩, -, hg⟩ := hdep))
          first
            | (refine rg_unwanted rfl rfl rfl (b' := false) (by first | (simp [hdep]; done) | assumption) (by decide) ?_; exact hK _ _ rfl (Below.refl _ _) (by simp))
            | (refine rg_unwanted rfl rfl rfl (b' := true) (by first | (simp [hdep]; done) | assumption) (by decide) ?_; exact hK _ _ rfl (Below.refl _ _) (by simp))
            | (refine rg_wanted rfl rfl rfl (b' := true) (by first | (simp [hdep]; done) | assumption) rfl (fun K' hKK => ?_); go_wp2_with (first | (go_at_call 46; (with_reducible refine (r2check_any _ a l k HQ.out).mono ?_); rintro e w1 ⟨rfl, hb⟩; rw [HA.out]) | (go_at_call 33; (with_reducible refine (rzof_one _).mono ?_); rintro e w1 ⟨c1, rfl, ho, hb⟩) | (go_at_call 47; (with_reducible refine (r2cmp_o _ a c1 (some r) (some 1) (fo_of HQ.out HA.out) HO1).mono ?_); rintro e w1 ⟨rfl, hb⟩)); first | exact hK _ _ rfl (Below.refl _ _) (by simp) | (first | exact hK _ _ rfl hb (by simp) | exact hK _ _ ⟨c1, rfl, ho⟩ hb (by simp)))
            | (refine rg_wanted rfl rfl rfl (b' := false) (by first | (simp [hdep]; done) | assumption) rfl (fun K' hKK => ?_); go_wp2_with (first | (go_at_call 46; (with_reducible refine (r2check_any _ a l k HQ.out).mono ?_); rintro e w1 ⟨rfl, hb⟩; rw [HA.out]) | (go_at_call 33; (with_reducible refine (rzof_one _).mono ?_); rintro e w1 ⟨c1, rfl, ho, hb⟩) | (go_at_call 47; (with_reducible refine (r2cmp_o _ a c1 (some r) (some 1) (fo_of HQ.out HA.out) HO1).mono ?_); rintro e w1 ⟨rfl, hb⟩)); first | exact hK _ _ rfl (Below.refl _ _) (by simp) | (first | exact hK _ _ rfl hb (by simp) | exact hK _ _ ⟨c1, rfl, ho⟩ hb (by simp)))
            | (refine rg_free rfl rfl (fun K' hKK => ?_); fail)
            | (refine rg_free rfl rfl (fun K' hKK => ?_); go_wp2_with (first | (go_at_call 46; (with_reducible refine (r2check_any _ a l k HQ.out).mono ?_); rintro e w1 ⟨rfl, hb⟩; rw [HA.out]) | (go_at_call 33; (with_reducible refine (rzof_one _).mono ?_); rintro e w1 ⟨c1, rfl, ho, hb⟩) | (go_at_call 47; (with_reducible refine (r2cmp_o _ a c1 (some r) (some 1) (fo_of HQ.out HA.out) HO1).mono ?_); rintro e w1 ⟨rfl, hb⟩)); first | exact hK _ _ rfl (Below.refl _ _) (by simp) | (first | exact hK _ _ rfl hb (by simp) | exact hK _ _ ⟨c1, rfl, ho⟩ hb (by simp)))
      intro w' hbw
      repeat (refine fin_eq ?_)
      refine fin_any (fun x9 hx9 => ?_)
      repeat (refine fin_eq ?_)
      refine fin_nil ?_
      (simp only [List.setIfInBounds_toArray, List.set_cons_succ, List.set_cons_zero]; refine wpAny_done (by kernel_rfl) ?_ _)
      have HR1 := hide (HRB.out.below hbw); have HBW := hide (HBV.out.trans (hbw.mono HBV.out.size)); obtain ⟨r0, r1, rf, rz, -⟩ := HR1.out
      go_upto_region 3 with (fail)
      by_cases hp0 : c < 0
      · have q0 : decide (c < 0) = true := decide_eq_true hp0
        go_wp2_with fail
        refine bodyPost_ret (v := .tuple #[.agg #[.slice fa0.A fa0.n fa0.c, .slice fa0.B fa0.m fa0.d], .int .i64 3]) (by simp [results, Try.results24, go_sem, *]) rfl ⟨fa0, by rw [valR_range H1.out (.inl hp0)], by rw [valR_range H1.out (.inl hp0)]; exact (Fo.nil _).put2 HR1.out.nb _ _ (by simp), Rb.end0 HBW.out (by omega) _ _⟩
      · have q0 : decide (c < 0) = false := decide_eq_false hp0
        by_cases hp1 : 1024 < c
        · have q1 : decide (1024 < c) = true := decide_eq_true hp1
          go_wp2_with fail
          refine bodyPost_ret (v := .tuple #[.agg #[.slice fa0.A fa0.n fa0.c, .slice fa0.B fa0.m fa0.d], .int .i64 3]) (by simp [results, Try.results24, go_sem, *]) rfl ⟨fa0, by rw [valR_range H1.out (.inr hp1)], by rw [valR_range H1.out (.inr hp1)]; exact (Fo.nil _).put2 HR1.out.nb _ _ (by simp), Rb.end0 HBW.out (by omega) _ _⟩
        · obtain ⟨C, rfl⟩ : ∃ C : Nat, c = (C : Int) := ⟨c.toNat, by omega⟩
          have hC : C ≤ 1024 := by omega
          have q1 : decide (1024 < (C : Int)) = false := decide_eq_false hp1
          have q2 : decide (1024 < C) = false := decide_eq_false (by omega)
          go_upto_region 5 with (fail)
          clear hp0 hp1 q0 q1 q2
          obtain ⟨xo, xe, hxe⟩ : ∃ xo xe, mulR (some r) (some (mkRat ((1 + C : Nat) : Int) 1)) = (xo, xe) := ⟨_, _, rfl⟩
          have HXE := hide hxe
          have HVR := hide (show valR (some r) (C : Int) = (xo, xe) by rw [valR_in H1.out hC, hxe])
          clear hxe
          have HBC := hide (HB.out.below hbw)
          have HQC := hide (HQ0.out.below hbw)
          clear hbw
          clear r0 r1 rf rz
          apply region_seq 7 [23, 24, 25, 26, 27, 28, 29] [eqV _, eqV _, eqV _, fun x w => ∃ c : Fa, x = .agg #[.slice c.A c.n c.c, .slice c.B c.m c.d] ∧ Fo w c (some (mkRat ((1 + C : Nat) : Int) 1)), fun x w => ∃ c : Fa, x = .tuple #[.agg #[.slice c.A c.n c.c, .slice c.B c.m c.d], .int .i64 xe] ∧ Fo w c xo, fun x w => ∃ c : Fa, x = .agg #[.slice c.A c.n c.c, .slice c.B c.m c.d] ∧ Fo w c xo, eqV _] [false, false, false, false, false, false, false] (by kernel_rfl) (by decide) rfl rfl rfl (by decide) (by kernel_rfl) (by kernel_rfl) ?stb45 ?steps45 ?fin45
          case stb45 => repeat' (first | exact trivial | apply stb_eq | (exact fun x w w' ⟨c, h1, h2⟩ hb => ⟨c, h1, h2.below hb⟩) | apply And.intro)
          case steps45 =>
            repeat' (first | exact trivial | apply And.intro)
            all_goals
              intro a' w' hbw hdf hoff hdep K hK
              (have o2 := hoff 2 rfl; have o1 := hoff 1 rfl)
              (have HC := hide (HBC.out.below hbw); have HQ := hide (HQC.out.below hbw); have y0 := HC.out.cell 0 _ rfl; have y1 := HC.out.cell 1 _ rfl)
              replace hdep := hdep _ rfl
              simp only [List.getElem_toArray, List.getElem_cons_succ, List.getElem_cons_zero, List.toList_toArray, depAll, binds_data, binds_chain, binds_guard, binds_phase, binds_text, binds_gc, cond_true, cond_false, true_and, getR, eqV, List.getD_cons_succ, List.getD_cons_zero, and_true] at hdep
              simp only [Nat.zero_add, Nat.reduceAdd, getR, eqV, List.getD_cons_succ, List.getD_cons_zero] at hK
              clear hoff hdf
              (first | (obtain ⟨e30, ⟨c1, e32, HO1⟩, hdep⟩ : (_ = _) ∧ (∃ c : Fa, _) ∧ _ := hdep) | (obtain ⟨⟨c1, e24, HO1⟩, hdep⟩ : (∃ c : Fa, _) ∧ _ := hdep) | (obtain ⟨c1, e24, HO1⟩ : ∃ c : Fa, _ := hdep) | skip)
              first
                | (refine rg_unwanted rfl rfl rfl (b' := false) (by first | (simp [hdep]; done) | assumption) (by decide) ?_; exact hK _ _ rfl (Below.refl _ _) (by simp))
                | (refine rg_unwanted rfl rfl rfl (b' := true) (by first | (simp [hdep]; done) | assumption) (by decide) ?_; exact hK _ _ rfl (Below.refl _ _) (by simp))
                | (refine rg_wanted rfl rfl rfl (b' := true) (by first | (simp [hdep]; done) | assumption) rfl (fun K' hKK => ?_); go_wp2_with (first | (go_at_call 33; (with_reducible refine (rzof_any _ _ 1 (1 + C) 1 (by first | rfl | omega) rfl (by omega) (by omega) (by omega)).mono ?_); rintro e w1 ⟨c, rfl, ho, hb⟩) | (go_at_call 48; (with_reducible refine (r2mul_o _ a c1 (some r) (some (mkRat ((1 + C : Nat) : Int) 1)) (fo_of HQ.out HA.out) HO1).mono ?_); rintro e w1 ⟨c, rfl, ho, hb⟩; rw [HXE.out] at ho ⊢)); first | exact hK _ _ rfl (Below.refl _ _) (by simp) | (first | exact hK _ _ ⟨c, rfl, ho⟩ hb (by simp) | exact hK _ _ ⟨c1, rfl, HO1⟩ (Below.refl _ _) (by simp)))
                | (refine rg_wanted rfl rfl rfl (b' := false) (by first | (simp [hdep]; done) | assumption) rfl (fun K' hKK => ?_); go_wp2_with (first | (go_at_call 33; (with_reducible refine (rzof_any _ _ 1 (1 + C) 1 (by first | rfl | omega) rfl (by omega) (by omega) (by omega)).mono ?_); rintro e w1 ⟨c, rfl, ho, hb⟩) | (go_at_call 48; (with_reducible refine (r2mul_o _ a c1 (some r) (some (mkRat ((1 + C : Nat) : Int) 1)) (fo_of HQ.out HA.out) HO1).mono ?_); rintro e w1 ⟨c, rfl, ho, hb⟩; rw [HXE.out] at ho ⊢)); first | exact hK _ _ rfl (Below.refl _ _) (by simp) | (first | exact hK _ _ ⟨c, rfl, ho⟩ hb (by simp) | exact hK _ _ ⟨c1, rfl, HO1⟩ (Below.refl _ _) (by simp)))
                | (refine rg_free rfl rfl (fun K' hKK => ?_); fail)
                | (refine rg_free rfl rfl (fun K' hKK => ?_); go_wp2_with (first | (go_at_call 33; (with_reducible refine (rzof_any _ _ 1 (1 + C) 1 (by first | rfl | omega) rfl (by omega) (by omega) (by omega)).mono ?_); rintro e w1 ⟨c, rfl, ho, hb⟩) | (go_at_call 48; (with_reducible refine (r2mul_o _ a c1 (some r) (some (mkRat ((1 + C : Nat) : Int) 1)) (fo_of HQ.out HA.out) HO1).mono ?_); rintro e w1 ⟨c, rfl, ho, hb⟩; rw [HXE.out] at ho ⊢)); first | exact hK _ _ rfl (Below.refl _ _) (by simp) | (first | exact hK _ _ ⟨c, rfl, ho⟩ hb (by simp) | exact hK _ _ ⟨c1, rfl, HO1⟩ (Below.refl _ _) (by simp)))
          intro w' hbw
          repeat (first | refine fin_eq ?_ | refine fin_any (fun x hx => ?_))
          rename_i x15 h15
          obtain ⟨c5, rfl, -⟩ := h15
          obtain ⟨q, rfl, ho⟩ := hx
          have HO := hide ho
          have HR2 := hide (HR1.out.below hbw)
          have HBE := hide (HBW.out.trans (hbw.mono HBW.out.size))
          obtain ⟨r0, r1, rf, rz, -⟩ := HR2.out
          clear ho hbw
          refine fin_nil ?_
          simp only [List.setIfInBounds_toArray, List.set_cons_succ, List.set_cons_zero]
          refine wpAny_one (i := 7) (by kernel_rfl) ?_
          refine rg_free rfl rfl (fun K' hKK => ?_)
          go_wp2_with fail
          refine wpAny_one (i := 8) (by kernel_rfl) ?_
          refine rg_free rfl rfl (fun K' hKK => ?_)
          go_wp2_with fail
          refine wpAny_done (by kernel_rfl) ?_ _
          go_wp2_with fail
          refine bodyPost_ret (v := .tuple #[.agg #[.slice q.A q.n q.c, .slice q.B q.m q.d], .int .i64 xe]) (by simp [results, Try.results24, go_sem, *]) rfl ⟨q, by rw [HVR.out], by rw [HVR.out]; exact HO.out.put2 HR2.out.nb _ _ (by simp), Rb.end0 HBE.out (by omega) _ _⟩
end Go.Proofs.Ytnofljgmkdommaa
