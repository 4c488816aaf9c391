/- Contracts of the functions that these laws reach: part 24: Contract: the reference's Ratio; Contract: the reference's Decide. -/
import Derived.Test.YtnokfhkcfebimaaGreatG22
set_option linter.unusedVariables false
set_option linter.unusedSimpArgs false

/- Contract: the reference's Ratio. -/
namespace Go.Proofs.YtnokfhkcfebimaaGreat
open Go.RowKit

set_option maxRecDepth 100000 in
set_option maxHeartbeats 16000000 in
theorem qratiox_ok (w : World) (s : Sv) (l h a b : Rat) (M p f : Nat) (hq : SQ w s) (hk : OKs s l h a b M) (hpf : p + f ≤ M) :
    Calls Tryz.prog 117 #[.agg #[.slice s.l.A s.l.n s.l.c, .slice s.l.B s.l.m s.l.d, .slice s.h.A s.h.n s.h.c, .slice s.h.B s.h.m s.h.d, .slice s.a.A s.a.n s.a.c, .slice s.a.B s.a.m s.a.d, .slice s.b.A s.b.n s.b.c, .slice s.b.B s.b.m s.b.d, .int .i64 s.m], .int .i64 (p : Int), .int .i64 (f : Int)] w fun e w' => Ret w (some (ratQ l h p f), 0) e w' := by
  have hm := hk.m
  have hm2 := hk.m2
  have hp : p ≤ 32 := by omega
  have hf : f ≤ 32 := by omega
  have HC := hide (show cntE s p f = 0 by
    unfold cntE
    rw [if_neg (by rw [hk.ok]; simp), if_neg (by omega)])
  obtain ⟨hb1, hb2, hb3, hb4, hb5⟩ := ratQ_bd hk.il hk.ih hp hf
  have HM := hide (mulR_some (r := (h / l) ^ f) (s := ((1 - h) / (1 - l)) ^ p) (bd_fits hb3 (Nat.le_refl _)))
  have HP1 := hide (powR_nat hf (bd_fits hb1 (by decide +kernel)))
  have HP2 := hide (powR_nat hp (bd_fits hb2 (by decide +kernel)))
  have HD1 := hide (divR_some hk.il.ne (bd_fits hb4 (by decide +kernel)))
  have HD2 := hide (divR_some hk.il.qne (bd_fits hb5 (by decide +kernel)))
  have f5 := hide (bd_fits hk.ih.c.bdq (by decide +kernel))
  have f6 := hide (bd_fits hk.il.c.bdq (by decide +kernel))
  have HK := hide hk
  have HPF := hide (And.intro hp hf)
  clear hk hb1 hb2 hb3 hb4 hb5 hm hm2 hpf hp hf
  go_enter Tryz.func117, Tryz.ntmps117
  go_upto_region 1 with (fail)
  generalize hW : World.alloc (World.alloc w _) _ = v
  have HF := hide (show FS w v w.heap.size s by rw [← hW]; exact (FS.mk0 hq _).alloc _)
  have HRB := hide (show Rb v (w.heap.size + 1) by rw [← hW]; exact Rb.mk0 _ (by simp))
  obtain ⟨a0, a1, a2, a3, a4, a5, a6, a7, a8, a9⟩ := HF.out.ca
  obtain ⟨r0, r1, rf, rz, -⟩ := HRB.out
  clear hW hq
  go_upto_region 5 with (first
    | (go_at_call 145; (with_reducible refine (qcounts_any _ s p f HF.out.q).mono ?_); rintro e w1 ⟨rfl, hb⟩; rw [HC.out]; have HF1 := hide (HF.out.below hb); have HR1 := hide (HRB.out.below hb); obtain ⟨b0, b1, b2, b3, b4, b5, b6, b7, b8, b9⟩ := HF1.out.ca; clear hb)
    | (go_at_call 118; (with_reducible refine (r2div_o _ s.h s.l (some h) (some l) (fo_of HF1.out.q.h HK.out.fh) (fo_of HF1.out.q.l HK.out.fl)).mono ?_); rintro e w2 ⟨c, rfl, ho, hb⟩; rw [HD1.out] at ho ⊢; have HO2 := hide ho; have HF2 := hide (HF1.out.below hb); have HR2 := hide (HR1.out.below hb); clear ho hb))
  generalize hW : World.alloc w2 _ = v2
  have HF3 := hide (show FS w v2 w.heap.size s by rw [← hW]; exact HF2.out.alloc _)
  have HQ9 := hide (show Fx v2 w2.heap.size c (some (h / l)) by rw [← hW]; exact Fx.mk0 HO2.out _ rfl)
  have HR3 := hide (show Rb v2 (w.heap.size + 1) by rw [← hW]; exact (HR2.out.bq.alloc _).rb)
  obtain ⟨b9, hb9⟩ : ∃ b, b = w2.heap.size := ⟨_, rfl⟩
  rw [← hb9] at HQ9 ⊢
  clear hW hb9
  go_cut [11] from 11 to 63 (fun s8 wx => ∃ (g : Nat) (c : Fa), s8 = .pointer (some ⟨g, 0, none⟩) ∧ Hid (Fx wx g c (some ((1 - h) / (1 - l)))) ∧ Hid (Below v2.heap.size v2 wx))
  case first =>
    apply region_seqo 9 11 [36, 37, 38, 39, 40, 41, 42, 35, 43, 44, 11] [eqV _, eqV _, fun x w => ∃ c : Fa, x = .agg #[.slice c.A c.n c.c, .slice c.B c.m c.d] ∧ Fo w c (some (1 - h)), eqV _, eqV _, fun x w => ∃ c : Fa, x = .agg #[.slice c.A c.n c.c, .slice c.B c.m c.d] ∧ Fo w c (some (1 - l)), fun x w => ∃ c : Fa, x = .tuple #[.agg #[.slice c.A c.n c.c, .slice c.B c.m c.d], .int .i64 0] ∧ Fo w c (some ((1 - h) / (1 - l))), fun x w => ∃ c : Fa, x = .tuple #[.agg #[.slice c.A c.n c.c, .slice c.B c.m c.d], .int .i64 0] ∧ Fo w c (some ((1 - h) / (1 - l))), fun x w => ∃ c : Fa, x = .agg #[.slice c.A c.n c.c, .slice c.B c.m c.d] ∧ Fo w c (some ((1 - h) / (1 - l))), eqV _, fun x w => ∃ b : Nat, x = .pointer (some ⟨b, 0, none⟩) ∧ v2.heap.size ≤ b ∧ Bq w b fa0] [false, false, false, false, false, false, false, false, false, false, false] (by kernel_rfl) (by decide) (by decide) rfl rfl rfl (by decide) (by kernel_rfl) (by kernel_rfl) rfl ?stb2 ?steps2 ?fina2 ?finb2
    case stb2 => repeat' (first | exact trivial | apply stb_eq | (first | exact fun x w w' ⟨c, h1, h2⟩ hb => ⟨c, h1, h2.below hb⟩ | exact fun x w w' ⟨c, h1, h2, h3⟩ hb => ⟨c, h1, h2, h3.below hb⟩) | apply And.intro)
    case steps2 =>
      repeat' (first | exact trivial | apply And.intro)
      all_goals
        intro a' w' hbw hdf hoff hdep K hK
        have o3 := hoff 3 rfl
        (have HG := hide (HF3.out.below hbw); obtain ⟨y0, y1, y2, y3, y4, y5, y6, y7, y8, y9⟩ := HG.out.ca; have hvz := hbw.size)
        replace hdep := hdep _ rfl
        simp only [List.getElem_toArray, List.getElem_cons_succ, List.getElem_cons_zero, List.toList_toArray, depAll, binds_data, binds_chain, binds_guard, binds_phase, binds_text, binds_gc, cond_true, cond_false, true_and, getR, eqV, List.getD_cons_succ, List.getD_cons_zero, and_true] at hdep
        simp only [Nat.zero_add, Nat.reduceAdd, getR, eqV, List.getD_cons_succ, List.getD_cons_zero] at hK
        clear hoff hdf
        (first | (obtain ⟨⟨c1, e18, HO1⟩, ⟨c2, e21, HO2⟩, hdep⟩ : (∃ c : Fa, _) ∧ (∃ c : Fa, _) ∧ _ := hdep) | (obtain ⟨⟨c1, e24, HO1⟩, hdep⟩ : (∃ c : Fa, _) ∧ _ := hdep) | (obtain ⟨c1, e24, HO1⟩ : ∃ c : Fa, _ := hdep) | skip)
        first
          | (refine rg_unwanted rfl rfl rfl (b' := false) (by first | (simp [hdep]; done) | assumption) (by decide) ?_; exact hK _ _ rfl (Below.refl _ _) (by simp))
          | (refine rg_unwanted rfl rfl rfl (b' := true) (by first | (simp [hdep]; done) | assumption) (by decide) ?_; exact hK _ _ rfl (Below.refl _ _) (by simp))
          | (refine rg_wanted rfl rfl rfl (b' := true) (by first | (simp [hdep]; done) | assumption) rfl (fun K' hKK => ?_); go_wp2_with (first | (go_at_call 89; (with_reducible refine (rzrest_any _ s.h h (fo_of HG.out.q.h HK.out.fh) HK.out.ih.c.h1 f5.out).mono ?_); rintro e w1 ⟨c, rfl, ho, hb⟩) | (go_at_call 89; (with_reducible refine (rzrest_any _ s.l l (fo_of HG.out.q.l HK.out.fl) HK.out.il.c.h1 f6.out).mono ?_); rintro e w1 ⟨c, rfl, ho, hb⟩) | (go_at_call 118; (with_reducible refine (r2div_o _ c1 c2 (some (1 - h)) (some (1 - l)) HO1 HO2).mono ?_); rintro e w1 ⟨c, rfl, ho, hb⟩; rw [HD2.out] at ho ⊢)); first | exact hK _ _ rfl (Below.refl _ _) (by simp) | (first | exact hK _ _ ⟨c, rfl, ho⟩ hb (by simp) | exact hK _ _ ⟨c1, rfl, HO1⟩ (Below.refl _ _) (by simp) | exact hK _ _ ⟨_, rfl, hvz, Bq.mk0 _ fa0 rfl⟩ ((Below.refl _ _).alloc (Nat.le_refl _) _) (by simp)))
          | (refine rg_wanted rfl rfl rfl (b' := false) (by first | (simp [hdep]; done) | assumption) rfl (fun K' hKK => ?_); go_wp2_with (first | (go_at_call 89; (with_reducible refine (rzrest_any _ s.h h (fo_of HG.out.q.h HK.out.fh) HK.out.ih.c.h1 f5.out).mono ?_); rintro e w1 ⟨c, rfl, ho, hb⟩) | (go_at_call 89; (with_reducible refine (rzrest_any _ s.l l (fo_of HG.out.q.l HK.out.fl) HK.out.il.c.h1 f6.out).mono ?_); rintro e w1 ⟨c, rfl, ho, hb⟩) | (go_at_call 118; (with_reducible refine (r2div_o _ c1 c2 (some (1 - h)) (some (1 - l)) HO1 HO2).mono ?_); rintro e w1 ⟨c, rfl, ho, hb⟩; rw [HD2.out] at ho ⊢)); first | exact hK _ _ rfl (Below.refl _ _) (by simp) | (first | exact hK _ _ ⟨c, rfl, ho⟩ hb (by simp) | exact hK _ _ ⟨c1, rfl, HO1⟩ (Below.refl _ _) (by simp) | exact hK _ _ ⟨_, rfl, hvz, Bq.mk0 _ fa0 rfl⟩ ((Below.refl _ _).alloc (Nat.le_refl _) _) (by simp)))
          | (refine rg_free rfl rfl (fun K' hKK => ?_); fail)
          | (refine rg_free rfl rfl (fun K' hKK => ?_); go_wp2_with (first | (go_at_call 89; (with_reducible refine (rzrest_any _ s.h h (fo_of HG.out.q.h HK.out.fh) HK.out.ih.c.h1 f5.out).mono ?_); rintro e w1 ⟨c, rfl, ho, hb⟩) | (go_at_call 89; (with_reducible refine (rzrest_any _ s.l l (fo_of HG.out.q.l HK.out.fl) HK.out.il.c.h1 f6.out).mono ?_); rintro e w1 ⟨c, rfl, ho, hb⟩) | (go_at_call 118; (with_reducible refine (r2div_o _ c1 c2 (some (1 - h)) (some (1 - l)) HO1 HO2).mono ?_); rintro e w1 ⟨c, rfl, ho, hb⟩; rw [HD2.out] at ho ⊢)); first | exact hK _ _ rfl (Below.refl _ _) (by simp) | (first | exact hK _ _ ⟨c, rfl, ho⟩ hb (by simp) | exact hK _ _ ⟨c1, rfl, HO1⟩ (Below.refl _ _) (by simp) | exact hK _ _ ⟨_, rfl, hvz, Bq.mk0 _ fa0 rfl⟩ ((Below.refl _ _).alloc (Nat.le_refl _) _) (by simp)))
    all_goals
      intro w' hbw
      repeat (first | refine fin_eq ?_ | refine fin_any (fun x hx => ?_))
      rename_i x15 h15 x16 h16
      obtain ⟨c5, rfl, -⟩ := h15
      obtain ⟨q, rfl, ho⟩ := h16
      obtain ⟨g, rfl, hg, hq⟩ := hx
      have HO := hide ho
      have HQ := hide hq
      have HBW := hide hbw
      have hrel := hide (show ∃ (g' : Nat) (c' : Fa), Value.pointer (some ⟨g, 0, none⟩) = .pointer (some ⟨g', 0, none⟩) ∧ Hid (Fx ((w'.setCell ⟨g, 0, none⟩ (.slice q.A q.n q.c)).setCell ⟨g, 1, none⟩ (.slice q.B q.m q.d)) g' c' (some ((1 - h) / (1 - l)))) ∧ Hid (Below v2.heap.size v2 ((w'.setCell ⟨g, 0, none⟩ (.slice q.A q.n q.c)).setCell ⟨g, 1, none⟩ (.slice q.B q.m q.d))) from
        ⟨g, q, rfl, hide ⟨HQ.out.fill q, HO.out.fill HQ.out q⟩, hide (Rb.end0 HBW.out hg _ _)⟩)
      obtain ⟨c0, c1, cf, cz, -⟩ := HQ.out
      clear ho hq hbw
      refine fin_nil ?_
      simp only [List.setIfInBounds_toArray, List.set_cons_succ, List.set_cons_zero]
    · skip
      refine wpAny_one (i := 11) (by kernel_rfl) ?_
      refine rg_free rfl rfl (fun K' hKK => ?_)
      go_wp2_with fail
      refine wpAny_one (i := 12) (by kernel_rfl) ?_
      refine rg_free rfl rfl (fun K' hKK => ?_)
      go_wp2_with fail
      refine wpAny_done (by kernel_rfl) ?_ _
      go_wp2_with fail
      go_meet
      case rel => exact hrel.out
    · skip
      refine wpAny_two (i := 9) (j := 11) (by kernel_rfl) ?_ ?_
      · skip
        refine rg_free rfl rfl (fun K' hKK => ?_)
        go_wp2_with fail
        refine wpAny_one (i := 11) (by kernel_rfl) ?_
        refine rg_free rfl rfl (fun K' hKK => ?_)
        go_wp2_with fail
        refine wpAny_one (i := 12) (by kernel_rfl) ?_
        refine rg_free rfl rfl (fun K' hKK => ?_)
        go_wp2_with fail
        refine wpAny_done (by kernel_rfl) ?_ _
        go_wp2_with fail
        go_meet
        case rel => exact hrel.out
      · skip
        refine rg_free rfl rfl (fun K' hKK => ?_)
        go_wp2_with fail
        refine wpAny_one (i := 9) (by kernel_rfl) ?_
        refine rg_free rfl rfl (fun K' hKK => ?_)
        go_wp2_with fail
        refine wpAny_one (i := 12) (by kernel_rfl) ?_
        refine rg_free rfl rfl (fun K' hKK => ?_)
        go_wp2_with fail
        refine wpAny_done (by kernel_rfl) ?_ _
        go_wp2_with fail
        go_meet
        case rel => exact hrel.out
  case rest =>
    obtain ⟨g, c8, rfl, HX8, HB8⟩ := hcut
    have HX9 := hide (HQ9.out.below HB8.out)
    have HR8 := hide (HR3.out.below HB8.out)
    have HBB := hide (HF3.out.bw.trans (HB8.out.mono HF3.out.bw.size))
    obtain ⟨c0, c1, cf, cz, -⟩ := HX8.out.b
    obtain ⟨d0, d1, df, dz, -⟩ := HX9.out.b
    go_wp2_with (first
      | (go_at_call 146; (with_reducible refine (r2pow_o _ c8 (some ((1 - h) / (1 - l))) (p : Int) (HX8b.out.o.alloc _) (by omega) (by have := HPF.out; omega)).mono ?_); rintro e w6 ⟨q2, rfl, ho, hb⟩; rw [HP2.out] at ho ⊢; have HO6 := hide ho; have HX1c := hide ((Fx.mk0 HO5.out 26 rfl).below hb); have HR6 := hide ((HR5.out.bq.alloc _).rb.below hb); have HB6 := hide ((HB5.out.alloc HB5.out.size _).trans (hb.mono (by have := HB5.out.size; simp; omega))); obtain ⟨m0, m1, mf, mz, -⟩ := HX1c.out.b; clear ho hb)
      | (go_at_call 146; (with_reducible refine (r2pow_o _ c (some (h / l)) (f : Int) HX9.out.o (by omega) (by have := HPF.out; omega)).mono ?_); rintro e w5 ⟨q1, rfl, ho, hb⟩; rw [HP1.out] at ho ⊢; have HO5 := hide ho; have HX8b := hide (HX8.out.below hb); have HR5 := hide (HR8.out.below hb); have HB5 := hide (HBB.out.trans (hb.mono HBB.out.size)); obtain ⟨k0, k1, kf, kz, -⟩ := HX8b.out.b; clear ho hb)
      | (go_at_call 88; (with_reducible refine (r2mul_o _ q1 q2 (some ((h / l) ^ f)) (some (((1 - h) / (1 - l)) ^ p)) (HX1c.out.o.alloc _) (HO6.out.alloc _)).mono ?_); rintro e w7 ⟨q3, rfl, ho, hb⟩; rw [HM.out] at ho ⊢; have HO7 := hide ho; have HR7 := hide ((HR6.out.bq.alloc _).rb.below hb); have HB7 := hide ((HB6.out.alloc HB6.out.size _).trans (hb.mono (by have := HB6.out.size; simp; omega))); obtain ⟨n0, n1, nf, nz, -⟩ := HR7.out; clear ho hb))
    refine bodyPost_ret (v := .tuple #[.agg #[.slice q3.A q3.n q3.c, .slice q3.B q3.m q3.d], .int .i64 0]) (by simp [results, Tryz.results117, go_sem, *]) rfl ⟨q3, rfl, (HO7.out.put2 HR7.out.nb _ _ (by simp)).alloc _, (Rb.end0 HB7.out (by omega) _ _).alloc (by have := HB7.out.size; simp; omega) _⟩
set_option maxRecDepth 100000 in
set_option maxHeartbeats 8000000 in
theorem qratiox_bad (w : World) (s : Sv) (p f : Int) (hq : SQ w s) (hc : cntE s p f ≠ 0) :
    Calls Tryz.prog 117 #[.agg #[.slice s.l.A s.l.n s.l.c, .slice s.l.B s.l.m s.l.d, .slice s.h.A s.h.n s.h.c, .slice s.h.B s.h.m s.h.d, .slice s.a.A s.a.n s.a.c, .slice s.a.B s.a.m s.a.d, .slice s.b.A s.b.n s.b.c, .slice s.b.B s.b.m s.b.d, .int .i64 s.m], .int .i64 p, .int .i64 f] w fun e w' => Ret w (none, cntE s p f) e w' := by
  obtain ⟨E, hE⟩ : ∃ E, E = cntE s p f := ⟨_, rfl⟩
  rw [← hE] at hc ⊢
  have HE := hide hE
  have d1 : (E != 0) = true := by simp [hc]
  clear hE
  go_enter Tryz.func117, Tryz.ntmps117
  go_upto_region 1 with (fail)
  generalize hW : World.alloc (World.alloc w _) _ = v
  have HF := hide (show FS w v w.heap.size s by rw [← hW]; exact (FS.mk0 hq _).alloc _)
  have HRB := hide (show Rb v (w.heap.size + 1) by rw [← hW]; exact Rb.mk0 _ (by simp))
  obtain ⟨a0, a1, a2, a3, a4, a5, a6, a7, a8, a9⟩ := HF.out.ca
  obtain ⟨r0, r1, rf, rz, -⟩ := HRB.out
  clear hW hq
  go_wp2_with (go_at_call 145; (with_reducible refine (qcounts_any _ s p f HF.out.q).mono ?_); rintro e w1 ⟨rfl, hb⟩; rw [← HE.out]; have HF1 := hide (HF.out.below hb); have HR1 := hide (HRB.out.below hb); obtain ⟨b0, b1, b2, b3, b4, b5, b6, b7, b8, b9⟩ := HF1.out.ca; obtain ⟨s0, s1, sf, sz, -⟩ := HR1.out; clear hb)
  refine bodyPost_ret (v := .tuple #[.agg #[.slice none 0 0, .slice none 0 0], .int .i64 E]) (by simp [results, Tryz.results117, go_sem, *]) rfl (Ret.err0 (x := (none, E)) rfl HR1.out HF1.out.bw (by omega))
end Go.Proofs.YtnokfhkcfebimaaGreat

/- Contract: the reference's Decide. -/
namespace Go.Proofs.YtnokfhkcfebimaaGreat
open Go.RowKit

set_option maxRecDepth 100000 in
set_option maxHeartbeats 16000000 in
theorem qdecide_ok (w : World) (s : Sv) (l h a b : Rat) (M p f : Nat) (hq : SQ w s) (hk : OKs s l h a b M) (hpf : p + f ≤ M) :
    Calls Tryz.prog 87 #[.agg #[.slice s.l.A s.l.n s.l.c, .slice s.l.B s.l.m s.l.d, .slice s.h.A s.h.n s.h.c, .slice s.h.B s.h.m s.h.d, .slice s.a.A s.a.n s.a.c, .slice s.a.B s.a.m s.a.d, .slice s.b.A s.b.n s.b.c, .slice s.b.B s.b.m s.b.d, .int .i64 s.m], .int .i64 (p : Int), .int .i64 (f : Int)] w fun e w' => e = .returned (.tuple #[.int .i64 (decQ l h a b p f), .int .i64 0]) ∧ Below w.heap.size w w' := by
  have HD := hide (divR_some (r := 1) hk.ia.ne (bd_fits (inv_bd hk.ia) (by decide +kernel)))
  have HK := hide hk
  clear hk
  go_enter Tryz.func87, Tryz.ntmps87
  go_upto_region 1 with (fail)
  generalize hW : World.alloc w _ = v
  have HF := hide (show FS w v w.heap.size s by rw [← hW]; exact FS.mk0 hq _)
  obtain ⟨a0, a1, a2, a3, a4, a5, a6, a7, a8, a9⟩ := HF.out.ca
  clear hW hq
  go_upto_region 4 with (go_at_call 117; (with_reducible refine (qratiox_ok _ s l h a b M p f HF.out.q HK.out hpf).mono ?_); rintro e w1 ⟨c, rfl, ho, hb⟩; have HO := hide ho; have HF1 := hide (HF.out.below hb); clear ho hb)
  generalize hW : World.alloc w1 _ = v2
  have HF2 := hide (show FS w v2 w.heap.size s by rw [← hW]; exact HF1.out.alloc _)
  have HQ7 := hide (show Bq v2 w1.heap.size c by rw [← hW]; exact Bq.mk0 _ c rfl)
  have HO7 := hide (show Fo v2 c (some (ratQ l h p f)) by rw [← hW]; exact HO.out.alloc _)
  obtain ⟨b7, hb7⟩ : ∃ b, b = w1.heap.size := ⟨_, rfl⟩
  rw [← hb7] at HQ7 ⊢
  clear hW hb7
  go_cut [10] from 10 to 40 (fun s8 wx => ∃ (g : Nat) (c : Fa), s8 = .pointer (some ⟨g, 0, none⟩) ∧ Hid (Bq wx g c) ∧ Hid (Fo wx c (some (1 / a))) ∧ Hid (Below v2.heap.size v2 wx))
  case first =>
    apply region_seqo 6 8 [23, 24, 25, 26, 22, 27, 28, 10] [fun x w => ∃ c : Fa, x = .agg #[.slice c.A c.n c.c, .slice c.B c.m c.d] ∧ Fo w c (some (1)), eqV _, eqV _, fun x w => ∃ c : Fa, x = .tuple #[.agg #[.slice c.A c.n c.c, .slice c.B c.m c.d], .int .i64 0] ∧ Fo w c (some (1 / a)), fun x w => ∃ c : Fa, x = .tuple #[.agg #[.slice c.A c.n c.c, .slice c.B c.m c.d], .int .i64 0] ∧ Fo w c (some (1 / a)), fun x w => ∃ c : Fa, x = .agg #[.slice c.A c.n c.c, .slice c.B c.m c.d] ∧ Fo w c (some (1 / a)), eqV _, fun x w => ∃ b : Nat, x = .pointer (some ⟨b, 0, none⟩) ∧ v2.heap.size ≤ b ∧ Bq w b fa0] [false, false, false, false, false, false, false, false] (by kernel_rfl) (by decide) (by decide) rfl rfl rfl (by decide) (by kernel_rfl) (by kernel_rfl) rfl ?stb1 ?steps1 ?fina1 ?finb1
    case stb1 => repeat' (first | exact trivial | apply stb_eq | (first | exact fun x w w' ⟨c, h1, h2⟩ hb => ⟨c, h1, h2.below hb⟩ | exact fun x w w' ⟨c, h1, h2, h3⟩ hb => ⟨c, h1, h2, h3.below hb⟩) | apply And.intro)
    case steps1 =>
      repeat' (first | exact trivial | apply And.intro)
      all_goals
        intro a' w' hbw hdf hoff hdep K hK
        have o3 := hoff 3 rfl
        (have HG := hide (HF2.out.below hbw); obtain ⟨y0, y1, y2, y3, y4, y5, y6, y7, y8, y9⟩ := HG.out.ca; have hvz := hbw.size)
        replace hdep := hdep _ rfl
        simp only [List.getElem_toArray, List.getElem_cons_succ, List.getElem_cons_zero, List.toList_toArray, depAll, binds_data, binds_chain, binds_guard, binds_phase, binds_text, binds_gc, cond_true, cond_false, true_and, getR, eqV, List.getD_cons_succ, List.getD_cons_zero, and_true] at hdep
        simp only [Nat.zero_add, Nat.reduceAdd, getR, eqV, List.getD_cons_succ, List.getD_cons_zero] at hK
        clear hoff hdf
        (first | (obtain ⟨⟨c1, e15, HO1⟩, e17, hdep⟩ : (∃ c : Fa, _) ∧ (_ = _) ∧ _ := hdep) | (obtain ⟨⟨c1, e24, HO1⟩, hdep⟩ : (∃ c : Fa, _) ∧ _ := hdep) | (obtain ⟨c1, e24, HO1⟩ : ∃ c : Fa, _ := hdep) | skip)
        first
          | (refine rg_unwanted rfl rfl rfl (b' := false) (by first | (simp [hdep]; done) | assumption) (by decide) ?_; exact hK _ _ rfl (Below.refl _ _) (by simp))
          | (refine rg_unwanted rfl rfl rfl (b' := true) (by first | (simp [hdep]; done) | assumption) (by decide) ?_; exact hK _ _ rfl (Below.refl _ _) (by simp))
          | (refine rg_wanted rfl rfl rfl (b' := true) (by first | (simp [hdep]; done) | assumption) rfl (fun K' hKK => ?_); go_wp2_with (first | (go_at_call 48; (with_reducible refine (rzof_one _).mono ?_); rintro e w1 ⟨c, rfl, ho, hb⟩) | (go_at_call 118; (with_reducible refine (r2div_o _ c1 s.a (some 1) (some a) HO1 (fo_of HG.out.q.a HK.out.fa)).mono ?_); rintro e w1 ⟨c, rfl, ho, hb⟩; rw [HD.out] at ho ⊢)); first | exact hK _ _ rfl (Below.refl _ _) (by simp) | (first | exact hK _ _ ⟨c, rfl, ho⟩ hb (by simp) | exact hK _ _ ⟨c1, rfl, HO1⟩ (Below.refl _ _) (by simp) | exact hK _ _ ⟨_, rfl, hvz, Bq.mk0 _ fa0 rfl⟩ ((Below.refl _ _).alloc (Nat.le_refl _) _) (by simp)))
          | (refine rg_wanted rfl rfl rfl (b' := false) (by first | (simp [hdep]; done) | assumption) rfl (fun K' hKK => ?_); go_wp2_with (first | (go_at_call 48; (with_reducible refine (rzof_one _).mono ?_); rintro e w1 ⟨c, rfl, ho, hb⟩) | (go_at_call 118; (with_reducible refine (r2div_o _ c1 s.a (some 1) (some a) HO1 (fo_of HG.out.q.a HK.out.fa)).mono ?_); rintro e w1 ⟨c, rfl, ho, hb⟩; rw [HD.out] at ho ⊢)); first | exact hK _ _ rfl (Below.refl _ _) (by simp) | (first | exact hK _ _ ⟨c, rfl, ho⟩ hb (by simp) | exact hK _ _ ⟨c1, rfl, HO1⟩ (Below.refl _ _) (by simp) | exact hK _ _ ⟨_, rfl, hvz, Bq.mk0 _ fa0 rfl⟩ ((Below.refl _ _).alloc (Nat.le_refl _) _) (by simp)))
          | (refine rg_free rfl rfl (fun K' hKK => ?_); fail)
          | (refine rg_free rfl rfl (fun K' hKK => ?_); go_wp2_with (first | (go_at_call 48; (with_reducible refine (rzof_one _).mono ?_); rintro e w1 ⟨c, rfl, ho, hb⟩) | (go_at_call 118; (with_reducible refine (r2div_o _ c1 s.a (some 1) (some a) HO1 (fo_of HG.out.q.a HK.out.fa)).mono ?_); rintro e w1 ⟨c, rfl, ho, hb⟩; rw [HD.out] at ho ⊢)); first | exact hK _ _ rfl (Below.refl _ _) (by simp) | (first | exact hK _ _ ⟨c, rfl, ho⟩ hb (by simp) | exact hK _ _ ⟨c1, rfl, HO1⟩ (Below.refl _ _) (by simp) | exact hK _ _ ⟨_, rfl, hvz, Bq.mk0 _ fa0 rfl⟩ ((Below.refl _ _).alloc (Nat.le_refl _) _) (by simp)))
    all_goals
      intro w' hbw
      repeat (first | refine fin_eq ?_ | refine fin_any (fun x hx => ?_))
      rename_i x15 h15 x16 h16
      obtain ⟨c5, rfl, -⟩ := h15
      obtain ⟨q, rfl, ho⟩ := h16
      obtain ⟨g, rfl, hg, hq⟩ := hx
      have HO := hide ho
      have HQ := hide hq
      have HBW := hide hbw
      have hrel := hide (show ∃ (g' : Nat) (c' : Fa), Value.pointer (some ⟨g, 0, none⟩) = .pointer (some ⟨g', 0, none⟩) ∧ Hid (Bq ((w'.setCell ⟨g, 0, none⟩ (.slice q.A q.n q.c)).setCell ⟨g, 1, none⟩ (.slice q.B q.m q.d)) g' c') ∧ Hid (Fo ((w'.setCell ⟨g, 0, none⟩ (.slice q.A q.n q.c)).setCell ⟨g, 1, none⟩ (.slice q.B q.m q.d)) c' (some (1 / a))) ∧ Hid (Below v2.heap.size v2 ((w'.setCell ⟨g, 0, none⟩ (.slice q.A q.n q.c)).setCell ⟨g, 1, none⟩ (.slice q.B q.m q.d))) from
        ⟨g, q, rfl, hide (HQ.out.fill q), hide (HO.out.fill HQ.out q), hide (Rb.end0 HBW.out hg _ _)⟩)
      obtain ⟨c0, c1, cf, cz, -⟩ := HQ.out
      clear ho hq hbw
      refine fin_nil ?_
      simp only [List.setIfInBounds_toArray, List.set_cons_succ, List.set_cons_zero]
    · skip
      refine wpAny_one (i := 8) (by kernel_rfl) ?_
      refine rg_free rfl rfl (fun K' hKK => ?_)
      go_wp2_with fail
      refine wpAny_one (i := 9) (by kernel_rfl) ?_
      refine rg_free rfl rfl (fun K' hKK => ?_)
      go_wp2_with fail
      refine wpAny_done (by kernel_rfl) ?_ _
      go_wp2_with fail
      go_meet
      case rel => exact hrel.out
    · skip
      refine wpAny_two (i := 6) (j := 8) (by kernel_rfl) ?_ ?_
      · skip
        refine rg_free rfl rfl (fun K' hKK => ?_)
        go_wp2_with fail
        refine wpAny_one (i := 8) (by kernel_rfl) ?_
        refine rg_free rfl rfl (fun K' hKK => ?_)
        go_wp2_with fail
        refine wpAny_one (i := 9) (by kernel_rfl) ?_
        refine rg_free rfl rfl (fun K' hKK => ?_)
        go_wp2_with fail
        refine wpAny_done (by kernel_rfl) ?_ _
        go_wp2_with fail
        go_meet
        case rel => exact hrel.out
      · skip
        refine rg_free rfl rfl (fun K' hKK => ?_)
        go_wp2_with fail
        refine wpAny_one (i := 6) (by kernel_rfl) ?_
        refine rg_free rfl rfl (fun K' hKK => ?_)
        go_wp2_with fail
        refine wpAny_one (i := 9) (by kernel_rfl) ?_
        refine rg_free rfl rfl (fun K' hKK => ?_)
        go_wp2_with fail
        refine wpAny_done (by kernel_rfl) ?_ _
        go_wp2_with fail
        go_meet
        case rel => exact hrel.out
  case rest =>
    obtain ⟨g, c8, rfl, HQ, HO8, HB8⟩ := hcut
    have HF3 := hide (HF2.out.below HB8.out)
    have HQ3 := hide (HQ7.out.below HB8.out)
    have HO3 := hide (HO7.out.below HB8.out)
    obtain ⟨c0, c1, cf, cz, -⟩ := HQ.out
    obtain ⟨d0, d1, df, dz, -⟩ := HQ3.out
    obtain ⟨e0, e1, e2, e3, e4, e5, e6, e7, e8, e9⟩ := HF3.out.ca
    by_cases h1 : 1 / a ≤ ratQ l h p f
    · have g1 : decide (0 ≤ cmpO (some (ratQ l h p f)) (some (1 / a))) = true := decide_eq_true (cmpQ_ge.2 h1)
      have HX := hide (show decQ l h a b p f = 2 from if_pos h1)
      clear h1
      go_wp2_with (go_at_call 83; (with_reducible refine (r2cmp_o _ c c8 _ _ HO3.out HO8.out).mono ?_); rintro e w3 ⟨rfl, hb⟩; have HB3 := hide (HF3.out.bw.trans (hb.mono HF3.out.bw.size)); clear hb)
      refine bodyPost_ret (v := .tuple #[.int .i64 2, .int .i64 0]) (by simp [results, Tryz.results87, go_sem, *]) rfl ⟨by rw [HX.out], HB3.out⟩
    · have g1 : decide (0 ≤ cmpO (some (ratQ l h p f)) (some (1 / a))) = false := decide_eq_false (fun h => h1 (cmpQ_ge.1 h))
      have HX0 := hide (show decQ l h a b p f = if ratQ l h p f ≤ b then 1 else 0 from if_neg h1)
      clear h1
      by_cases h2 : ratQ l h p f ≤ b
      · have g2 : decide (cmpO (some (ratQ l h p f)) (some b) ≤ 0) = true := decide_eq_true (cmpQ_le.2 h2)
        have HX := hide (show decQ l h a b p f = 1 by rw [HX0.out, if_pos h2])
        clear h2 HX0
        go_wp2_with (first
          | (go_at_call 83; (with_reducible refine (r2cmp_o _ c c8 _ _ HO3.out HO8.out).mono ?_); rintro e w3 ⟨rfl, hb⟩; have HF4 := hide (HF3.out.below hb); have HQ4 := hide (HQ3.out.below hb); have HO4 := hide (HO3.out.below hb); obtain ⟨k0, k1, kf, kz, -⟩ := HQ4.out; obtain ⟨f0, f1, f2, f3, f4, f5, f6, f7, f8, f9⟩ := HF4.out.ca; clear hb)
          | (go_at_call 83; (with_reducible refine (r2cmp_o _ c s.b _ (some b) HO4.out (fo_of HF4.out.q.b HK.out.fb)).mono ?_); rintro e w4 ⟨rfl, hb⟩; have HB3 := hide (HF4.out.bw.trans (hb.mono HF4.out.bw.size)); clear hb))
        refine bodyPost_ret (v := .tuple #[.int .i64 1, .int .i64 0]) (by simp [results, Tryz.results87, go_sem, *]) rfl ⟨by rw [HX.out], HB3.out⟩
      · have g2 : decide (cmpO (some (ratQ l h p f)) (some b) ≤ 0) = false := decide_eq_false (fun h => h2 (cmpQ_le.1 h))
        have HX := hide (show decQ l h a b p f = 0 by rw [HX0.out, if_neg h2])
        clear h2 HX0
        go_wp2_with (first
          | (go_at_call 83; (with_reducible refine (r2cmp_o _ c c8 _ _ HO3.out HO8.out).mono ?_); rintro e w3 ⟨rfl, hb⟩; have HF4 := hide (HF3.out.below hb); have HQ4 := hide (HQ3.out.below hb); have HO4 := hide (HO3.out.below hb); obtain ⟨k0, k1, kf, kz, -⟩ := HQ4.out; obtain ⟨f0, f1, f2, f3, f4, f5, f6, f7, f8, f9⟩ := HF4.out.ca; clear hb)
          | (go_at_call 83; (with_reducible refine (r2cmp_o _ c s.b _ (some b) HO4.out (fo_of HF4.out.q.b HK.out.fb)).mono ?_); rintro e w4 ⟨rfl, hb⟩; have HB3 := hide (HF4.out.bw.trans (hb.mono HF4.out.bw.size)); clear hb))
        refine bodyPost_ret (v := .tuple #[.int .i64 0, .int .i64 0]) (by simp [results, Tryz.results87, go_sem, *]) rfl ⟨by rw [HX.out], HB3.out⟩
set_option maxRecDepth 100000 in
set_option maxHeartbeats 8000000 in
theorem qdecide_bad (w : World) (s : Sv) (p f : Int) (hq : SQ w s) (hc : cntE s p f ≠ 0) :
    Calls Tryz.prog 87 #[.agg #[.slice s.l.A s.l.n s.l.c, .slice s.l.B s.l.m s.l.d, .slice s.h.A s.h.n s.h.c, .slice s.h.B s.h.m s.h.d, .slice s.a.A s.a.n s.a.c, .slice s.a.B s.a.m s.a.d, .slice s.b.A s.b.n s.b.c, .slice s.b.B s.b.m s.b.d, .int .i64 s.m], .int .i64 p, .int .i64 f] w fun e w' => e = .returned (.tuple #[.int .i64 0, .int .i64 (cntE s p f)]) ∧ Below w.heap.size w w' := by
  have HC := hide (fun (W : World) (hW : SQ W s) => qratiox_bad W s p f hW hc)
  obtain ⟨E, hE⟩ : ∃ E, E = cntE s p f := ⟨_, rfl⟩
  rw [← hE] at hc HC ⊢
  have d1 : (E != 0) = true := by simp [hc]
  clear hE
  go_enter Tryz.func87, Tryz.ntmps87
  go_upto_region 1 with (fail)
  generalize hW : World.alloc w _ = v
  have HF := hide (show FS w v w.heap.size s by rw [← hW]; exact FS.mk0 hq _)
  obtain ⟨a0, a1, a2, a3, a4, a5, a6, a7, a8, a9⟩ := HF.out.ca
  clear hW hq
  go_wp2_with (go_at_call 117; (with_reducible refine (HC.out _ HF.out.q).mono ?_); rintro e w1 ⟨c, rfl, -, hb⟩; have HF1 := hide (HF.out.below hb); clear hb)
  refine bodyPost_ret (v := .tuple #[.int .i64 0, .int .i64 E]) (by simp [results, Tryz.results87, go_sem, *]) rfl ⟨rfl, HF1.out.bw.alloc HF1.out.bw.size _⟩
end Go.Proofs.YtnokfhkcfebimaaGreat
