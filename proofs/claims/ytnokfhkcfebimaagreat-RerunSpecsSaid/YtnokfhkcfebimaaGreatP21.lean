/- Contracts of the functions that these laws reach: part 21: Contract: the reference's Ratio; Contract: the reference's Decide; Plain laws of the sequential tests' chances: the value of a run, the rows of chances, Wald's bounds; Plain laws: chances over a power of a denominator are small. -/
import Derived.Test.YtnokfhkcfebimaaGreatP20
import Derived.Test.YtnokfhkcfebimaaGreatP15
set_option linter.unusedVariables false
set_option linter.unusedSimpArgs false

/- Contract: the reference's Ratio. -/
namespace Go.Proofs.YtnokfhkcfebimaaGreat
open Go.RowKit

set_option maxRecDepth 100000 in
set_option maxHeartbeats 16000000 in
theorem qratiox_ok (w : World) (s : Sv) (l h a b : Rat) (M p f : Nat) (hq : SQ w s) (hk : OKs s l h a b M) (hpf : p + f ≤ M) :
    Calls Tryz.prog 117 #[.agg #[.slice s.l.A s.l.n s.l.c, .slice s.l.B s.l.m s.l.d, .slice s.h.A s.h.n s.h.c, .slice s.h.B s.h.m s.h.d, .slice s.a.A s.a.n s.a.c, .slice s.a.B s.a.m s.a.d, .slice s.b.A s.b.n s.b.c, .slice s.b.B s.b.m s.b.d, .int .i64 s.m], .int .i64 (p : Int), .int .i64 (f : Int)] w fun e w' => Ret w (some (ratQ l h p f), 0) e w' := by
  have hm := hk.m
  have hm2 := hk.m2
  have hp : p ≤ 32 := by omega
  have hf : f ≤ 32 := by omega
  have HC := hide (show cntE s p f = 0 by
    unfold cntE
    rw [if_neg (by rw [hk.ok]; simp), if_neg (by omega)])
  obtain ⟨hb1, hb2, hb3, hb4, hb5⟩ := ratQ_bd hk.il hk.ih hp hf
  have HM := hide (mulR_some (r := (h / l) ^ f) (s := ((1 - h) / (1 - l)) ^ p) (bd_fits hb3 (Nat.le_refl _)))
  have HP1 := hide (powR_nat hf (bd_fits hb1 (by decide +kernel)))
  have HP2 := hide (powR_nat hp (bd_fits hb2 (by decide +kernel)))
  have HD1 := hide (divR_some hk.il.ne (bd_fits hb4 (by decide +kernel)))
  have HD2 := hide (divR_some hk.il.qne (bd_fits hb5 (by decide +kernel)))
  have f5 := hide (bd_fits hk.ih.c.bdq (by decide +kernel))
  have f6 := hide (bd_fits hk.il.c.bdq (by decide +kernel))
  have HK := hide hk
  have HPF := hide (And.intro hp hf)
  clear hk hb1 hb2 hb3 hb4 hb5 hm hm2 hpf hp hf
  go_enter Tryz.func117, Tryz.ntmps117
  go_upto_region 1 with (fail)
  generalize hW : World.alloc (World.alloc w _) _ = v
  have HF := hide (show FS w v w.heap.size s by rw [← hW]; exact (FS.mk0 hq _).alloc _)
  have HRB := hide (show Rb v (w.heap.size + 1) by rw [← hW]; exact Rb.mk0 _ (by simp))
  obtain ⟨a0, a1, a2, a3, a4, a5, a6, a7, a8, a9⟩ := HF.out.ca
  obtain ⟨r0, r1, rf, rz, -⟩ := HRB.out
  clear hW hq
  go_upto_region 5 with (first
    | (go_at_call 145; (with_reducible refine (qcounts_any _ s p f HF.out.q).mono ?_); rintro e w1 ⟨rfl, hb⟩; rw [HC.out]; have HF1 := hide (HF.out.below hb); have HR1 := hide (HRB.out.below hb); obtain ⟨b0, b1, b2, b3, b4, b5, b6, b7, b8, b9⟩ := HF1.out.ca; clear hb)
    | (go_at_call 118; (with_reducible refine (r2div_o _ s.h s.l (some h) (some l) (fo_of HF1.out.q.h HK.out.fh) (fo_of HF1.out.q.l HK.out.fl)).mono ?_); rintro e w2 ⟨c, rfl, ho, hb⟩; rw [HD1.out] at ho ⊢; have HO2 := hide ho; have HF2 := hide (HF1.out.below hb); have HR2 := hide (HR1.out.below hb); clear ho hb))
  generalize hW : World.alloc w2 _ = v2
  have HF3 := hide (show FS w v2 w.heap.size s by rw [← hW]; exact HF2.out.alloc _)
  have HQ9 := hide (show Fx v2 w2.heap.size c (some (h / l)) by rw [← hW]; exact Fx.mk0 HO2.out _ rfl)
  have HR3 := hide (show Rb v2 (w.heap.size + 1) by rw [← hW]; exact (HR2.out.bq.alloc _).rb)
  obtain ⟨b9, hb9⟩ : ∃ b, b = w2.heap.size := ⟨_, rfl⟩
  rw [← hb9] at HQ9 ⊢
  clear hW hb9
  go_cut [11] from 11 to 63 (fun s8 wx => ∃ (g : Nat) (c : Fa), s8 = .pointer (some ⟨g, 0, none⟩) ∧ Hid (Fx wx g c (some ((1 - h) / (1 - l)))) ∧ Hid (Below v2.heap.size v2 wx))
  case first =>
    apply region_seqo 9 11 [36, 37, 38, 39, 40, 41, 42, 35, 43, 44, 11] [eqV _, eqV _, fun x w => ∃ c : Fa, x = .agg #[.slice c.A c.n c.c, .slice c.B c.m c.d] ∧ Fo w c (some (1 - h)), eqV _, eqV _, fun x w => ∃ c : Fa, x = .agg #[.slice c.A c.n c.c, .slice c.B c.m c.d] ∧ Fo w c (some (1 - l)), fun x w => ∃ c : Fa, x = .tuple #[.agg #[.slice c.A c.n c.c, .slice c.B c.m c.d], .int .i64 0] ∧ Fo w c (some ((1 - h) / (1 - l))), fun x w => ∃ c : Fa, x = .tuple #[.agg #[.slice c.A c.n c.c, .slice c.B c.m c.d], .int .i64 0] ∧ Fo w c (some ((1 - h) / (1 - l))), fun x w => ∃ c : Fa, x = .agg #[.slice c.A c.n c.c, .slice c.B c.m c.d] ∧ Fo w c (some ((1 - h) / (1 - l))), eqV _, fun x w => ∃ b : Nat, x = .pointer (some ⟨b, 0, none⟩) ∧ v2.heap.size ≤ b ∧ Bq w b fa0] [false, false, false, false, false, false, false, false, false, false, false] (by kernel_rfl) (by decide) (by decide) rfl rfl rfl (by decide) (by kernel_rfl) (by kernel_rfl) rfl ?stb2 ?steps2 ?fina2 ?finb2
    case stb2 => repeat' (first | exact trivial | apply stb_eq | (first | exact fun x w w' ⟨c, h1, h2⟩ hb => ⟨c, h1, h2.below hb⟩ | exact fun x w w' ⟨c, h1, h2, h3⟩ hb => ⟨c, h1, h2, h3.below hb⟩) | apply And.intro)
    case steps2 =>
      repeat' (first | exact trivial | apply And.intro)
      all_goals
        intro a' w' hbw hdf hoff hdep K hK
        have o3 := hoff 3 rfl
        (have HG := hide (HF3.out.below hbw); obtain ⟨y0, y1, y2, y3, y4, y5, y6, y7, y8, y9⟩ := HG.out.ca; have hvz := hbw.size)
        replace hdep := hdep _ rfl
        simp only [List.getElem_toArray, List.getElem_cons_succ, List.getElem_cons_zero, List.toList_toArray, depAll, binds_data, binds_chain, binds_guard, binds_phase, binds_text, binds_gc, cond_true, cond_false, true_and, getR, eqV, List.getD_cons_succ, List.getD_cons_zero, and_true] at hdep
        simp only [Nat.zero_add, Nat.reduceAdd, getR, eqV, List.getD_cons_succ, List.getD_cons_zero] at hK
        clear hoff hdf
        (first | (obtain ⟨⟨c1, e18, HO1⟩, ⟨c2, e21, HO2⟩, hdep⟩ : (∃ c : Fa, _) ∧ (∃ c : Fa, _) ∧ _ := hdep) | (obtain ⟨⟨c1, e24, HO1⟩, hdep⟩ : (∃ c : Fa, _) ∧ _ := hdep) | (obtain ⟨c1, e24, HO1⟩ : ∃ c : Fa, _ := hdep) | skip)
        first
          | (refine rg_unwanted rfl rfl rfl (b' := false) (by first | (simp [hdep]; done) | assumption) (by decide) ?_; exact hK _ _ rfl (Below.refl _ _) (by simp))
          | (refine rg_unwanted rfl rfl rfl (b' := true) (by first | (simp [hdep]; done) | assumption) (by decide) ?_; exact hK _ _ rfl (Below.refl _ _) (by simp))
          | (refine rg_wanted rfl rfl rfl (b' := true) (by first | (simp [hdep]; done) | assumption) rfl (fun K' hKK => ?_); go_wp2_with (first | (go_at_call 89; (with_reducible refine (rzrest_any _ s.h h (fo_of HG.out.q.h HK.out.fh) HK.out.ih.c.h1 f5.out).mono ?_); rintro e w1 ⟨c, rfl, ho, hb⟩) | (go_at_call 89; (with_reducible refine (rzrest_any _ s.l l (fo_of HG.out.q.l HK.out.fl) HK.out.il.c.h1 f6.out).mono ?_); rintro e w1 ⟨c, rfl, ho, hb⟩) | (go_at_call 118; (with_reducible refine (r2div_o _ c1 c2 (some (1 - h)) (some (1 - l)) HO1 HO2).mono ?_); rintro e w1 ⟨c, rfl, ho, hb⟩; rw [HD2.out] at ho ⊢)); first | exact hK _ _ rfl (Below.refl _ _) (by simp) | (first | exact hK _ _ ⟨c, rfl, ho⟩ hb (by simp) | exact hK _ _ ⟨c1, rfl, HO1⟩ (Below.refl _ _) (by simp) | exact hK _ _ ⟨_, rfl, hvz, Bq.mk0 _ fa0 rfl⟩ ((Below.refl _ _).alloc (Nat.le_refl _) _) (by simp)))
          | (refine rg_wanted rfl rfl rfl (b' := false) (by first | (simp [hdep]; done) | assumption) rfl (fun K' hKK => ?_); go_wp2_with (first | (go_at_call 89; (with_reducible refine (rzrest_any _ s.h h (fo_of HG.out.q.h HK.out.fh) HK.out.ih.c.h1 f5.out).mono ?_); rintro e w1 ⟨c, rfl, ho, hb⟩) | (go_at_call 89; (with_reducible refine (rzrest_any _ s.l l (fo_of HG.out.q.l HK.out.fl) HK.out.il.c.h1 f6.out).mono ?_); rintro e w1 ⟨c, rfl, ho, hb⟩) | (go_at_call 118; (with_reducible refine (r2div_o _ c1 c2 (some (1 - h)) (some (1 - l)) HO1 HO2).mono ?_); rintro e w1 ⟨c, rfl, ho, hb⟩; rw [HD2.out] at ho ⊢)); first | exact hK _ _ rfl (Below.refl _ _) (by simp) | (first | exact hK _ _ ⟨c, rfl, ho⟩ hb (by simp) | exact hK _ _ ⟨c1, rfl, HO1⟩ (Below.refl _ _) (by simp) | exact hK _ _ ⟨_, rfl, hvz, Bq.mk0 _ fa0 rfl⟩ ((Below.refl _ _).alloc (Nat.le_refl _) _) (by simp)))
          | (refine rg_free rfl rfl (fun K' hKK => ?_); fail)
          | (refine rg_free rfl rfl (fun K' hKK => ?_); go_wp2_with (first | (go_at_call 89; (with_reducible refine (rzrest_any _ s.h h (fo_of HG.out.q.h HK.out.fh) HK.out.ih.c.h1 f5.out).mono ?_); rintro e w1 ⟨c, rfl, ho, hb⟩) | (go_at_call 89; (with_reducible refine (rzrest_any _ s.l l (fo_of HG.out.q.l HK.out.fl) HK.out.il.c.h1 f6.out).mono ?_); rintro e w1 ⟨c, rfl, ho, hb⟩) | (go_at_call 118; (with_reducible refine (r2div_o _ c1 c2 (some (1 - h)) (some (1 - l)) HO1 HO2).mono ?_); rintro e w1 ⟨c, rfl, ho, hb⟩; rw [HD2.out] at ho ⊢)); first | exact hK _ _ rfl (Below.refl _ _) (by simp) | (first | exact hK _ _ ⟨c, rfl, ho⟩ hb (by simp) | exact hK _ _ ⟨c1, rfl, HO1⟩ (Below.refl _ _) (by simp) | exact hK _ _ ⟨_, rfl, hvz, Bq.mk0 _ fa0 rfl⟩ ((Below.refl _ _).alloc (Nat.le_refl _) _) (by simp)))
    all_goals
      intro w' hbw
      repeat (first | refine fin_eq ?_ | refine fin_any (fun x hx => ?_))
      rename_i x15 h15 x16 h16
      obtain ⟨c5, rfl, -⟩ := h15
      obtain ⟨q, rfl, ho⟩ := h16
      obtain ⟨g, rfl, hg, hq⟩ := hx
      have HO := hide ho
      have HQ := hide hq
      have HBW := hide hbw
      have hrel := hide (show ∃ (g' : Nat) (c' : Fa), Value.pointer (some ⟨g, 0, none⟩) = .pointer (some ⟨g', 0, none⟩) ∧ Hid (Fx ((w'.setCell ⟨g, 0, none⟩ (.slice q.A q.n q.c)).setCell ⟨g, 1, none⟩ (.slice q.B q.m q.d)) g' c' (some ((1 - h) / (1 - l)))) ∧ Hid (Below v2.heap.size v2 ((w'.setCell ⟨g, 0, none⟩ (.slice q.A q.n q.c)).setCell ⟨g, 1, none⟩ (.slice q.B q.m q.d))) from
        ⟨g, q, rfl, hide ⟨HQ.out.fill q, HO.out.fill HQ.out q⟩, hide (Rb.end0 HBW.out hg _ _)⟩)
      obtain ⟨c0, c1, cf, cz, -⟩ := HQ.out
      clear ho hq hbw
      refine fin_nil ?_
      simp only [List.setIfInBounds_toArray, List.set_cons_succ, List.set_cons_zero]
    · skip
      refine wpAny_one (i := 11) (by kernel_rfl) ?_
      refine rg_free rfl rfl (fun K' hKK => ?_)
      go_wp2_with fail
      refine wpAny_one (i := 12) (by kernel_rfl) ?_
      refine rg_free rfl rfl (fun K' hKK => ?_)
      go_wp2_with fail
      refine wpAny_done (by kernel_rfl) ?_ _
      go_wp2_with fail
      go_meet
      case rel => exact hrel.out
    · skip
      refine wpAny_two (i := 9) (j := 11) (by kernel_rfl) ?_ ?_
      · skip
        refine rg_free rfl rfl (fun K' hKK => ?_)
        go_wp2_with fail
        refine wpAny_one (i := 11) (by kernel_rfl) ?_
        refine rg_free rfl rfl (fun K' hKK => ?_)
        go_wp2_with fail
        refine wpAny_one (i := 12) (by kernel_rfl) ?_
        refine rg_free rfl rfl (fun K' hKK => ?_)
        go_wp2_with fail
        refine wpAny_done (by kernel_rfl) ?_ _
        go_wp2_with fail
        go_meet
        case rel => exact hrel.out
      · skip
        refine rg_free rfl rfl (fun K' hKK => ?_)
        go_wp2_with fail
        refine wpAny_one (i := 9) (by kernel_rfl) ?_
        refine rg_free rfl rfl (fun K' hKK => ?_)
        go_wp2_with fail
        refine wpAny_one (i := 12) (by kernel_rfl) ?_
        refine rg_free rfl rfl (fun K' hKK => ?_)
        go_wp2_with fail
        refine wpAny_done (by kernel_rfl) ?_ _
        go_wp2_with fail
        go_meet
        case rel => exact hrel.out
  case rest =>
    obtain ⟨g, c8, rfl, HX8, HB8⟩ := hcut
    have HX9 := hide (HQ9.out.below HB8.out)
    have HR8 := hide (HR3.out.below HB8.out)
    have HBB := hide (HF3.out.bw.trans (HB8.out.mono HF3.out.bw.size))
    obtain ⟨c0, c1, cf, cz, -⟩ := HX8.out.b
    obtain ⟨d0, d1, df, dz, -⟩ := HX9.out.b
    go_wp2_with (first
      | (go_at_call 146; (with_reducible refine (r2pow_o _ c8 (some ((1 - h) / (1 - l))) (p : Int) (HX8b.out.o.alloc _) (by omega) (by have := HPF.out; omega)).mono ?_); rintro e w6 ⟨q2, rfl, ho, hb⟩; rw [HP2.out] at ho ⊢; have HO6 := hide ho; have HX1c := hide ((Fx.mk0 HO5.out 26 rfl).below hb); have HR6 := hide ((HR5.out.bq.alloc _).rb.below hb); have HB6 := hide ((HB5.out.alloc HB5.out.size _).trans (hb.mono (by have := HB5.out.size; simp; omega))); obtain ⟨m0, m1, mf, mz, -⟩ := HX1c.out.b; clear ho hb)
      | (go_at_call 146; (with_reducible refine (r2pow_o _ c (some (h / l)) (f : Int) HX9.out.o (by omega) (by have := HPF.out; omega)).mono ?_); rintro e w5 ⟨q1, rfl, ho, hb⟩; rw [HP1.out] at ho ⊢; have HO5 := hide ho; have HX8b := hide (HX8.out.below hb); have HR5 := hide (HR8.out.below hb); have HB5 := hide (HBB.out.trans (hb.mono HBB.out.size)); obtain ⟨k0, k1, kf, kz, -⟩ := HX8b.out.b; clear ho hb)
      | (go_at_call 88; (with_reducible refine (r2mul_o _ q1 q2 (some ((h / l) ^ f)) (some (((1 - h) / (1 - l)) ^ p)) (HX1c.out.o.alloc _) (HO6.out.alloc _)).mono ?_); rintro e w7 ⟨q3, rfl, ho, hb⟩; rw [HM.out] at ho ⊢; have HO7 := hide ho; have HR7 := hide ((HR6.out.bq.alloc _).rb.below hb); have HB7 := hide ((HB6.out.alloc HB6.out.size _).trans (hb.mono (by have := HB6.out.size; simp; omega))); obtain ⟨n0, n1, nf, nz, -⟩ := HR7.out; clear ho hb))
    refine bodyPost_ret (v := .tuple #[.agg #[.slice q3.A q3.n q3.c, .slice q3.B q3.m q3.d], .int .i64 0]) (by simp [results, Tryz.results117, go_sem, *]) rfl ⟨q3, rfl, (HO7.out.put2 HR7.out.nb _ _ (by simp)).alloc _, (Rb.end0 HB7.out (by omega) _ _).alloc (by have := HB7.out.size; simp; omega) _⟩
end Go.Proofs.YtnokfhkcfebimaaGreat

/- Contract: the reference's Decide. -/
namespace Go.Proofs.YtnokfhkcfebimaaGreat
open Go.RowKit

set_option maxRecDepth 100000 in
set_option maxHeartbeats 16000000 in
theorem qdecide_ok (w : World) (s : Sv) (l h a b : Rat) (M p f : Nat) (hq : SQ w s) (hk : OKs s l h a b M) (hpf : p + f ≤ M) :
    Calls Tryz.prog 87 #[.agg #[.slice s.l.A s.l.n s.l.c, .slice s.l.B s.l.m s.l.d, .slice s.h.A s.h.n s.h.c, .slice s.h.B s.h.m s.h.d, .slice s.a.A s.a.n s.a.c, .slice s.a.B s.a.m s.a.d, .slice s.b.A s.b.n s.b.c, .slice s.b.B s.b.m s.b.d, .int .i64 s.m], .int .i64 (p : Int), .int .i64 (f : Int)] w fun e w' => e = .returned (.tuple #[.int .i64 (decQ l h a b p f), .int .i64 0]) ∧ Below w.heap.size w w' := by
  have HD := hide (divR_some (r := 1) hk.ia.ne (bd_fits (inv_bd hk.ia) (by decide +kernel)))
  have HK := hide hk
  clear hk
  go_enter Tryz.func87, Tryz.ntmps87
  go_upto_region 1 with (fail)
  generalize hW : World.alloc w _ = v
  have HF := hide (show FS w v w.heap.size s by rw [← hW]; exact FS.mk0 hq _)
  obtain ⟨a0, a1, a2, a3, a4, a5, a6, a7, a8, a9⟩ := HF.out.ca
  clear hW hq
  go_upto_region 4 with (go_at_call 117; (with_reducible refine (qratiox_ok _ s l h a b M p f HF.out.q HK.out hpf).mono ?_); rintro e w1 ⟨c, rfl, ho, hb⟩; have HO := hide ho; have HF1 := hide (HF.out.below hb); clear ho hb)
  generalize hW : World.alloc w1 _ = v2
  have HF2 := hide (show FS w v2 w.heap.size s by rw [← hW]; exact HF1.out.alloc _)
  have HQ7 := hide (show Bq v2 w1.heap.size c by rw [← hW]; exact Bq.mk0 _ c rfl)
  have HO7 := hide (show Fo v2 c (some (ratQ l h p f)) by rw [← hW]; exact HO.out.alloc _)
  obtain ⟨b7, hb7⟩ : ∃ b, b = w1.heap.size := ⟨_, rfl⟩
  rw [← hb7] at HQ7 ⊢
  clear hW hb7
  go_cut [10] from 10 to 40 (fun s8 wx => ∃ (g : Nat) (c : Fa), s8 = .pointer (some ⟨g, 0, none⟩) ∧ Hid (Bq wx g c) ∧ Hid (Fo wx c (some (1 / a))) ∧ Hid (Below v2.heap.size v2 wx))
  case first =>
    apply region_seqo 6 8 [23, 24, 25, 26, 22, 27, 28, 10] [fun x w => ∃ c : Fa, x = .agg #[.slice c.A c.n c.c, .slice c.B c.m c.d] ∧ Fo w c (some (1)), eqV _, eqV _, fun x w => ∃ c : Fa, x = .tuple #[.agg #[.slice c.A c.n c.c, .slice c.B c.m c.d], .int .i64 0] ∧ Fo w c (some (1 / a)), fun x w => ∃ c : Fa, x = .tuple #[.agg #[.slice c.A c.n c.c, .slice c.B c.m c.d], .int .i64 0] ∧ Fo w c (some (1 / a)), fun x w => ∃ c : Fa, x = .agg #[.slice c.A c.n c.c, .slice c.B c.m c.d] ∧ Fo w c (some (1 / a)), eqV _, fun x w => ∃ b : Nat, x = .pointer (some ⟨b, 0, none⟩) ∧ v2.heap.size ≤ b ∧ Bq w b fa0] [false, false, false, false, false, false, false, false] (by kernel_rfl) (by decide) (by decide) rfl rfl rfl (by decide) (by kernel_rfl) (by kernel_rfl) rfl ?stb1 ?steps1 ?fina1 ?finb1
    case stb1 => repeat' (first | exact trivial | apply stb_eq | (first | exact fun x w w' ⟨c, h1, h2⟩ hb => ⟨c, h1, h2.below hb⟩ | exact fun x w w' ⟨c, h1, h2, h3⟩ hb => ⟨c, h1, h2, h3.below hb⟩) | apply And.intro)
    case steps1 =>
      repeat' (first | exact trivial | apply And.intro)
      all_goals
        intro a' w' hbw hdf hoff hdep K hK
        have o3 := hoff 3 rfl
        (have HG := hide (HF2.out.below hbw); obtain ⟨y0, y1, y2, y3, y4, y5, y6, y7, y8, y9⟩ := HG.out.ca; have hvz := hbw.size)
        replace hdep := hdep _ rfl
        simp only [List.getElem_toArray, List.getElem_cons_succ, List.getElem_cons_zero, List.toList_toArray, depAll, binds_data, binds_chain, binds_guard, binds_phase, binds_text, binds_gc, cond_true, cond_false, true_and, getR, eqV, List.getD_cons_succ, List.getD_cons_zero, and_true] at hdep
        simp only [Nat.zero_add, Nat.reduceAdd, getR, eqV, List.getD_cons_succ, List.getD_cons_zero] at hK
        clear hoff hdf
        (first | (obtain ⟨⟨c1, e15, HO1⟩, e17, hdep⟩ : (∃ c : Fa, _) ∧ (_ = _) ∧ _ := hdep) | (obtain ⟨⟨c1, e24, HO1⟩, hdep⟩ : (∃ c : Fa, _) ∧ _ := hdep) | (obtain ⟨c1, e24, HO1⟩ : ∃ c : Fa, _ := hdep) | skip)
        first
          | (refine rg_unwanted rfl rfl rfl (b' := false) (by first | (simp [hdep]; done) | assumption) (by decide) ?_; exact hK _ _ rfl (Below.refl _ _) (by simp))
          | (refine rg_unwanted rfl rfl rfl (b' := true) (by first | (simp [hdep]; done) | assumption) (by decide) ?_; exact hK _ _ rfl (Below.refl _ _) (by simp))
          | (refine rg_wanted rfl rfl rfl (b' := true) (by first | (simp [hdep]; done) | assumption) rfl (fun K' hKK => ?_); go_wp2_with (first | (go_at_call 48; (with_reducible refine (rzof_one _).mono ?_); rintro e w1 ⟨c, rfl, ho, hb⟩) | (go_at_call 118; (with_reducible refine (r2div_o _ c1 s.a (some 1) (some a) HO1 (fo_of HG.out.q.a HK.out.fa)).mono ?_); rintro e w1 ⟨c, rfl, ho, hb⟩; rw [HD.out] at ho ⊢)); first | exact hK _ _ rfl (Below.refl _ _) (by simp) | (first | exact hK _ _ ⟨c, rfl, ho⟩ hb (by simp) | exact hK _ _ ⟨c1, rfl, HO1⟩ (Below.refl _ _) (by simp) | exact hK _ _ ⟨_, rfl, hvz, Bq.mk0 _ fa0 rfl⟩ ((Below.refl _ _).alloc (Nat.le_refl _) _) (by simp)))
          | (refine rg_wanted rfl rfl rfl (b' := false) (by first | (simp [hdep]; done) | assumption) rfl (fun K' hKK => ?_); go_wp2_with (first | (go_at_call 48; (with_reducible refine (rzof_one _).mono ?_); rintro e w1 ⟨c, rfl, ho, hb⟩) | (go_at_call 118; (with_reducible refine (r2div_o _ c1 s.a (some 1) (some a) HO1 (fo_of HG.out.q.a HK.out.fa)).mono ?_); rintro e w1 ⟨c, rfl, ho, hb⟩; rw [HD.out] at ho ⊢)); first | exact hK _ _ rfl (Below.refl _ _) (by simp) | (first | exact hK _ _ ⟨c, rfl, ho⟩ hb (by simp) | exact hK _ _ ⟨c1, rfl, HO1⟩ (Below.refl _ _) (by simp) | exact hK _ _ ⟨_, rfl, hvz, Bq.mk0 _ fa0 rfl⟩ ((Below.refl _ _).alloc (Nat.le_refl _) _) (by simp)))
          | (refine rg_free rfl rfl (fun K' hKK => ?_); fail)
          | (refine rg_free rfl rfl (fun K' hKK => ?_); go_wp2_with (first | (go_at_call 48; (with_reducible refine (rzof_one _).mono ?_); rintro e w1 ⟨c, rfl, ho, hb⟩) | (go_at_call 118; (with_reducible refine (r2div_o _ c1 s.a (some 1) (some a) HO1 (fo_of HG.out.q.a HK.out.fa)).mono ?_); rintro e w1 ⟨c, rfl, ho, hb⟩; rw [HD.out] at ho ⊢)); first | exact hK _ _ rfl (Below.refl _ _) (by simp) | (first | exact hK _ _ ⟨c, rfl, ho⟩ hb (by simp) | exact hK _ _ ⟨c1, rfl, HO1⟩ (Below.refl _ _) (by simp) | exact hK _ _ ⟨_, rfl, hvz, Bq.mk0 _ fa0 rfl⟩ ((Below.refl _ _).alloc (Nat.le_refl _) _) (by simp)))
    all_goals
      intro w' hbw
      repeat (first | refine fin_eq ?_ | refine fin_any (fun x hx => ?_))
      rename_i x15 h15 x16 h16
      obtain ⟨c5, rfl, -⟩ := h15
      obtain ⟨q, rfl, ho⟩ := h16
      obtain ⟨g, rfl, hg, hq⟩ := hx
      have HO := hide ho
      have HQ := hide hq
      have HBW := hide hbw
      have hrel := hide (show ∃ (g' : Nat) (c' : Fa), Value.pointer (some ⟨g, 0, none⟩) = .pointer (some ⟨g', 0, none⟩) ∧ Hid (Bq ((w'.setCell ⟨g, 0, none⟩ (.slice q.A q.n q.c)).setCell ⟨g, 1, none⟩ (.slice q.B q.m q.d)) g' c') ∧ Hid (Fo ((w'.setCell ⟨g, 0, none⟩ (.slice q.A q.n q.c)).setCell ⟨g, 1, none⟩ (.slice q.B q.m q.d)) c' (some (1 / a))) ∧ Hid (Below v2.heap.size v2 ((w'.setCell ⟨g, 0, none⟩ (.slice q.A q.n q.c)).setCell ⟨g, 1, none⟩ (.slice q.B q.m q.d))) from
        ⟨g, q, rfl, hide (HQ.out.fill q), hide (HO.out.fill HQ.out q), hide (Rb.end0 HBW.out hg _ _)⟩)
      obtain ⟨c0, c1, cf, cz, -⟩ := HQ.out
      clear ho hq hbw
      refine fin_nil ?_
      simp only [List.setIfInBounds_toArray, List.set_cons_succ, List.set_cons_zero]
    · skip
      refine wpAny_one (i := 8) (by kernel_rfl) ?_
      refine rg_free rfl rfl (fun K' hKK => ?_)
      go_wp2_with fail
      refine wpAny_one (i := 9) (by kernel_rfl) ?_
      refine rg_free rfl rfl (fun K' hKK => ?_)
      go_wp2_with fail
      refine wpAny_done (by kernel_rfl) ?_ _
      go_wp2_with fail
      go_meet
      case rel => exact hrel.out
    · skip
      refine wpAny_two (i := 6) (j := 8) (by kernel_rfl) ?_ ?_
      · skip
        refine rg_free rfl rfl (fun K' hKK => ?_)
        go_wp2_with fail
        refine wpAny_one (i := 8) (by kernel_rfl) ?_
        refine rg_free rfl rfl (fun K' hKK => ?_)
        go_wp2_with fail
        refine wpAny_one (i := 9) (by kernel_rfl) ?_
        refine rg_free rfl rfl (fun K' hKK => ?_)
        go_wp2_with fail
        refine wpAny_done (by kernel_rfl) ?_ _
        go_wp2_with fail
        go_meet
        case rel => exact hrel.out
      · skip
        refine rg_free rfl rfl (fun K' hKK => ?_)
        go_wp2_with fail
        refine wpAny_one (i := 6) (by kernel_rfl) ?_
        refine rg_free rfl rfl (fun K' hKK => ?_)
        go_wp2_with fail
        refine wpAny_one (i := 9) (by kernel_rfl) ?_
        refine rg_free rfl rfl (fun K' hKK => ?_)
        go_wp2_with fail
        refine wpAny_done (by kernel_rfl) ?_ _
        go_wp2_with fail
        go_meet
        case rel => exact hrel.out
  case rest =>
    obtain ⟨g, c8, rfl, HQ, HO8, HB8⟩ := hcut
    have HF3 := hide (HF2.out.below HB8.out)
    have HQ3 := hide (HQ7.out.below HB8.out)
    have HO3 := hide (HO7.out.below HB8.out)
    obtain ⟨c0, c1, cf, cz, -⟩ := HQ.out
    obtain ⟨d0, d1, df, dz, -⟩ := HQ3.out
    obtain ⟨e0, e1, e2, e3, e4, e5, e6, e7, e8, e9⟩ := HF3.out.ca
    by_cases h1 : 1 / a ≤ ratQ l h p f
    · have g1 : decide (0 ≤ cmpO (some (ratQ l h p f)) (some (1 / a))) = true := decide_eq_true (cmpQ_ge.2 h1)
      have HX := hide (show decQ l h a b p f = 2 from if_pos h1)
      clear h1
      go_wp2_with (go_at_call 83; (with_reducible refine (r2cmp_o _ c c8 _ _ HO3.out HO8.out).mono ?_); rintro e w3 ⟨rfl, hb⟩; have HB3 := hide (HF3.out.bw.trans (hb.mono HF3.out.bw.size)); clear hb)
      refine bodyPost_ret (v := .tuple #[.int .i64 2, .int .i64 0]) (by simp [results, Tryz.results87, go_sem, *]) rfl ⟨by rw [HX.out], HB3.out⟩
    · have g1 : decide (0 ≤ cmpO (some (ratQ l h p f)) (some (1 / a))) = false := decide_eq_false (fun h => h1 (cmpQ_ge.1 h))
      have HX0 := hide (show decQ l h a b p f = if ratQ l h p f ≤ b then 1 else 0 from if_neg h1)
      clear h1
      by_cases h2 : ratQ l h p f ≤ b
      · have g2 : decide (cmpO (some (ratQ l h p f)) (some b) ≤ 0) = true := decide_eq_true (cmpQ_le.2 h2)
        have HX := hide (show decQ l h a b p f = 1 by rw [HX0.out, if_pos h2])
        clear h2 HX0
        go_wp2_with (first
          | (go_at_call 83; (with_reducible refine (r2cmp_o _ c c8 _ _ HO3.out HO8.out).mono ?_); rintro e w3 ⟨rfl, hb⟩; have HF4 := hide (HF3.out.below hb); have HQ4 := hide (HQ3.out.below hb); have HO4 := hide (HO3.out.below hb); obtain ⟨k0, k1, kf, kz, -⟩ := HQ4.out; obtain ⟨f0, f1, f2, f3, f4, f5, f6, f7, f8, f9⟩ := HF4.out.ca; clear hb)
          | (go_at_call 83; (with_reducible refine (r2cmp_o _ c s.b _ (some b) HO4.out (fo_of HF4.out.q.b HK.out.fb)).mono ?_); rintro e w4 ⟨rfl, hb⟩; have HB3 := hide (HF4.out.bw.trans (hb.mono HF4.out.bw.size)); clear hb))
        refine bodyPost_ret (v := .tuple #[.int .i64 1, .int .i64 0]) (by simp [results, Tryz.results87, go_sem, *]) rfl ⟨by rw [HX.out], HB3.out⟩
      · have g2 : decide (cmpO (some (ratQ l h p f)) (some b) ≤ 0) = false := decide_eq_false (fun h => h2 (cmpQ_le.1 h))
        have HX := hide (show decQ l h a b p f = 0 by rw [HX0.out, if_neg h2])
        clear h2 HX0
        go_wp2_with (first
          | (go_at_call 83; (with_reducible refine (r2cmp_o _ c c8 _ _ HO3.out HO8.out).mono ?_); rintro e w3 ⟨rfl, hb⟩; have HF4 := hide (HF3.out.below hb); have HQ4 := hide (HQ3.out.below hb); have HO4 := hide (HO3.out.below hb); obtain ⟨k0, k1, kf, kz, -⟩ := HQ4.out; obtain ⟨f0, f1, f2, f3, f4, f5, f6, f7, f8, f9⟩ := HF4.out.ca; clear hb)
          | (go_at_call 83; (with_reducible refine (r2cmp_o _ c s.b _ (some b) HO4.out (fo_of HF4.out.q.b HK.out.fb)).mono ?_); rintro e w4 ⟨rfl, hb⟩; have HB3 := hide (HF4.out.bw.trans (hb.mono HF4.out.bw.size)); clear hb))
        refine bodyPost_ret (v := .tuple #[.int .i64 0, .int .i64 0]) (by simp [results, Tryz.results87, go_sem, *]) rfl ⟨by rw [HX.out], HB3.out⟩
end Go.Proofs.YtnokfhkcfebimaaGreat

/- Plain laws of the sequential tests' chances: the value of a run, the rows of chances, Wald's bounds. -/
namespace Go.Proofs.YtnokfhkcfebimaaGreat

/-- The value of a run that ends with a decision, or after k more outcomes. -/
def val (d : Nat → Nat → Int) (x : Rat) (g : Int → Nat → Rat) : Nat → Nat → Nat → Rat
  | 0, p, f => g (d p f) (p + f)
  | k + 1, p, f => if d p f ≠ 0 then g (d p f) (p + f) else x * val d x g k p (f + 1) + (1 - x) * val d x g k (p + 1) f
def gF (D : Int) (_ : Nat) : Rat := if D = 2 then 1 else 0
def gS (D : Int) (_ : Nat) : Rat := if D = 1 then 1 else 0
def gO (D : Int) (_ : Nat) : Rat := if D = 0 then 1 else 0
def gN (_ : Int) (n : Nat) : Rat := (n : Rat)
theorem val_dec {d : Nat → Nat → Int} {x : Rat} {g : Int → Nat → Rat} {k p f : Nat} (h : d p f ≠ 0) : val d x g k p f = g (d p f) (p + f) := by
  cases k with
  | zero => rfl
  | succ k => show (if d p f ≠ 0 then _ else _) = _; rw [if_pos h]
theorem val_open {d : Nat → Nat → Int} {x : Rat} {g : Int → Nat → Rat} {k p f : Nat} (h : d p f = 0) : val d x g (k + 1) p f = x * val d x g k p (f + 1) + (1 - x) * val d x g k (p + 1) f := by
  show (if d p f ≠ 0 then _ else _) = _; rw [if_neg (by simp [h])]
theorem val_zero (d : Nat → Nat → Int) (x : Rat) (g : Int → Nat → Rat) (p f : Nat) : val d x g 0 p f = g (d p f) (p + f) := rfl

/-! ### Rows -/
/-- The sum of a row's chances, each with its value. -/
def dp (V : Nat → Rat) : List Rat → Nat → Rat
  | [], _ => 0
  | a :: t, i => a * V i + dp V t (i + 1)
/-- The next row: what was carried, and what passes and fails. -/
def spr (q x c : Rat) : List Rat → List Rat
  | [] => [c]
  | a :: t => (c + a * q) :: spr q x (a * x) t
/-- What is decided so. -/
def hit (d : Nat → Nat → Int) (D : Int) (n : Nat) : List Rat → Nat → Rat
  | [], _ => 0
  | a :: t, i => (if d (n - i) i = D then a else 0) + hit d D n t (i + 1)
/-- What is not decided. -/
def cln (d : Nat → Nat → Int) (n : Nat) : List Rat → Nat → List Rat
  | [], _ => []
  | a :: t, i => (if d (n - i) i = 0 then a else 0) :: cln d n t (i + 1)
def sumL : List Rat → Rat
  | [] => 0
  | a :: t => a + sumL t
theorem spr_length (q x c : Rat) : ∀ l : List Rat, (spr q x c l).length = l.length + 1
  | [] => rfl
  | a :: t => by simp [spr, spr_length q x (a * x) t]
theorem cln_length (d : Nat → Nat → Int) (n : Nat) : ∀ (l : List Rat) (i : Nat), (cln d n l i).length = l.length
  | [], _ => rfl
  | a :: t, i => by simp [cln, cln_length d n t (i + 1)]
theorem dp_spr (V : Nat → Rat) (q x : Rat) : ∀ (l : List Rat) (c : Rat) (i : Nat), dp V (spr q x c l) i = c * V i + dp (fun f => x * V (f + 1) + q * V f) l i
  | [], c, i => by simp only [spr, dp]
  | a :: t, c, i => by
    simp only [spr, dp, dp_spr V q x t (a * x) (i + 1)]
    grind
/-- Chances stand only at open places. -/
def Und (d : Nat → Nat → Int) (n : Nat) : List Rat → Nat → Prop
  | [], _ => True
  | a :: t, i => (a ≠ 0 → d (n - i) i = 0) ∧ Und d n t (i + 1)
theorem und_cln (d : Nat → Nat → Int) (n : Nat) : ∀ (l : List Rat) (i : Nat), Und d n (cln d n l i) i
  | [], _ => trivial
  | a :: t, i => ⟨fun h => by by_cases h1 : d (n - i) i = 0; · exact h1
                              · exact absurd (if_neg h1) h, und_cln d n t (i + 1)⟩
theorem dp_congr {d : Nat → Nat → Int} {n : Nat} {V W : Nat → Rat} : ∀ (l : List Rat) (i : Nat), Und d n l i → (∀ j, i ≤ j → j < i + l.length → d (n - j) j = 0 → V j = W j) → dp V l i = dp W l i
  | [], _, _, _ => rfl
  | a :: t, i, h, hV => by
    simp only [dp]
    rw [dp_congr t (i + 1) h.2 (fun j h1 h2 h3 => hV j (by omega) (by simp only [List.length_cons]; omega) h3)]
    by_cases ha : a = 0
    · subst ha; simp
    · rw [hV i (Nat.le_refl _) (by simp) (h.1 ha)]
theorem dp_cln (d : Nat → Nat → Int) (hd : ∀ p f, d p f = 0 ∨ d p f = 1 ∨ d p f = 2) (n : Nat) (V : Nat → Rat) (u v : Rat) : ∀ (l : List Rat) (i : Nat), (∀ j, d (n - j) j = 1 → V j = u) → (∀ j, d (n - j) j = 2 → V j = v) →
    dp V l i = dp V (cln d n l i) i + u * hit d 1 n l i + v * hit d 2 n l i
  | [], _, _, _ => by simp [dp, cln, hit]; grind
  | a :: t, i, h1, h2 => by
    simp only [dp, cln, hit, dp_cln d hd n V u v t (i + 1) h1 h2]
    rcases hd (n - i) i with h | h | h
    · rw [h]; simp only [if_true]; rw [if_neg (by decide), if_neg (by decide)]; grind
    · have := h1 i h
      rw [h]; simp only [if_true]; rw [if_neg (by decide), if_neg (by decide), this]; grind
    · have := h2 i h
      rw [h]; simp only [if_true]; rw [if_neg (by decide), if_neg (by decide), this]; grind

/-- The state of a run of rows: the row, the chances of Flaky and Stable, the expected number. -/
structure Wk where
  row : List Rat
  fl : Rat
  st : Rat
  ex : Rat
def Wk.zero : Wk := ⟨[1], 0, 0, 0⟩
def Wk.next (d : Nat → Nat → Int) (x : Rat) (n : Nat) (s : Wk) : Wk :=
  ⟨cln d n (spr (1 - x) x 0 s.row) 0, s.fl + hit d 2 n (spr (1 - x) x 0 s.row) 0, s.st + hit d 1 n (spr (1 - x) x 0 s.row) 0, s.ex + sumL s.row⟩
def Wk.after (d : Nat → Nat → Int) (x : Rat) : Nat → Wk
  | 0 => Wk.zero
  | n + 1 => (Wk.after d x n).next d x (n + 1)
theorem after_len (d : Nat → Nat → Int) (x : Rat) : ∀ n, (Wk.after d x n).row.length = n + 1
  | 0 => rfl
  | n + 1 => by show (cln d (n + 1) (spr _ _ _ _) 0).length = _; rw [cln_length, spr_length, after_len d x n]
theorem after_und (d : Nat → Nat → Int) (h0 : d 0 0 = 0) (x : Rat) : ∀ n, Und d n (Wk.after d x n).row 0
  | 0 => ⟨fun _ => h0, trivial⟩
  | n + 1 => und_cln d (n + 1) _ 0
theorem sub_succ_left {n f : Nat} (h : f ≤ n) : n + 1 - f = n - f + 1 := by omega
/-- One step, for a payoff that does not count the outcomes. -/
theorem after_val (d : Nat → Nat → Int) (hd : ∀ p f, d p f = 0 ∨ d p f = 1 ∨ d p f = 2) (h0 : d 0 0 = 0) (x : Rat) (g : Int → Nat → Rat) (M : Nat) (u v : Rat) (hu : ∀ n, g 1 n = u) (hv : ∀ n, g 2 n = v) :
    ∀ n, n ≤ M → val d x g M 0 0 = dp (fun f => val d x g (M - n) (n - f) f) (Wk.after d x n).row 0 + u * (Wk.after d x n).st + v * (Wk.after d x n).fl
  | 0, _ => by simp only [Wk.after, Wk.zero, dp, Nat.sub_zero]; grind
  | n + 1, h => by
    rw [after_val d hd h0 x g M u v hu hv n (by omega)]
    have e1 : dp (fun f => val d x g (M - n) (n - f) f) (Wk.after d x n).row 0 = dp (fun f => x * val d x g (M - (n + 1)) (n + 1 - (f + 1)) (f + 1) + (1 - x) * val d x g (M - (n + 1)) (n + 1 - f) f) (Wk.after d x n).row 0 := by
      refine dp_congr _ 0 (after_und d h0 x n) (fun j _ hj hdj => ?_)
      rw [after_len] at hj
      rw [show M - n = (M - (n + 1)) + 1 by omega, val_open hdj, Nat.add_sub_add_right, sub_succ_left (by omega)]
    have e2 := dp_spr (fun f => val d x g (M - (n + 1)) (n + 1 - f) f) (1 - x) x (Wk.after d x n).row 0 0
    have e3 := dp_cln d hd (n + 1) (fun f => val d x g (M - (n + 1)) (n + 1 - f) f) u v (spr (1 - x) x 0 (Wk.after d x n).row) 0 (fun j hj => by show val _ _ _ _ _ _ = _; rw [val_dec (by rw [hj]; decide), hj, hu]) (fun j hj => by show val _ _ _ _ _ _ = _; rw [val_dec (by rw [hj]; decide), hj, hv])
    show _ = dp _ (cln d (n + 1) (spr (1 - x) x 0 (Wk.after d x n).row) 0) 0 + u * ((Wk.after d x n).st + hit d 1 (n + 1) (spr (1 - x) x 0 (Wk.after d x n).row) 0) + v * ((Wk.after d x n).fl + hit d 2 (n + 1) (spr (1 - x) x 0 (Wk.after d x n).row) 0)
    rw [e1]
    grind
theorem dp_const (c : Rat) : ∀ (l : List Rat) (i : Nat), dp (fun _ => c) l i = c * sumL l
  | [], _ => by simp only [dp, sumL]; grind
  | a :: t, i => by simp only [dp, sumL, dp_const c t (i + 1)]; grind
section
variable {d : Nat → Nat → Int} (hd : ∀ p f, d p f = 0 ∨ d p f = 1 ∨ d p f = 2) (h0 : d 0 0 = 0) (x : Rat) (M : Nat)
include hd h0
theorem after_end (g : Int → Nat → Rat) (u v c : Rat) (hu : ∀ n, g 1 n = u) (hv : ∀ n, g 2 n = v) (hc : ∀ n, g 0 n = c) : val d x g M 0 0 = c * sumL (Wk.after d x M).row + u * (Wk.after d x M).st + v * (Wk.after d x M).fl := by
  rw [after_val d hd h0 x g M u v hu hv M (Nat.le_refl _), ← dp_const c _ 0]
  congr 2
  refine dp_congr _ 0 (after_und d h0 x M) (fun j _ _ hdj => ?_)
  rw [Nat.sub_self, val_zero, hdj, hc]
theorem after_fl : val d x gF M 0 0 = (Wk.after d x M).fl := by
  rw [after_end hd h0 x M gF 0 1 0 (fun _ => rfl) (fun _ => rfl) (fun _ => rfl)]; grind
theorem after_st : val d x gS M 0 0 = (Wk.after d x M).st := by
  rw [after_end hd h0 x M gS 1 0 0 (fun _ => rfl) (fun _ => rfl) (fun _ => rfl)]; grind
theorem after_op : val d x gO M 0 0 = sumL (Wk.after d x M).row := by
  rw [after_end hd h0 x M gO 0 0 1 (fun _ => rfl) (fun _ => rfl) (fun _ => rfl)]; grind
end

/-! ### Chances -/
theorem one_sub_nonneg {x : Rat} (h : x ≤ 1) : 0 ≤ 1 - x := by grind
theorem mix_mono {x a b a' b' : Rat} (h0 : 0 ≤ x) (h1 : x ≤ 1) (ha : a ≤ a') (hb : b ≤ b') : x * a + (1 - x) * b ≤ x * a' + (1 - x) * b' := by
  have k1 := Rat.mul_le_mul_of_nonneg_left ha h0
  have k2 := Rat.mul_le_mul_of_nonneg_left hb (one_sub_nonneg h1)
  grind
theorem mix_const (x c : Rat) : x * c + (1 - x) * c = c := by grind
theorem val_le {d : Nat → Nat → Int} {x : Rat} (hx0 : 0 ≤ x) (hx1 : x ≤ 1) {g g' : Int → Nat → Rat} (h : ∀ D n, g D n ≤ g' D n) : ∀ k p f, val d x g k p f ≤ val d x g' k p f
  | 0, p, f => h _ _
  | k + 1, p, f => by
    by_cases hd : d p f = 0
    · rw [val_open hd, val_open hd]
      exact mix_mono hx0 hx1 (val_le hx0 hx1 h k p (f + 1)) (val_le hx0 hx1 h k (p + 1) f)
    · rw [val_dec hd, val_dec hd]
      exact h _ _
theorem val_const (d : Nat → Nat → Int) (x c : Rat) : ∀ k p f, val d x (fun _ _ => c) k p f = c
  | 0, _, _ => rfl
  | k + 1, p, f => by
    by_cases hd : d p f = 0
    · rw [val_open hd, val_const d x c k, val_const d x c k, mix_const]
    · rw [val_dec hd]
theorem val_le_one {d : Nat → Nat → Int} {x : Rat} (hx0 : 0 ≤ x) (hx1 : x ≤ 1) {g : Int → Nat → Rat} (h : ∀ D n, g D n ≤ 1) (k p f : Nat) : val d x g k p f ≤ 1 := by
  have := val_le (d := d) hx0 hx1 (g' := fun _ _ => 1) h k p f
  rwa [val_const] at this
theorem gF_le (D : Int) (n : Nat) : gF D n ≤ 1 := by unfold gF; split <;> decide
theorem gS_le (D : Int) (n : Nat) : gS D n ≤ 1 := by unfold gS; split <;> decide
theorem gO_le (D : Int) (n : Nat) : gO D n ≤ 1 := by unfold gO; split <;> decide
theorem nat_nn (n : Nat) : (0 : Rat) ≤ (n : Rat) := by exact_mod_cast Nat.zero_le n
theorem cast_succ (n : Nat) : ((n + 1 : Nat) : Rat) = (n : Rat) + 1 := by simp
/-- The number of outcomes. -/
theorem val_num {d : Nat → Nat → Int} {x : Rat} (hx0 : 0 ≤ x) (hx1 : x ≤ 1) : ∀ k p f, ((p + f : Nat) : Rat) ≤ val d x gN k p f ∧ val d x gN k p f ≤ ((p + f + k : Nat) : Rat)
  | 0, p, f => ⟨Rat.le_refl, Rat.le_refl⟩
  | k + 1, p, f => by
    by_cases hd : d p f = 0
    · rw [val_open hd]
      have h1 := val_num (d := d) hx0 hx1 k p (f + 1)
      have h2 := val_num (d := d) hx0 hx1 k (p + 1) f
      rw [show p + (f + 1) = p + f + 1 by omega] at h1
      rw [show p + 1 + f = p + f + 1 by omega] at h2
      have h3 := mix_mono hx0 hx1 h1.1 h2.1
      have h4 := mix_mono hx0 hx1 h1.2 h2.2
      rw [mix_const] at h3 h4
      refine ⟨Rat.le_trans ?_ h3, by rwa [show p + f + (k + 1) = p + f + 1 + k by omega]⟩
      rw [cast_succ]
      grind
    · rw [val_dec hd]
      refine ⟨Rat.le_refl, ?_⟩
      show ((p + f : Nat) : Rat) ≤ _
      exact_mod_cast (by omega : p + f ≤ p + f + (k + 1))
/-! ### Wald's bounds -/
section
variable {l h a b : Rat} (hl : Inn l) (hh : Inn h) (hlh : l < h) (ha : Inn a) (hb : Inn b)
omit ha hh
include hb
end

/-! ### More failures, a greater chance -/
section
variable {d : Nat → Nat → Int} (hd : ∀ p f, d p f = 0 ∨ d p f = 1 ∨ d p f = 2) (hf : ∀ p f, d (p + 1) f = 2 → d p (f + 1) = 2) (hs : ∀ p f, d p (f + 1) = 1 → d (p + 1) f = 1)
include hd hf hs
end
end Go.Proofs.YtnokfhkcfebimaaGreat

/- Plain laws: chances over a power of a denominator are small. -/
namespace Go.Proofs.YtnokfhkcfebimaaGreat

/-- A number over D^n, at most B. -/
def Dv (D n B : Nat) (r : Rat) : Prop := ∃ k : Nat, r * ((D ^ n : Nat) : Rat) = (k : Rat) ∧ k ≤ B * D ^ n
theorem Dv.add {D n B C : Nat} {r s : Rat} (h : Dv D n B r) (k : Dv D n C s) : Dv D n (B + C) (r + s) := by
  obtain ⟨i, h1, h2⟩ := h
  obtain ⟨j, k1, k2⟩ := k
  refine ⟨i + j, ?_, by rw [Nat.add_mul]; omega⟩
  rw [Rat.add_mul, h1, k1]
  simp
theorem Dv.mul {D n m B C : Nat} {r s : Rat} (h : Dv D n B r) (k : Dv D m C s) : Dv D (n + m) (B * C) (r * s) := by
  obtain ⟨i, h1, h2⟩ := h
  obtain ⟨j, k1, k2⟩ := k
  refine ⟨i * j, ?_, ?_⟩
  · rw [Nat.pow_add]
    have e : ((D ^ n * D ^ m : Nat) : Rat) = ((D ^ n : Nat) : Rat) * ((D ^ m : Nat) : Rat) := by simp
    have e2 : ((i * j : Nat) : Rat) = (i : Rat) * (j : Rat) := by simp
    rw [e, e2, ← h1, ← k1]
    grind
  · rw [Nat.pow_add]
    calc i * j ≤ (B * D ^ n) * (C * D ^ m) := Nat.mul_le_mul h2 k2
      _ = _ := by simp only [Nat.mul_comm, Nat.mul_left_comm, Nat.mul_assoc]
theorem Dv.mono {D n B C : Nat} {r : Rat} (h : Dv D n B r) (hBC : B ≤ C) : Dv D n C r := by
  obtain ⟨i, h1, h2⟩ := h
  exact ⟨i, h1, Nat.le_trans h2 (Nat.mul_le_mul_right _ hBC)⟩
theorem Dv.nat (D m : Nat) : Dv D 0 m (m : Rat) := ⟨m, by simp, by simp⟩
theorem Dv.one (D : Nat) : Dv D 0 1 1 := Dv.nat D 1
theorem Dv.zero (D n B : Nat) : Dv D n B 0 := ⟨0, by simp, by omega⟩
theorem Dv.up1 {D n B : Nat} {r : Rat} (h : Dv D n B r) : Dv D (n + 1) B r := by
  have h1 : Dv D 1 1 (1 : Rat) := ⟨D, by simp, by simp⟩
  have := h.mul h1
  rwa [Nat.mul_one, Rat.mul_one] at this
theorem Dv.up {D n B : Nat} {r : Rat} (h : Dv D n B r) : ∀ m, Dv D (n + m) B r
  | 0 => h
  | m + 1 => (Dv.up h m).up1
theorem Dv.upto {D n m B : Nat} {r : Rat} (h : Dv D n B r) (hm : n ≤ m) : Dv D m B r := by
  have := h.up (m - n)
  rwa [show n + (m - n) = m by omega] at this
theorem Chn.dv {x : Rat} (h : Chn x) : Dv x.den 1 1 x := by
  obtain ⟨k, hk⟩ := den_sc h.h0
  rw [Rat.pow_one] at hk
  refine ⟨k, by rw [Nat.pow_one]; exact hk, ?_⟩
  have h1 := Rat.mul_le_mul_of_nonneg_right h.h1 (cast_nonneg x.den)
  rw [Rat.one_mul, hk] at h1
  rw [Nat.pow_one, Nat.one_mul]
  exact_mod_cast h1
theorem Chn.dvq {x : Rat} (h : Chn x) : Dv x.den 1 1 (1 - x) := by
  obtain ⟨k, h1, h2⟩ := h.dv
  rw [Nat.one_mul] at h2
  refine ⟨x.den ^ 1 - k, ?_, by omega⟩
  have e : ((x.den ^ 1 - k : Nat) : Rat) = ((x.den ^ 1 : Nat) : Rat) - (k : Rat) := by
    have : ((x.den ^ 1 : Nat) : Rat) = ((x.den ^ 1 - k : Nat) : Rat) + (k : Rat) := by
      rw [← Rat.natCast_add]; congr 1; omega
    grind
  rw [e, ← h1]
  grind
theorem Dv.bd {D n B : Nat} {r : Rat} (h : Dv D n B r) (hD : 0 < D) (hB : 1 ≤ B) : Bd (B * D ^ n) r := by
  obtain ⟨k, h1, h2⟩ := h
  have hp : 0 < D ^ n := Nat.pow_pos hD
  have hne : ((D ^ n : Nat) : Rat) ≠ 0 := by
    intro e
    have : (D ^ n : Nat) = 0 := by exact_mod_cast e
    omega
  have e : r = mkRat (k : Int) (D ^ n) := by
    rw [Rat.mkRat_eq_div, Rat.intCast_natCast, ← h1]
    rw [Rat.div_def, Rat.mul_assoc, Rat.mul_inv_cancel _ hne, Rat.mul_one]
  rw [e]
  exact Bd.mk' hp h2 (Nat.le_mul_of_pos_left _ hB)
theorem bigDv : 18446744073709551616 * 1000 ^ 66 < 4294967296 ^ 128 := by decide +kernel
theorem Dv.fits {D n B : Nat} {r : Rat} (h : Dv D n B r) (hD : 0 < D) (hD2 : D ≤ 1000) (hn : n ≤ 66) (hB : B ≤ 18446744073709551616) : fitsR r = true := by
  have h1 := (h.mono (show B ≤ B + 1 by omega)).mono (show B + 1 ≤ B + 1 by omega)
  rcases Nat.eq_zero_or_pos B with h0 | h0
  · subst h0
    exact ((h.mono (Nat.zero_le 1)).bd hD (Nat.le_refl _)).fits (Nat.lt_of_le_of_lt (by rw [Nat.one_mul]; exact Nat.le_trans (Nat.pow_le_pow_left hD2 n) (Nat.pow_le_pow_right (by omega) hn)) (by decide +kernel : 1000 ^ 66 < 4294967296 ^ 128))
  · exact (h.bd hD h0).fits (Nat.lt_of_le_of_lt (Nat.mul_le_mul hB (Nat.le_trans (Nat.pow_le_pow_left hD2 n) (Nat.pow_le_pow_right (by omega) hn))) bigDv)

/-! ### The rows' sizes -/
theorem spr_dv {D n B : Nat} {q x : Rat} (hq : Dv D 1 1 q) (hx : Dv D 1 1 x) : ∀ (l : List Rat) (c : Rat), (∀ a ∈ l, Dv D n B a) → Dv D (n + 1) B c → ∀ a ∈ spr q x c l, Dv D (n + 1) (2 * B) a
  | [], c, _, hc, a, ha => by
    simp only [spr, List.mem_singleton] at ha
    subst ha
    exact hc.mono (by omega)
  | b :: t, c, hl, hc, a, ha => by
    have hb := hl b (List.mem_cons_self ..)
    have h1 := hb.mul hq
    have h2 := hb.mul hx
    rw [Nat.mul_one] at h1 h2
    simp only [spr, List.mem_cons] at ha
    rcases ha with rfl | ha
    · exact (hc.add h1).mono (by omega)
    · exact spr_dv hq hx t (b * x) (fun a h => hl a (List.mem_cons_of_mem _ h)) h2 a ha
theorem cln_dv {D n B : Nat} {d : Nat → Nat → Int} {m : Nat} : ∀ (l : List Rat) (i : Nat), (∀ a ∈ l, Dv D n B a) → ∀ a ∈ cln d m l i, Dv D n B a
  | [], _, _, a, ha => by simp [cln] at ha
  | b :: t, i, hl, a, ha => by
    simp only [cln, List.mem_cons] at ha
    rcases ha with rfl | ha
    · split
      · exact hl b (List.mem_cons_self ..)
      · exact Dv.zero D n B
    · exact cln_dv t (i + 1) (fun a h => hl a (List.mem_cons_of_mem _ h)) a ha
theorem hit_dv {D n B : Nat} {d : Nat → Nat → Int} {E : Int} {m : Nat} : ∀ (l : List Rat) (i : Nat), (∀ a ∈ l, Dv D n B a) → Dv D n (l.length * B) (hit d E m l i)
  | [], _, _ => Dv.zero D n _
  | b :: t, i, hl => by
    have h1 : Dv D n B (if d (m - i) i = E then b else 0) := by
      split
      · exact hl b (List.mem_cons_self ..)
      · exact Dv.zero D n B
    have h2 := hit_dv (d := d) (E := E) (m := m) t (i + 1) (fun a h => hl a (List.mem_cons_of_mem _ h))
    simp only [hit]
    exact (h1.add h2).mono (by simp only [List.length_cons, Nat.add_mul, Nat.one_mul]; omega)
theorem sumL_dv {D n B : Nat} : ∀ (l : List Rat), (∀ a ∈ l, Dv D n B a) → Dv D n (l.length * B) (sumL l)
  | [], _ => Dv.zero D n _
  | b :: t, hl => by
    have h2 := sumL_dv t (fun a h => hl a (List.mem_cons_of_mem _ h))
    simp only [sumL]
    exact ((hl b (List.mem_cons_self ..)).add h2).mono (by simp only [List.length_cons, Nat.add_mul, Nat.one_mul]; omega)
/-- The values: over den^k. -/
theorem val_dv {d : Nat → Nat → Int} {x : Rat} (hx : Chn x) {g : Int → Nat → Rat} (hg : ∀ D n, ∃ m : Nat, g D n = (m : Rat)) : ∀ k p f, ∃ B, Dv x.den k B (val d x g k p f)
  | 0, p, f => by obtain ⟨m, hm⟩ := hg (d p f) (p + f); exact ⟨m, by rw [val_zero, hm]; exact Dv.nat _ m⟩
  | k + 1, p, f => by
    by_cases hd : d p f = 0
    · obtain ⟨B, hB⟩ := val_dv hx hg k p (f + 1)
      obtain ⟨C, hC⟩ := val_dv hx hg k (p + 1) f
      refine ⟨1 * B + 1 * C, ?_⟩
      rw [val_open hd, Nat.add_comm k 1]
      exact (hx.dv.mul hB).add (hx.dvq.mul hC)
    · obtain ⟨m, hm⟩ := hg (d p f) (p + f)
      exact ⟨m, by rw [val_dec hd, hm]; exact (Dv.nat _ m).upto (Nat.zero_le _)⟩
/-- A bound of the number bounds its numerator. -/
theorem Dv.le {D n B C : Nat} {r : Rat} (h : Dv D n B r) (hC : r ≤ (C : Rat)) : Dv D n C r := by
  obtain ⟨k, h1, -⟩ := h
  refine ⟨k, h1, ?_⟩
  have h2 := Rat.mul_le_mul_of_nonneg_right hC (nat_nn (D ^ n))
  rw [h1] at h2
  exact_mod_cast h2
end Go.Proofs.YtnokfhkcfebimaaGreat
