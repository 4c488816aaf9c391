/- Contracts of the functions that these laws reach: part 34: Contracts: the reference's Errors, Expected. -/
import Derived.Test.YtnokfhkcfebimaaGreatG33
set_option linter.unusedVariables false
set_option linter.unusedSimpArgs false

/- Contracts: the reference's Errors, Expected. -/
namespace Go.Proofs.YtnokfhkcfebimaaGreat
open Go.RowKit

theorem Bel.put {v W W' : World} {g : Nat} (hb : Below v.heap.size v W) (hf : Fr W W' (fun b => b = g)) (hg : v.heap.size ≤ g) : Below v.heap.size v W' :=
  ((Fr.of_below (fun b => b = g) hb).trans hf).below (Nat.le_refl _) (fun k hk e => by omega)
/-- Both results are laid into their boxes. -/
theorem fill68 {v w' : World} {g6 g7 : Nat} {f0 f2 f4 fn : Fa} {r0 r2 r4 rn' : Rat} (hb : Below v.heap.size v w') (h6 : v.heap.size ≤ g6) (h7 : v.heap.size ≤ g7) (hne : g6 ≠ g7) (hc : Cb w' g6 z6) (hq : Bq w' g7 fa0) (h0 : Fo w' f0 (some r0)) (h2 : Fo w' f2 (some r2)) (h4 : Fo w' f4 (some r4)) (hn : Fo w' fn (some rn')) :
    OdC (((((((((w'.setCell ⟨g6, 0, none⟩ (.slice f0.A f0.n f0.c)).setCell ⟨g6, 1, none⟩ (.slice f0.B f0.m f0.d)).setCell ⟨g6, 2, none⟩ (.slice f2.A f2.n f2.c)).setCell ⟨g6, 3, none⟩ (.slice f2.B f2.m f2.d)).setCell ⟨g6, 4, none⟩ (.slice f4.A f4.n f4.c)).setCell ⟨g6, 5, none⟩ (.slice f4.B f4.m f4.d)).setCell ⟨g7, 0, none⟩ (.slice fn.A fn.n fn.c)).setCell ⟨g7, 1, none⟩ (.slice fn.B fn.m fn.d))) g6 f0 f2 f4 r0 r2 r4 ∧
    Bf (((((((((w'.setCell ⟨g6, 0, none⟩ (.slice f0.A f0.n f0.c)).setCell ⟨g6, 1, none⟩ (.slice f0.B f0.m f0.d)).setCell ⟨g6, 2, none⟩ (.slice f2.A f2.n f2.c)).setCell ⟨g6, 3, none⟩ (.slice f2.B f2.m f2.d)).setCell ⟨g6, 4, none⟩ (.slice f4.A f4.n f4.c)).setCell ⟨g6, 5, none⟩ (.slice f4.B f4.m f4.d)).setCell ⟨g7, 0, none⟩ (.slice fn.A fn.n fn.c)).setCell ⟨g7, 1, none⟩ (.slice fn.B fn.m fn.d))) g7 fn rn' ∧
    Below v.heap.size v (((((((((w'.setCell ⟨g6, 0, none⟩ (.slice f0.A f0.n f0.c)).setCell ⟨g6, 1, none⟩ (.slice f0.B f0.m f0.d)).setCell ⟨g6, 2, none⟩ (.slice f2.A f2.n f2.c)).setCell ⟨g6, 3, none⟩ (.slice f2.B f2.m f2.d)).setCell ⟨g6, 4, none⟩ (.slice f4.A f4.n f4.c)).setCell ⟨g6, 5, none⟩ (.slice f4.B f4.m f4.d)).setCell ⟨g7, 0, none⟩ (.slice fn.A fn.n fn.c)).setCell ⟨g7, 1, none⟩ (.slice fn.B fn.m fn.d))) := by
  have hf := fr6 (w := w') (g := g6) (.slice f0.A f0.n f0.c) (.slice f0.B f0.m f0.d) (.slice f2.A f2.n f2.c) (.slice f2.B f2.m f2.d) (.slice f4.A f4.n f4.c) (.slice f4.B f4.m f4.d)
  have hcc := ((((((hc.put 0 (.slice f0.A f0.n f0.c) (by simp [z6]) (by simp)).put 1 (.slice f0.B f0.m f0.d) (by simp [z6]) (by simp)).put 2 (.slice f2.A f2.n f2.c) (by simp [z6]) (by simp)).put 3 (.slice f2.B f2.m f2.d) (by simp [z6]) (by simp)).put 4 (.slice f4.A f4.n f4.c) (by simp [z6]) (by simp)).put 5 (.slice f4.B f4.m f4.d) (by simp [z6]) (by simp))
  have hb1 := Bel.put hb hf h6
  have hq1 := hq.one hf (fun e => hne e.symm)
  have k0 := h0.one hf hc.nb
  have k2 := h2.one hf hc.nb
  have k4 := h4.one hf hc.nb
  have kn := hn.one hf hc.nb
  generalize (((((w'.setCell ⟨g6, 0, none⟩ (.slice f0.A f0.n f0.c)).setCell ⟨g6, 1, none⟩ (.slice f0.B f0.m f0.d)).setCell ⟨g6, 2, none⟩ (.slice f2.A f2.n f2.c)).setCell ⟨g6, 3, none⟩ (.slice f2.B f2.m f2.d)).setCell ⟨g6, 4, none⟩ (.slice f4.A f4.n f4.c)).setCell ⟨g6, 5, none⟩ (.slice f4.B f4.m f4.d) = v2 at hcc hb1 hq1 k0 k2 k4 kn ⊢
  exact ⟨⟨Cb.one (show Cb v2 g6 [.slice f0.A f0.n f0.c, .slice f0.B f0.m f0.d, .slice f2.A f2.n f2.c, .slice f2.B f2.m f2.d, .slice f4.A f4.n f4.c, .slice f4.B f4.m f4.d] from hcc) (fr_fill (g := g7) (.slice fn.A fn.n fn.c) (.slice fn.B fn.m fn.d)) hne, k0.fill hq1 fn, k2.fill hq1 fn, k4.fill hq1 fn⟩, ⟨hq1.fill fn, kn.fill hq1 fn⟩, Bel.put hb1 (fr_fill (g := g7) _ _) h7⟩
/-- Play from the start. -/
theorem play_start (s : Sv) (lo h a b : Rat) (M : Nat) (hk : OKs s lo h a b M) (fp : Fa) (x : Rat) (hx : Chn x) (W : World) (fw : Fa) (hq : SQ W s) (hp : Fo W fp (some x)) (hw : Fo W fw (some 1)) :
    Calls Tryz.prog 47 #[.agg #[.slice s.l.A s.l.n s.l.c, .slice s.l.B s.l.m s.l.d, .slice s.h.A s.h.n s.h.c, .slice s.h.B s.h.m s.h.d, .slice s.a.A s.a.n s.a.c, .slice s.a.B s.a.m s.a.d, .slice s.b.A s.b.n s.b.c, .slice s.b.B s.b.m s.b.d, .int .i64 s.m], .agg #[.slice fp.A fp.n fp.c, .slice fp.B fp.m fp.d], .int .i64 0, .int .i64 0, .agg #[.slice fw.A fw.n fw.c, .slice fw.B fw.m fw.d]] W fun e w' => ∃ f0 f2 f4 fn : Fa, e = .returned (.tuple #[.agg #[.slice f0.A f0.n f0.c, .slice f0.B f0.m f0.d, .slice f2.A f2.n f2.c, .slice f2.B f2.m f2.d, .slice f4.A f4.n f4.c, .slice f4.B f4.m f4.d], .agg #[.slice fn.A fn.n fn.c, .slice fn.B fn.m fn.d]]) ∧ Fo w' f0 (some (val (decQ lo h a b) x gF M 0 0)) ∧ Fo w' f2 (some (val (decQ lo h a b) x gS M 0 0)) ∧ Fo w' f4 (some (val (decQ lo h a b) x gO M 0 0)) ∧ Fo w' fn (some (val (decQ lo h a b) x gN M 0 0)) ∧ Below W.heap.size W w' := by
  have := play_ok s lo h a b M hk fp x hx M 0 0 (by omega) W fw 1 hq hp hw (Dv.one _)
  refine Calls.mono this (fun e w' h => ?_)
  obtain ⟨f0, f2, f4, fn, h1, h2, h3, h4, h5, h6⟩ := h
  rw [Rat.one_mul] at h2 h3 h4 h5
  exact ⟨f0, f2, f4, fn, h1, h2, h3, h4, h5, h6⟩
set_option maxRecDepth 100000 in
set_option maxHeartbeats 8000000 in
theorem qerrors_ok (w : World) (s : Sv) (lo h a b : Rat) (M : Nat) (fp : Fa) (l k : List Nat) (x : Rat) (hq : SQ w s) (hk : OKs s lo h a b M) (hp : Fq w fp l k) (hf : fracOf l k = some x) (hx : Chn x) : Calls Tryz.prog 12 #[.agg #[.slice s.l.A s.l.n s.l.c, .slice s.l.B s.l.m s.l.d, .slice s.h.A s.h.n s.h.c, .slice s.h.B s.h.m s.h.d, .slice s.a.A s.a.n s.a.c, .slice s.a.B s.a.m s.a.d, .slice s.b.A s.b.n s.b.c, .slice s.b.B s.b.m s.b.d, .int .i64 s.m], .agg #[.slice fp.A fp.n fp.c, .slice fp.B fp.m fp.d]] w fun e w' => ErrV (decQ lo h a b) x M w e w' := by
  have HQ := hide hq
  have HP := hide hp
  have HK := hide hk
  have HX := hide hx
  have HFR := hide hf
  have HOK := hide hk.ok
  have HCH := hide (show chO (fracOf l k) = true by rw [hf]; simp [chO, hx.h1, hx.hd])
  clear hq hp hk hx hf
  go_enter Tryz.func12, Tryz.ntmps12
  go_upto_region 1 with (fail)
  generalize hW : World.alloc (World.alloc (World.alloc w _) _) _ = v
  have HF := hide (show FS w v w.heap.size s by rw [← hW]; exact ((FS.mk0 HQ.out _).alloc _).alloc _)
  have HB := hide (show Bq v (w.heap.size + 1) fp by rw [← hW]; exact ((Bq.mk0 (w := w.alloc _) _ fp (by simp)).alloc _))
  have HP2 := hide (show Fq v fp l k by rw [← hW]; exact ((HP.out.alloc _).alloc _).alloc _)
  have HC := hide (show Cb v (w.heap.size + 2) z6 by rw [← hW]; first | exact Cb.mk0 z6 (by simp [z6]) _ (by simp) | exact Rb.mk0 _ (by simp))
  obtain ⟨a0, a1, a2, a3, a4, a5, a6, a7, a8, a9⟩ := HF.out.ca
  have p0 := HB.out.c0
  have p1 := HB.out.c1
  have pz := HB.out.sz
  clear hW
  go_upto_region 5 with (first
    | (go_at_call 46; (with_reducible refine (rzchance_any _ fp l k HP3.out).mono ?_); rintro e w2 ⟨rfl, hb⟩; rw [HCH.out]; have HF2 := hide (HF1.out.below hb); have HB2 := hide (HB1.out.below hb); have HP4 := hide (HP3.out.below hb); have HC2 := hide (HC1.out.below hb); clear hb)
    | (go_at_call 45; (with_reducible refine (qcheckv_any _ s HF.out.q).mono ?_); rintro e w1 ⟨rfl, hb⟩; rw [HOK.out]; have HF1 := hide (HF.out.below hb); have HB1 := hide (HB.out.below hb); have HP3 := hide (HP2.out.below hb); have HC1 := hide (HC.out.below hb); have r0 := HB1.out.c0; have r1 := HB1.out.c1; have rz := HB1.out.sz; clear hb))
  clear a0 a1 a2 a3 a4 a5 a6 a7 a8 a9 p0 p1 pz r0 r1 rz
  go_cut [6, 7] from 6 to 23 (fun s6 s7 wx => ∃ (g6 g7 : Nat) (f0 f2 f4 fn : Fa), s6 = .pointer (some ⟨g6, 0, none⟩) ∧ s7 = .pointer (some ⟨g7, 0, none⟩) ∧ Hid (OdC wx g6 f0 f2 f4 (val (decQ lo h a b) x gF M 0 0) (val (decQ lo h a b) x gS M 0 0) (val (decQ lo h a b) x gO M 0 0)) ∧ Hid (Bf wx g7 fn (val (decQ lo h a b) x gN M 0 0)) ∧ Hid (Below w2.heap.size w2 wx))
  case first =>
    apply region_seqo 6 9 [17, 18, 19, 20, 16, 21, 22, 6, 7] [eqV _, eqV _, (fun x' w => ∃ c : Fa, x' = .agg #[.slice c.A c.n c.c, .slice c.B c.m c.d] ∧ Fo w c (some 1)), (fun x' w => ∃ f0 f2 f4 fn : Fa, x' = .tuple #[.agg #[.slice f0.A f0.n f0.c, .slice f0.B f0.m f0.d, .slice f2.A f2.n f2.c, .slice f2.B f2.m f2.d, .slice f4.A f4.n f4.c, .slice f4.B f4.m f4.d], .agg #[.slice fn.A fn.n fn.c, .slice fn.B fn.m fn.d]] ∧ (Fo w f0 (some (val (decQ lo h a b) x gF M 0 0)) ∧ Fo w f2 (some (val (decQ lo h a b) x gS M 0 0)) ∧ Fo w f4 (some (val (decQ lo h a b) x gO M 0 0))) ∧ Fo w fn (some (val (decQ lo h a b) x gN M 0 0))), (fun x' w => ∃ f0 f2 f4 fn : Fa, x' = .tuple #[.agg #[.slice f0.A f0.n f0.c, .slice f0.B f0.m f0.d, .slice f2.A f2.n f2.c, .slice f2.B f2.m f2.d, .slice f4.A f4.n f4.c, .slice f4.B f4.m f4.d], .agg #[.slice fn.A fn.n fn.c, .slice fn.B fn.m fn.d]] ∧ (Fo w f0 (some (val (decQ lo h a b) x gF M 0 0)) ∧ Fo w f2 (some (val (decQ lo h a b) x gS M 0 0)) ∧ Fo w f4 (some (val (decQ lo h a b) x gO M 0 0))) ∧ Fo w fn (some (val (decQ lo h a b) x gN M 0 0))), (fun x' w => ∃ f0 f2 f4 : Fa, x' = .agg #[.slice f0.A f0.n f0.c, .slice f0.B f0.m f0.d, .slice f2.A f2.n f2.c, .slice f2.B f2.m f2.d, .slice f4.A f4.n f4.c, .slice f4.B f4.m f4.d] ∧ (Fo w f0 (some (val (decQ lo h a b) x gF M 0 0)) ∧ Fo w f2 (some (val (decQ lo h a b) x gS M 0 0)) ∧ Fo w f4 (some (val (decQ lo h a b) x gO M 0 0)))), (fun x' w => ∃ fn : Fa, x' = .agg #[.slice fn.A fn.n fn.c, .slice fn.B fn.m fn.d] ∧ Fo w fn (some (val (decQ lo h a b) x gN M 0 0))), (fun x' w => ∃ b : Nat, x' = .pointer (some ⟨b, 0, none⟩) ∧ w2.heap.size ≤ b ∧ Cb w b z6), (fun x' w => ∃ b : Nat, x' = .pointer (some ⟨b, 0, none⟩) ∧ w2.heap.size ≤ b ∧ Bq w b fa0)] [false, false, false, false, false, false, false, true, true] (by kernel_rfl) (by decide) (by decide) rfl rfl rfl (by decide) (by kernel_rfl) (by kernel_rfl) rfl ?stb4 ?steps4 ?fina4 ?finb4
    case stb4 => repeat' (first | exact trivial | apply stb_eq | (first | exact fun x w w' ⟨c, h1, h2⟩ hb => ⟨c, h1, h2.below hb⟩ | exact fun x w w' ⟨c, h1, h2, h3⟩ hb => ⟨c, h1, h2, h3.below hb⟩ | exact fun x w w' ⟨c, d, e, h1, h2, h3, h4⟩ hb => ⟨c, d, e, h1, h2.below hb, h3.below hb, h4.below hb⟩ | exact fun x w w' ⟨c, d, e, f, h1, ⟨h2, h3, h4⟩, h5⟩ hb => ⟨c, d, e, f, h1, ⟨h2.below hb, h3.below hb, h4.below hb⟩, h5.below hb⟩) | apply And.intro)
    case steps4 =>
      repeat' (first | exact trivial | apply And.intro)
      all_goals
        intro a' w' hbw hdf hoff hdep K hK
        (have o2 := hoff 2 rfl; have o3 := hoff 3 rfl)
        (have HG := hide (HF2.out.below hbw); have HGB := hide (HB2.out.below hbw); have HGP := hide (HP4.out.below hbw); obtain ⟨y0, y1, y2, y3, y4, y5, y6, y7, y8, y9⟩ := HG.out.ca; have u0 := HGB.out.c0; have u1 := HGB.out.c1; have hvz2 := hbw.size)
        replace hdep := hdep _ rfl
        simp only [List.getElem_toArray, List.getElem_cons_succ, List.getElem_cons_zero, List.toList_toArray, depAll, binds_data, binds_chain, binds_guard, binds_phase, binds_text, binds_gc, cond_true, cond_false, true_and, getR, eqV, List.getD_cons_succ, List.getD_cons_zero, and_true] at hdep
        simp only [Nat.zero_add, Nat.reduceAdd, getR, eqV, List.getD_cons_succ, List.getD_cons_zero] at hK
        clear hoff hdf
        (first | (obtain ⟨e17, e18, ⟨c1, e19, HO1⟩, hdep⟩ : (_ = _) ∧ (_ = _) ∧ (∃ c : Fa, _) ∧ _ := hdep) | (obtain ⟨f0, f2, f4, fn, e20, h1, h4⟩ : ∃ f0 f2 f4 fn : Fa, _ := hdep) | skip)
        first
          | (refine rg_unwanted rfl rfl rfl (b' := false) (by first | (simp [hdep]; done) | assumption) (by decide) ?_; exact hK _ _ rfl (Below.refl _ _) (by simp))
          | (refine rg_unwanted rfl rfl rfl (b' := true) (by first | (simp [hdep]; done) | assumption) (by decide) ?_; exact hK _ _ rfl (Below.refl _ _) (by simp))
          | (refine rg_wanted rfl rfl rfl (b' := true) (by first | (simp [hdep]; done) | assumption) rfl (fun K' hKK => ?_); go_wp2_with (first | (go_at_call 47; (with_reducible refine (play_start s lo h a b M HK.out fp x HX.out _ c1 HG.out.q (fo_of HGP.out HFR.out) HO1).mono ?_); rintro e w1 ⟨f0, f2, f4, fn, rfl, j0, j2, j4, jn, hb⟩) | (go_at_call 48; (with_reducible refine (rzof_one _).mono ?_); rintro e w1 ⟨c, rfl, ho, hb⟩)); first | exact hK _ _ rfl (Below.refl _ _) (by simp) | (first | exact hK _ _ ⟨c, rfl, ho⟩ hb (by simp) | exact hK _ _ ⟨f0, f2, f4, fn, rfl, ⟨j0, j2, j4⟩, jn⟩ hb (by simp) | exact hK _ _ ⟨f0, f2, f4, fn, rfl, h1, h4⟩ (Below.refl _ _) (by simp) | exact hK _ _ ⟨f0, f2, f4, rfl, h1⟩ (Below.refl _ _) (by simp) | exact hK _ _ ⟨fn, rfl, h4⟩ (Below.refl _ _) (by simp) | exact hK _ _ ⟨_, rfl, hvz2, Cb.mk0 z6 (by simp [z6]) _ rfl⟩ ((Below.refl _ _).alloc (Nat.le_refl _) _) (fun _ => ⟨_, rfl, Nat.le_refl _, by simp⟩) | exact hK _ _ ⟨_, rfl, hvz2, Bq.mk0 _ fa0 rfl⟩ ((Below.refl _ _).alloc (Nat.le_refl _) _) (fun _ => ⟨_, rfl, Nat.le_refl _, by simp⟩)))
          | (refine rg_wanted rfl rfl rfl (b' := false) (by first | (simp [hdep]; done) | assumption) rfl (fun K' hKK => ?_); go_wp2_with (first | (go_at_call 47; (with_reducible refine (play_start s lo h a b M HK.out fp x HX.out _ c1 HG.out.q (fo_of HGP.out HFR.out) HO1).mono ?_); rintro e w1 ⟨f0, f2, f4, fn, rfl, j0, j2, j4, jn, hb⟩) | (go_at_call 48; (with_reducible refine (rzof_one _).mono ?_); rintro e w1 ⟨c, rfl, ho, hb⟩)); first | exact hK _ _ rfl (Below.refl _ _) (by simp) | (first | exact hK _ _ ⟨c, rfl, ho⟩ hb (by simp) | exact hK _ _ ⟨f0, f2, f4, fn, rfl, ⟨j0, j2, j4⟩, jn⟩ hb (by simp) | exact hK _ _ ⟨f0, f2, f4, fn, rfl, h1, h4⟩ (Below.refl _ _) (by simp) | exact hK _ _ ⟨f0, f2, f4, rfl, h1⟩ (Below.refl _ _) (by simp) | exact hK _ _ ⟨fn, rfl, h4⟩ (Below.refl _ _) (by simp) | exact hK _ _ ⟨_, rfl, hvz2, Cb.mk0 z6 (by simp [z6]) _ rfl⟩ ((Below.refl _ _).alloc (Nat.le_refl _) _) (fun _ => ⟨_, rfl, Nat.le_refl _, by simp⟩) | exact hK _ _ ⟨_, rfl, hvz2, Bq.mk0 _ fa0 rfl⟩ ((Below.refl _ _).alloc (Nat.le_refl _) _) (fun _ => ⟨_, rfl, Nat.le_refl _, by simp⟩)))
          | (refine rg_free rfl rfl (fun K' hKK => ?_); fail)
          | (refine rg_free rfl rfl (fun K' hKK => ?_); go_wp2_with (first | (go_at_call 47; (with_reducible refine (play_start s lo h a b M HK.out fp x HX.out _ c1 HG.out.q (fo_of HGP.out HFR.out) HO1).mono ?_); rintro e w1 ⟨f0, f2, f4, fn, rfl, j0, j2, j4, jn, hb⟩) | (go_at_call 48; (with_reducible refine (rzof_one _).mono ?_); rintro e w1 ⟨c, rfl, ho, hb⟩)); first | exact hK _ _ rfl (Below.refl _ _) (by simp) | (first | exact hK _ _ ⟨c, rfl, ho⟩ hb (by simp) | exact hK _ _ ⟨f0, f2, f4, fn, rfl, ⟨j0, j2, j4⟩, jn⟩ hb (by simp) | exact hK _ _ ⟨f0, f2, f4, fn, rfl, h1, h4⟩ (Below.refl _ _) (by simp) | exact hK _ _ ⟨f0, f2, f4, rfl, h1⟩ (Below.refl _ _) (by simp) | exact hK _ _ ⟨fn, rfl, h4⟩ (Below.refl _ _) (by simp) | exact hK _ _ ⟨_, rfl, hvz2, Cb.mk0 z6 (by simp [z6]) _ rfl⟩ ((Below.refl _ _).alloc (Nat.le_refl _) _) (fun _ => ⟨_, rfl, Nat.le_refl _, by simp⟩) | exact hK _ _ ⟨_, rfl, hvz2, Bq.mk0 _ fa0 rfl⟩ ((Below.refl _ _).alloc (Nat.le_refl _) _) (fun _ => ⟨_, rfl, Nat.le_refl _, by simp⟩)))
    · intro w' hbw
      repeat (first | refine fin_eq ?_ | refine fin_any (fun x hx => ?_) | refine fin_new (fun x hx hne => ?_))
      rename_i x1 h1 x2 h2 x3 h3 x4 h4 x5 h5 x6 h6 n6
      obtain ⟨_, _, _, _, rfl, -⟩ := h3
      obtain ⟨f0, f2, f4, rfl, j0, j2, j4⟩ := h4
      obtain ⟨fn, rfl, jn⟩ := h5
      obtain ⟨g6, rfl, hg6, hc6⟩ := h6
      obtain ⟨g7, rfl, hg7, hq7⟩ := hx
      have hn67 : g6 ≠ g7 := fun e => hne (.pointer (some ⟨g6, 0, none⟩)) (by simp) (by rw [e])
      have HFI := hide (fill68 hbw hg6 hg7 hn67 hc6 hq7 j0 j2 j4 jn)
      have s0 := hc6.cell 0 _ rfl
      have s1 := hc6.cell 1 _ rfl
      have s2 := hc6.cell 2 _ rfl
      have s3 := hc6.cell 3 _ rfl
      have s4 := hc6.cell 4 _ rfl
      have s5 := hc6.cell 5 _ rfl
      have sf := hc6.fz
      have sz := hc6.sz
      obtain ⟨q0, q1, qf, qz, -⟩ := hq7
      have hn76 : g7 ≠ g6 := fun e => hn67 e.symm
      clear hbw hne hc6 j0 j2 j4 jn h1 h2 n6
      refine fin_nil ?_
      simp only [List.setIfInBounds_toArray, List.set_cons_succ, List.set_cons_zero]
      refine wpAny_one (i := 9) (by kernel_rfl) ?_
      refine rg_free rfl rfl (fun K' hKK => ?_)
      go_wp2_with fail
      refine wpAny_one (i := 10) (by kernel_rfl) ?_
      refine rg_free rfl rfl (fun K' hKK => ?_)
      go_wp2_with fail
      refine wpAny_done (by kernel_rfl) ?_ _
      go_wp2_with fail
      go_meet
      case rel => exact ⟨g6, g7, f0, f2, f4, fn, rfl, rfl, hide HFI.out.1, hide HFI.out.2.1, hide HFI.out.2.2⟩
    · intro w' hbw
      repeat (first | refine fin_eq ?_ | refine fin_any (fun x hx => ?_) | refine fin_new (fun x hx hne => ?_))
      rename_i x1 h1 x2 h2 x3 h3 x4 h4 x6 h6 n6
      obtain ⟨_, _, _, fn, rfl, -, jn⟩ := h3
      obtain ⟨f0, f2, f4, rfl, j0, j2, j4⟩ := h4
      obtain ⟨g6, rfl, hg6, hc6⟩ := h6
      obtain ⟨g7, rfl, hg7, hq7⟩ := hx
      have hn67 : g6 ≠ g7 := fun e => hne (.pointer (some ⟨g6, 0, none⟩)) (by simp) (by rw [e])
      have HFI := hide (fill68 hbw hg6 hg7 hn67 hc6 hq7 j0 j2 j4 jn)
      have s0 := hc6.cell 0 _ rfl
      have s1 := hc6.cell 1 _ rfl
      have s2 := hc6.cell 2 _ rfl
      have s3 := hc6.cell 3 _ rfl
      have s4 := hc6.cell 4 _ rfl
      have s5 := hc6.cell 5 _ rfl
      have sf := hc6.fz
      have sz := hc6.sz
      obtain ⟨q0, q1, qf, qz, -⟩ := hq7
      have hn76 : g7 ≠ g6 := fun e => hn67 e.symm
      clear hbw hne hc6 j0 j2 j4 jn h1 h2 n6
      refine fin_nil ?_
      simp only [List.setIfInBounds_toArray, List.set_cons_succ, List.set_cons_zero]
      refine wpAny_two (i := 6) (j := 9) (by kernel_rfl) ?_ ?_
      · skip
        refine rg_free rfl rfl (fun K' hKK => ?_)
        go_wp2_with fail
        refine wpAny_one (i := 9) (by kernel_rfl) ?_
        refine rg_free rfl rfl (fun K' hKK => ?_)
        go_wp2_with fail
        refine wpAny_one (i := 10) (by kernel_rfl) ?_
        refine rg_free rfl rfl (fun K' hKK => ?_)
        go_wp2_with fail
        refine wpAny_done (by kernel_rfl) ?_ _
        go_wp2_with fail
        go_meet
        case rel => exact ⟨g6, g7, f0, f2, f4, fn, rfl, rfl, hide HFI.out.1, hide HFI.out.2.1, hide HFI.out.2.2⟩
      · skip
        refine rg_free rfl rfl (fun K' hKK => ?_)
        go_wp2_with fail
        refine wpAny_one (i := 6) (by kernel_rfl) ?_
        refine rg_free rfl rfl (fun K' hKK => ?_)
        go_wp2_with fail
        refine wpAny_one (i := 10) (by kernel_rfl) ?_
        refine rg_free rfl rfl (fun K' hKK => ?_)
        go_wp2_with fail
        refine wpAny_done (by kernel_rfl) ?_ _
        go_wp2_with fail
        go_meet
        case rel => exact ⟨g6, g7, f0, f2, f4, fn, rfl, rfl, hide HFI.out.1, hide HFI.out.2.1, hide HFI.out.2.2⟩
  obtain ⟨g6, g7, f0, f2, f4, fn, rfl, rfl, HO6, HN7, HB6⟩ := hcut
  have HF6 := hide (HF2.out.below HB6.out)
  have HC6 := hide (HC2.out.below HB6.out)
  have t0 := HC6.out.cell 0 _ rfl
  have t1 := HC6.out.cell 1 _ rfl
  have t2 := HC6.out.cell 2 _ rfl
  have t3 := HC6.out.cell 3 _ rfl
  have t4 := HC6.out.cell 4 _ rfl
  have t5 := HC6.out.cell 5 _ rfl
  have tf := HC6.out.fz
  have tz := HC6.out.sz
  have u0 := HO6.out.cb.cell 0 _ rfl
  have u1 := HO6.out.cb.cell 1 _ rfl
  have u2 := HO6.out.cb.cell 2 _ rfl
  have u3 := HO6.out.cb.cell 3 _ rfl
  have u4 := HO6.out.cb.cell 4 _ rfl
  have u5 := HO6.out.cb.cell 5 _ rfl
  go_wp2_with fail
  generalize hW : World.setCell (World.setCell (World.setCell (World.setCell (World.setCell (World.setCell _ _ _) _ _) _ _) _ _) _ _) _ _ = v5
  have HC5 := hide (show Cb v5 (w.heap.size + 2) [.slice f0.A f0.n f0.c, .slice f0.B f0.m f0.d, .slice f2.A f2.n f2.c, .slice f2.B f2.m f2.d, .slice f4.A f4.n f4.c, .slice f4.B f4.m f4.d] by
    rw [← hW]
    exact ((((((HC6.out.put 0 (.slice f0.A f0.n f0.c) (by simp [z6]) (by simp)).put 1 (.slice f0.B f0.m f0.d) (by simp [z6]) (by simp)).put 2 (.slice f2.A f2.n f2.c) (by simp [z6]) (by simp)).put 3 (.slice f2.B f2.m f2.d) (by simp [z6]) (by simp)).put 4 (.slice f4.A f4.n f4.c) (by simp [z6]) (by simp)).put 5 (.slice f4.B f4.m f4.d) (by simp [z6]) (by simp)))
  have HOO := hide (show (Fo v5 f0 (some (val (decQ lo h a b) x gF M 0 0)) ∧ Fo v5 f2 (some (val (decQ lo h a b) x gS M 0 0)) ∧ Fo v5 f4 (some (val (decQ lo h a b) x gO M 0 0))) ∧ Below w.heap.size w v5 by
    rw [← hW]
    have hf6 := fr6 (g := w.heap.size + 2) (w := wc) (.slice f0.A f0.n f0.c) (.slice f0.B f0.m f0.d) (.slice f2.A f2.n f2.c) (.slice f2.B f2.m f2.d) (.slice f4.A f4.n f4.c) (.slice f4.B f4.m f4.d)
    exact ⟨⟨HO6.out.o0.one hf6 HC6.out.nb, HO6.out.o2.one hf6 HC6.out.nb, HO6.out.o4.one hf6 HC6.out.nb⟩, Bel.put HF6.out.bw hf6 (by omega)⟩)
  clear hW t0 t1 t2 t3 t4 t5 tf tz u0 u1 u2 u3 u4 u5
  have k0 := HC5.out.cell 0 _ rfl
  have k1 := HC5.out.cell 1 _ rfl
  have k2 := HC5.out.cell 2 _ rfl
  have k3 := HC5.out.cell 3 _ rfl
  have k4 := HC5.out.cell 4 _ rfl
  have k5 := HC5.out.cell 5 _ rfl
  refine bodyPost_ret (v := .tuple #[.agg #[.slice f0.A f0.n f0.c, .slice f0.B f0.m f0.d, .slice f2.A f2.n f2.c, .slice f2.B f2.m f2.d, .slice f4.A f4.n f4.c, .slice f4.B f4.m f4.d], .int .i64 0]) (by simp [results, Tryz.results12, go_sem, *]) rfl ⟨f0, f2, f4, rfl, HOO.out.1.1, HOO.out.1.2.1, HOO.out.1.2.2, HOO.out.2⟩
set_option maxRecDepth 100000 in
set_option maxHeartbeats 8000000 in
theorem qexpected_ok (w : World) (s : Sv) (lo h a b : Rat) (M : Nat) (fp : Fa) (l k : List Nat) (x : Rat) (hq : SQ w s) (hk : OKs s lo h a b M) (hp : Fq w fp l k) (hf : fracOf l k = some x) (hx : Chn x) : Calls Tryz.prog 14 #[.agg #[.slice s.l.A s.l.n s.l.c, .slice s.l.B s.l.m s.l.d, .slice s.h.A s.h.n s.h.c, .slice s.h.B s.h.m s.h.d, .slice s.a.A s.a.n s.a.c, .slice s.a.B s.a.m s.a.d, .slice s.b.A s.b.n s.b.c, .slice s.b.B s.b.m s.b.d, .int .i64 s.m], .agg #[.slice fp.A fp.n fp.c, .slice fp.B fp.m fp.d]] w fun e w' => RetV w (val (decQ lo h a b) x gN M 0 0) e w' := by
  have HQ := hide hq
  have HP := hide hp
  have HK := hide hk
  have HX := hide hx
  have HFR := hide hf
  have HOK := hide hk.ok
  have HCH := hide (show chO (fracOf l k) = true by rw [hf]; simp [chO, hx.h1, hx.hd])
  clear hq hp hk hx hf
  go_enter Tryz.func14, Tryz.ntmps14
  go_upto_region 1 with (fail)
  generalize hW : World.alloc (World.alloc (World.alloc w _) _) _ = v
  have HF := hide (show FS w v w.heap.size s by rw [← hW]; exact ((FS.mk0 HQ.out _).alloc _).alloc _)
  have HB := hide (show Bq v (w.heap.size + 1) fp by rw [← hW]; exact ((Bq.mk0 (w := w.alloc _) _ fp (by simp)).alloc _))
  have HP2 := hide (show Fq v fp l k by rw [← hW]; exact ((HP.out.alloc _).alloc _).alloc _)
  have HC := hide (show Rb v (w.heap.size + 2) by rw [← hW]; first | exact Cb.mk0 z6 (by simp [z6]) _ (by simp) | exact Rb.mk0 _ (by simp))
  obtain ⟨a0, a1, a2, a3, a4, a5, a6, a7, a8, a9⟩ := HF.out.ca
  have p0 := HB.out.c0
  have p1 := HB.out.c1
  have pz := HB.out.sz
  clear hW
  go_upto_region 5 with (first
    | (go_at_call 46; (with_reducible refine (rzchance_any _ fp l k HP3.out).mono ?_); rintro e w2 ⟨rfl, hb⟩; rw [HCH.out]; have HF2 := hide (HF1.out.below hb); have HB2 := hide (HB1.out.below hb); have HP4 := hide (HP3.out.below hb); have HC2 := hide (HC1.out.below hb); clear hb)
    | (go_at_call 45; (with_reducible refine (qcheckv_any _ s HF.out.q).mono ?_); rintro e w1 ⟨rfl, hb⟩; rw [HOK.out]; have HF1 := hide (HF.out.below hb); have HB1 := hide (HB.out.below hb); have HP3 := hide (HP2.out.below hb); have HC1 := hide (HC.out.below hb); have r0 := HB1.out.c0; have r1 := HB1.out.c1; have rz := HB1.out.sz; clear hb))
  clear a0 a1 a2 a3 a4 a5 a6 a7 a8 a9 p0 p1 pz r0 r1 rz
  go_cut [6, 7] from 6 to 23 (fun s6 s7 wx => ∃ (g6 g7 : Nat) (f0 f2 f4 fn : Fa), s6 = .pointer (some ⟨g6, 0, none⟩) ∧ s7 = .pointer (some ⟨g7, 0, none⟩) ∧ Hid (OdC wx g6 f0 f2 f4 (val (decQ lo h a b) x gF M 0 0) (val (decQ lo h a b) x gS M 0 0) (val (decQ lo h a b) x gO M 0 0)) ∧ Hid (Bf wx g7 fn (val (decQ lo h a b) x gN M 0 0)) ∧ Hid (Below w2.heap.size w2 wx))
  case first =>
    apply region_seqo 6 9 [17, 18, 19, 20, 16, 21, 22, 6, 7] [eqV _, eqV _, (fun x' w => ∃ c : Fa, x' = .agg #[.slice c.A c.n c.c, .slice c.B c.m c.d] ∧ Fo w c (some 1)), (fun x' w => ∃ f0 f2 f4 fn : Fa, x' = .tuple #[.agg #[.slice f0.A f0.n f0.c, .slice f0.B f0.m f0.d, .slice f2.A f2.n f2.c, .slice f2.B f2.m f2.d, .slice f4.A f4.n f4.c, .slice f4.B f4.m f4.d], .agg #[.slice fn.A fn.n fn.c, .slice fn.B fn.m fn.d]] ∧ (Fo w f0 (some (val (decQ lo h a b) x gF M 0 0)) ∧ Fo w f2 (some (val (decQ lo h a b) x gS M 0 0)) ∧ Fo w f4 (some (val (decQ lo h a b) x gO M 0 0))) ∧ Fo w fn (some (val (decQ lo h a b) x gN M 0 0))), (fun x' w => ∃ f0 f2 f4 fn : Fa, x' = .tuple #[.agg #[.slice f0.A f0.n f0.c, .slice f0.B f0.m f0.d, .slice f2.A f2.n f2.c, .slice f2.B f2.m f2.d, .slice f4.A f4.n f4.c, .slice f4.B f4.m f4.d], .agg #[.slice fn.A fn.n fn.c, .slice fn.B fn.m fn.d]] ∧ (Fo w f0 (some (val (decQ lo h a b) x gF M 0 0)) ∧ Fo w f2 (some (val (decQ lo h a b) x gS M 0 0)) ∧ Fo w f4 (some (val (decQ lo h a b) x gO M 0 0))) ∧ Fo w fn (some (val (decQ lo h a b) x gN M 0 0))), (fun x' w => ∃ f0 f2 f4 : Fa, x' = .agg #[.slice f0.A f0.n f0.c, .slice f0.B f0.m f0.d, .slice f2.A f2.n f2.c, .slice f2.B f2.m f2.d, .slice f4.A f4.n f4.c, .slice f4.B f4.m f4.d] ∧ (Fo w f0 (some (val (decQ lo h a b) x gF M 0 0)) ∧ Fo w f2 (some (val (decQ lo h a b) x gS M 0 0)) ∧ Fo w f4 (some (val (decQ lo h a b) x gO M 0 0)))), (fun x' w => ∃ fn : Fa, x' = .agg #[.slice fn.A fn.n fn.c, .slice fn.B fn.m fn.d] ∧ Fo w fn (some (val (decQ lo h a b) x gN M 0 0))), (fun x' w => ∃ b : Nat, x' = .pointer (some ⟨b, 0, none⟩) ∧ w2.heap.size ≤ b ∧ Cb w b z6), (fun x' w => ∃ b : Nat, x' = .pointer (some ⟨b, 0, none⟩) ∧ w2.heap.size ≤ b ∧ Bq w b fa0)] [false, false, false, false, false, false, false, true, true] (by kernel_rfl) (by decide) (by decide) rfl rfl rfl (by decide) (by kernel_rfl) (by kernel_rfl) rfl ?stb18 ?steps18 ?fina18 ?finb18
    case stb18 => repeat' (first | exact trivial | apply stb_eq | (first | exact fun x w w' ⟨c, h1, h2⟩ hb => ⟨c, h1, h2.below hb⟩ | exact fun x w w' ⟨c, h1, h2, h3⟩ hb => ⟨c, h1, h2, h3.below hb⟩ | exact fun x w w' ⟨c, d, e, h1, h2, h3, h4⟩ hb => ⟨c, d, e, h1, h2.below hb, h3.below hb, h4.below hb⟩ | exact fun x w w' ⟨c, d, e, f, h1, ⟨h2, h3, h4⟩, h5⟩ hb => ⟨c, d, e, f, h1, ⟨h2.below hb, h3.below hb, h4.below hb⟩, h5.below hb⟩) | apply And.intro)
    case steps18 =>
      repeat' (first | exact trivial | apply And.intro)
      all_goals
        intro a' w' hbw hdf hoff hdep K hK
        (have o2 := hoff 2 rfl; have o3 := hoff 3 rfl)
        (have HG := hide (HF2.out.below hbw); have HGB := hide (HB2.out.below hbw); have HGP := hide (HP4.out.below hbw); obtain ⟨y0, y1, y2, y3, y4, y5, y6, y7, y8, y9⟩ := HG.out.ca; have u0 := HGB.out.c0; have u1 := HGB.out.c1; have hvz2 := hbw.size)
        replace hdep := hdep _ rfl
        simp only [List.getElem_toArray, List.getElem_cons_succ, List.getElem_cons_zero, List.toList_toArray, depAll, binds_data, binds_chain, binds_guard, binds_phase, binds_text, binds_gc, cond_true, cond_false, true_and, getR, eqV, List.getD_cons_succ, List.getD_cons_zero, and_true] at hdep
        simp only [Nat.zero_add, Nat.reduceAdd, getR, eqV, List.getD_cons_succ, List.getD_cons_zero] at hK
        clear hoff hdf
        (first | (obtain ⟨e17, e18, ⟨c1, e19, HO1⟩, hdep⟩ : (_ = _) ∧ (_ = _) ∧ (∃ c : Fa, _) ∧ _ := hdep) | (obtain ⟨f0, f2, f4, fn, e20, h1, h4⟩ : ∃ f0 f2 f4 fn : Fa, _ := hdep) | skip)
        first
          | (refine rg_unwanted rfl rfl rfl (b' := false) (by first | (simp [hdep]; done) | assumption) (by decide) ?_; exact hK _ _ rfl (Below.refl _ _) (by simp))
          | (refine rg_unwanted rfl rfl rfl (b' := true) (by first | (simp [hdep]; done) | assumption) (by decide) ?_; exact hK _ _ rfl (Below.refl _ _) (by simp))
          | (refine rg_wanted rfl rfl rfl (b' := true) (by first | (simp [hdep]; done) | assumption) rfl (fun K' hKK => ?_); go_wp2_with (first | (go_at_call 47; (with_reducible refine (play_start s lo h a b M HK.out fp x HX.out _ c1 HG.out.q (fo_of HGP.out HFR.out) HO1).mono ?_); rintro e w1 ⟨f0, f2, f4, fn, rfl, j0, j2, j4, jn, hb⟩) | (go_at_call 48; (with_reducible refine (rzof_one _).mono ?_); rintro e w1 ⟨c, rfl, ho, hb⟩)); first | exact hK _ _ rfl (Below.refl _ _) (by simp) | (first | exact hK _ _ ⟨c, rfl, ho⟩ hb (by simp) | exact hK _ _ ⟨f0, f2, f4, fn, rfl, ⟨j0, j2, j4⟩, jn⟩ hb (by simp) | exact hK _ _ ⟨f0, f2, f4, fn, rfl, h1, h4⟩ (Below.refl _ _) (by simp) | exact hK _ _ ⟨f0, f2, f4, rfl, h1⟩ (Below.refl _ _) (by simp) | exact hK _ _ ⟨fn, rfl, h4⟩ (Below.refl _ _) (by simp) | exact hK _ _ ⟨_, rfl, hvz2, Cb.mk0 z6 (by simp [z6]) _ rfl⟩ ((Below.refl _ _).alloc (Nat.le_refl _) _) (fun _ => ⟨_, rfl, Nat.le_refl _, by simp⟩) | exact hK _ _ ⟨_, rfl, hvz2, Bq.mk0 _ fa0 rfl⟩ ((Below.refl _ _).alloc (Nat.le_refl _) _) (fun _ => ⟨_, rfl, Nat.le_refl _, by simp⟩)))
          | (refine rg_wanted rfl rfl rfl (b' := false) (by first | (simp [hdep]; done) | assumption) rfl (fun K' hKK => ?_); go_wp2_with (first | (go_at_call 47; (with_reducible refine (play_start s lo h a b M HK.out fp x HX.out _ c1 HG.out.q (fo_of HGP.out HFR.out) HO1).mono ?_); rintro e w1 ⟨f0, f2, f4, fn, rfl, j0, j2, j4, jn, hb⟩) | (go_at_call 48; (with_reducible refine (rzof_one _).mono ?_); rintro e w1 ⟨c, rfl, ho, hb⟩)); first | exact hK _ _ rfl (Below.refl _ _) (by simp) | (first | exact hK _ _ ⟨c, rfl, ho⟩ hb (by simp) | exact hK _ _ ⟨f0, f2, f4, fn, rfl, ⟨j0, j2, j4⟩, jn⟩ hb (by simp) | exact hK _ _ ⟨f0, f2, f4, fn, rfl, h1, h4⟩ (Below.refl _ _) (by simp) | exact hK _ _ ⟨f0, f2, f4, rfl, h1⟩ (Below.refl _ _) (by simp) | exact hK _ _ ⟨fn, rfl, h4⟩ (Below.refl _ _) (by simp) | exact hK _ _ ⟨_, rfl, hvz2, Cb.mk0 z6 (by simp [z6]) _ rfl⟩ ((Below.refl _ _).alloc (Nat.le_refl _) _) (fun _ => ⟨_, rfl, Nat.le_refl _, by simp⟩) | exact hK _ _ ⟨_, rfl, hvz2, Bq.mk0 _ fa0 rfl⟩ ((Below.refl _ _).alloc (Nat.le_refl _) _) (fun _ => ⟨_, rfl, Nat.le_refl _, by simp⟩)))
          | (refine rg_free rfl rfl (fun K' hKK => ?_); fail)
          | (refine rg_free rfl rfl (fun K' hKK => ?_); go_wp2_with (first | (go_at_call 47; (with_reducible refine (play_start s lo h a b M HK.out fp x HX.out _ c1 HG.out.q (fo_of HGP.out HFR.out) HO1).mono ?_); rintro e w1 ⟨f0, f2, f4, fn, rfl, j0, j2, j4, jn, hb⟩) | (go_at_call 48; (with_reducible refine (rzof_one _).mono ?_); rintro e w1 ⟨c, rfl, ho, hb⟩)); first | exact hK _ _ rfl (Below.refl _ _) (by simp) | (first | exact hK _ _ ⟨c, rfl, ho⟩ hb (by simp) | exact hK _ _ ⟨f0, f2, f4, fn, rfl, ⟨j0, j2, j4⟩, jn⟩ hb (by simp) | exact hK _ _ ⟨f0, f2, f4, fn, rfl, h1, h4⟩ (Below.refl _ _) (by simp) | exact hK _ _ ⟨f0, f2, f4, rfl, h1⟩ (Below.refl _ _) (by simp) | exact hK _ _ ⟨fn, rfl, h4⟩ (Below.refl _ _) (by simp) | exact hK _ _ ⟨_, rfl, hvz2, Cb.mk0 z6 (by simp [z6]) _ rfl⟩ ((Below.refl _ _).alloc (Nat.le_refl _) _) (fun _ => ⟨_, rfl, Nat.le_refl _, by simp⟩) | exact hK _ _ ⟨_, rfl, hvz2, Bq.mk0 _ fa0 rfl⟩ ((Below.refl _ _).alloc (Nat.le_refl _) _) (fun _ => ⟨_, rfl, Nat.le_refl _, by simp⟩)))
    · intro w' hbw
      repeat (first | refine fin_eq ?_ | refine fin_any (fun x hx => ?_) | refine fin_new (fun x hx hne => ?_))
      rename_i x1 h1 x2 h2 x3 h3 x4 h4 x5 h5 x6 h6 n6
      obtain ⟨_, _, _, _, rfl, -⟩ := h3
      obtain ⟨f0, f2, f4, rfl, j0, j2, j4⟩ := h4
      obtain ⟨fn, rfl, jn⟩ := h5
      obtain ⟨g6, rfl, hg6, hc6⟩ := h6
      obtain ⟨g7, rfl, hg7, hq7⟩ := hx
      have hn67 : g6 ≠ g7 := fun e => hne (.pointer (some ⟨g6, 0, none⟩)) (by simp) (by rw [e])
      have HFI := hide (fill68 hbw hg6 hg7 hn67 hc6 hq7 j0 j2 j4 jn)
      have s0 := hc6.cell 0 _ rfl
      have s1 := hc6.cell 1 _ rfl
      have s2 := hc6.cell 2 _ rfl
      have s3 := hc6.cell 3 _ rfl
      have s4 := hc6.cell 4 _ rfl
      have s5 := hc6.cell 5 _ rfl
      have sf := hc6.fz
      have sz := hc6.sz
      obtain ⟨q0, q1, qf, qz, -⟩ := hq7
      have hn76 : g7 ≠ g6 := fun e => hn67 e.symm
      clear hbw hne hc6 j0 j2 j4 jn h1 h2 n6
      refine fin_nil ?_
      simp only [List.setIfInBounds_toArray, List.set_cons_succ, List.set_cons_zero]
      refine wpAny_one (i := 9) (by kernel_rfl) ?_
      refine rg_free rfl rfl (fun K' hKK => ?_)
      go_wp2_with fail
      refine wpAny_one (i := 10) (by kernel_rfl) ?_
      refine rg_free rfl rfl (fun K' hKK => ?_)
      go_wp2_with fail
      refine wpAny_done (by kernel_rfl) ?_ _
      go_wp2_with fail
      go_meet
      case rel => exact ⟨g6, g7, f0, f2, f4, fn, rfl, rfl, hide HFI.out.1, hide HFI.out.2.1, hide HFI.out.2.2⟩
    · intro w' hbw
      repeat (first | refine fin_eq ?_ | refine fin_any (fun x hx => ?_) | refine fin_new (fun x hx hne => ?_))
      rename_i x1 h1 x2 h2 x3 h3 x4 h4 x6 h6 n6
      obtain ⟨_, _, _, fn, rfl, -, jn⟩ := h3
      obtain ⟨f0, f2, f4, rfl, j0, j2, j4⟩ := h4
      obtain ⟨g6, rfl, hg6, hc6⟩ := h6
      obtain ⟨g7, rfl, hg7, hq7⟩ := hx
      have hn67 : g6 ≠ g7 := fun e => hne (.pointer (some ⟨g6, 0, none⟩)) (by simp) (by rw [e])
      have HFI := hide (fill68 hbw hg6 hg7 hn67 hc6 hq7 j0 j2 j4 jn)
      have s0 := hc6.cell 0 _ rfl
      have s1 := hc6.cell 1 _ rfl
      have s2 := hc6.cell 2 _ rfl
      have s3 := hc6.cell 3 _ rfl
      have s4 := hc6.cell 4 _ rfl
      have s5 := hc6.cell 5 _ rfl
      have sf := hc6.fz
      have sz := hc6.sz
      obtain ⟨q0, q1, qf, qz, -⟩ := hq7
      have hn76 : g7 ≠ g6 := fun e => hn67 e.symm
      clear hbw hne hc6 j0 j2 j4 jn h1 h2 n6
      refine fin_nil ?_
      simp only [List.setIfInBounds_toArray, List.set_cons_succ, List.set_cons_zero]
      refine wpAny_two (i := 6) (j := 9) (by kernel_rfl) ?_ ?_
      · skip
        refine rg_free rfl rfl (fun K' hKK => ?_)
        go_wp2_with fail
        refine wpAny_one (i := 9) (by kernel_rfl) ?_
        refine rg_free rfl rfl (fun K' hKK => ?_)
        go_wp2_with fail
        refine wpAny_one (i := 10) (by kernel_rfl) ?_
        refine rg_free rfl rfl (fun K' hKK => ?_)
        go_wp2_with fail
        refine wpAny_done (by kernel_rfl) ?_ _
        go_wp2_with fail
        go_meet
        case rel => exact ⟨g6, g7, f0, f2, f4, fn, rfl, rfl, hide HFI.out.1, hide HFI.out.2.1, hide HFI.out.2.2⟩
      · skip
        refine rg_free rfl rfl (fun K' hKK => ?_)
        go_wp2_with fail
        refine wpAny_one (i := 6) (by kernel_rfl) ?_
        refine rg_free rfl rfl (fun K' hKK => ?_)
        go_wp2_with fail
        refine wpAny_one (i := 10) (by kernel_rfl) ?_
        refine rg_free rfl rfl (fun K' hKK => ?_)
        go_wp2_with fail
        refine wpAny_done (by kernel_rfl) ?_ _
        go_wp2_with fail
        go_meet
        case rel => exact ⟨g6, g7, f0, f2, f4, fn, rfl, rfl, hide HFI.out.1, hide HFI.out.2.1, hide HFI.out.2.2⟩
  obtain ⟨g6, g7, f0, f2, f4, fn, rfl, rfl, HO6, HN7, HB6⟩ := hcut
  have HF6 := hide (HF2.out.below HB6.out)
  have HC6 := hide (HC2.out.below HB6.out)
  obtain ⟨t0, t1, tf, tz, -⟩ := HC6.out
  have u0 := HN7.out.b.c0
  have u1 := HN7.out.b.c1
  go_wp2_with fail
  refine bodyPost_ret (v := .tuple #[.agg #[.slice fn.A fn.n fn.c, .slice fn.B fn.m fn.d], .int .i64 0]) (by simp [results, Tryz.results14, go_sem, *]) rfl ⟨fn, rfl, HN7.out.o.put2 HC6.out.nb _ _ (by simp), Rb.end0 HF6.out.bw (by omega) _ _⟩
end Go.Proofs.YtnokfhkcfebimaaGreat
