/- Contracts of the functions that these laws reach: part 29: Contracts: Errors, Expected of the program and of the reference, for all arguments; Contracts: the reference's Errors, Expected; A specification that came in; Plain laws of the verdicts of attempts; Attempts that came in; Contract: the maker of specifications of the rerun laws. -/
import Derived.Test.YtnokfhkcfebimaaGreatP28
import Derived.Test.YtnokfhkcfebimaaGreatP17
import Derived.Test.YtnokfhkcfebimaaGreatP25
import Derived.Test.YtnokfhkcfebimaaGreatP18
import Derived.Test.YtnokfhkcfebimaaGreatP20
set_option linter.unusedVariables false
set_option linter.unusedSimpArgs false

/- Contracts: Errors, Expected of the program and of the reference, for all arguments. -/
namespace Go.Proofs.YtnokfhkcfebimaaGreat
open Go.RowKit

/-- The first error of a specification and a chance. -/
def errE (s : Sv) (o : Option Rat) : Int := if s.ok = false then 1 else if chO o = false then 41 else 0
theorem chO_chnE {o : Option Rat} (h : chO o = true) (hk : okR o) : ∃ x, o = some x ∧ Chn x := by
  cases o with
  | none => simp [chO] at h
  | some x =>
    simp [chO] at h
    exact ⟨x, rfl, hk.1, h.1, h.2⟩
theorem put6z {v : World} {g : Nat} (h : Cb v g z6) : Cb ((((((v.setCell ⟨g, 0, none⟩ (.slice none 0 0)).setCell ⟨g, 1, none⟩ (.slice none 0 0)).setCell ⟨g, 2, none⟩ (.slice none 0 0)).setCell ⟨g, 3, none⟩ (.slice none 0 0)).setCell ⟨g, 4, none⟩ (.slice none 0 0)).setCell ⟨g, 5, none⟩ (.slice none 0 0)) g z6 :=
  ((((((h.put 0 (.slice none 0 0) (by simp [z6]) (by simp)).put 1 (.slice none 0 0) (by simp [z6]) (by simp)).put 2 (.slice none 0 0) (by simp [z6]) (by simp)).put 3 (.slice none 0 0) (by simp [z6]) (by simp)).put 4 (.slice none 0 0) (by simp [z6]) (by simp)).put 5 (.slice none 0 0) (by simp [z6]) (by simp))
set_option maxRecDepth 100000 in
set_option maxHeartbeats 8000000 in
theorem serrors_bad (w : World) (s : Sv) (fp : Fa) (l k : List Nat) (hq : SQ w s) (hp : Fq w fp l k) (hbad : s.ok = false ∨ chO (fracOf l k) = false) : Calls Tryz.prog 11 #[.agg #[.slice s.l.A s.l.n s.l.c, .slice s.l.B s.l.m s.l.d, .slice s.h.A s.h.n s.h.c, .slice s.h.B s.h.m s.h.d, .slice s.a.A s.a.n s.a.c, .slice s.a.B s.a.m s.a.d, .slice s.b.A s.b.n s.b.c, .slice s.b.B s.b.m s.b.d, .int .i64 s.m], .agg #[.slice fp.A fp.n fp.c, .slice fp.B fp.m fp.d]] w fun e w' => e = .returned (.tuple #[.agg #[.slice none 0 0, .slice none 0 0, .slice none 0 0, .slice none 0 0, .slice none 0 0, .slice none 0 0], .int .i64 (errE s (fracOf l k))]) ∧ Below w.heap.size w w' := by
  have HQ := hide hq
  have HP := hide hp
  clear hq hp
  by_cases hs : s.ok = false
  · have HOK := hide hs
    have HE := hide (show errE s (fracOf l k) = 1 from if_pos hs)
    clear hs hbad
    go_enter Tryz.func11, Tryz.ntmps11
    go_upto_region 1 with (fail)
    generalize hW : World.alloc (World.alloc (World.alloc w _) _) _ = v
    have HF := hide (show FS w v w.heap.size s by rw [← hW]; exact ((FS.mk0 HQ.out _).alloc _).alloc _)
    have HB := hide (show Bq v (w.heap.size + 1) fp by rw [← hW]; exact ((Bq.mk0 (w := w.alloc _) _ fp (by simp)).alloc _))
    have HP2 := hide (show Fq v fp l k by rw [← hW]; exact ((HP.out.alloc _).alloc _).alloc _)
    have HC := hide (show Cb v (w.heap.size + 2) z6 by rw [← hW]; first | exact Cb.mk0 z6 (by simp [z6]) _ (by simp) | exact Rb.mk0 _ (by simp))
    obtain ⟨a0, a1, a2, a3, a4, a5, a6, a7, a8, a9⟩ := HF.out.ca
    have p0 := HB.out.c0
    have p1 := HB.out.c1
    have pz := HB.out.sz
    clear hW
    go_upto_region 2 with ((go_at_call 42; (with_reducible refine (scheckv_any _ s HF.out.q).mono ?_); rintro e w1 ⟨rfl, hb⟩; rw [HOK.out]; have HF1 := hide (HF.out.below hb); have HB1 := hide (HB.out.below hb); have HP3 := hide (HP2.out.below hb); have HC1 := hide (HC.out.below hb); have r0 := HB1.out.c0; have r1 := HB1.out.c1; have rz := HB1.out.sz; clear hb))
    have HBX := hide HF1.out.bw
    have t0 := HC1.out.cell 0 _ rfl; have t1 := HC1.out.cell 1 _ rfl; have t2 := HC1.out.cell 2 _ rfl; have t3 := HC1.out.cell 3 _ rfl; have t4 := HC1.out.cell 4 _ rfl; have t5 := HC1.out.cell 5 _ rfl; have tf := HC1.out.fz; have tz := HC1.out.sz
    go_wp2_with fail
    generalize hW : World.setCell (World.setCell (World.setCell (World.setCell (World.setCell (World.setCell _ _ _) _ _) _ _) _ _) _ _) _ _ = v5
    have HC5 := hide (show Cb v5 (w.heap.size + 2) z6 by rw [← hW]; exact put6z HC1.out)
    have HB5 := hide (show Below w.heap.size w v5 by rw [← hW]; exact ((Fr.of_below (fun b => b = w.heap.size + 2) HBX.out).trans (fr6 _ _ _ _ _ _)).below (Nat.le_refl _) (fun k hk e => by omega))
    clear hW t0 t1 t2 t3 t4 t5 tf tz
    have k0 := HC5.out.cell 0 _ rfl
    have k1 := HC5.out.cell 1 _ rfl
    have k2 := HC5.out.cell 2 _ rfl
    have k3 := HC5.out.cell 3 _ rfl
    have k4 := HC5.out.cell 4 _ rfl
    have k5 := HC5.out.cell 5 _ rfl
    refine bodyPost_ret (v := .tuple #[.agg #[.slice none 0 0, .slice none 0 0, .slice none 0 0, .slice none 0 0, .slice none 0 0, .slice none 0 0], .int .i64 1]) (by simp [results, Tryz.results11, go_sem, *]) rfl ⟨by rw [HE.out], HB5.out⟩
  · have hs2 : s.ok = true := by simpa using hs
    have hc : chO (fracOf l k) = false := by rcases hbad with h | h; exact absurd h hs; exact h
    have HOK := hide hs2
    have HCH := hide hc
    have HE := hide (show errE s (fracOf l k) = 41 by unfold errE; rw [if_neg hs, if_pos hc])
    clear hs hs2 hc hbad
    go_enter Tryz.func11, Tryz.ntmps11
    go_upto_region 1 with (fail)
    generalize hW : World.alloc (World.alloc (World.alloc w _) _) _ = v
    have HF := hide (show FS w v w.heap.size s by rw [← hW]; exact ((FS.mk0 HQ.out _).alloc _).alloc _)
    have HB := hide (show Bq v (w.heap.size + 1) fp by rw [← hW]; exact ((Bq.mk0 (w := w.alloc _) _ fp (by simp)).alloc _))
    have HP2 := hide (show Fq v fp l k by rw [← hW]; exact ((HP.out.alloc _).alloc _).alloc _)
    have HC := hide (show Cb v (w.heap.size + 2) z6 by rw [← hW]; first | exact Cb.mk0 z6 (by simp [z6]) _ (by simp) | exact Rb.mk0 _ (by simp))
    obtain ⟨a0, a1, a2, a3, a4, a5, a6, a7, a8, a9⟩ := HF.out.ca
    have p0 := HB.out.c0
    have p1 := HB.out.c1
    have pz := HB.out.sz
    clear hW
    go_upto_region 4 with (first
      | (go_at_call 43; (with_reducible refine (chance_any _ fp l k HP3.out).mono ?_); rintro e w2 ⟨rfl, hb⟩; rw [HCH.out]; have HF2 := hide (HF1.out.below hb); have HC2 := hide (HC1.out.below hb); clear hb)
      | (go_at_call 42; (with_reducible refine (scheckv_any _ s HF.out.q).mono ?_); rintro e w1 ⟨rfl, hb⟩; rw [HOK.out]; have HF1 := hide (HF.out.below hb); have HB1 := hide (HB.out.below hb); have HP3 := hide (HP2.out.below hb); have HC1 := hide (HC.out.below hb); have r0 := HB1.out.c0; have r1 := HB1.out.c1; have rz := HB1.out.sz; clear hb))
    have HBX := hide HF2.out.bw
    have t0 := HC2.out.cell 0 _ rfl; have t1 := HC2.out.cell 1 _ rfl; have t2 := HC2.out.cell 2 _ rfl; have t3 := HC2.out.cell 3 _ rfl; have t4 := HC2.out.cell 4 _ rfl; have t5 := HC2.out.cell 5 _ rfl; have tf := HC2.out.fz; have tz := HC2.out.sz
    go_wp2_with fail
    generalize hW : World.setCell (World.setCell (World.setCell (World.setCell (World.setCell (World.setCell _ _ _) _ _) _ _) _ _) _ _) _ _ = v5
    have HC5 := hide (show Cb v5 (w.heap.size + 2) z6 by rw [← hW]; exact put6z HC2.out)
    have HB5 := hide (show Below w.heap.size w v5 by rw [← hW]; exact ((Fr.of_below (fun b => b = w.heap.size + 2) HBX.out).trans (fr6 _ _ _ _ _ _)).below (Nat.le_refl _) (fun k hk e => by omega))
    clear hW t0 t1 t2 t3 t4 t5 tf tz
    have k0 := HC5.out.cell 0 _ rfl
    have k1 := HC5.out.cell 1 _ rfl
    have k2 := HC5.out.cell 2 _ rfl
    have k3 := HC5.out.cell 3 _ rfl
    have k4 := HC5.out.cell 4 _ rfl
    have k5 := HC5.out.cell 5 _ rfl
    refine bodyPost_ret (v := .tuple #[.agg #[.slice none 0 0, .slice none 0 0, .slice none 0 0, .slice none 0 0, .slice none 0 0, .slice none 0 0], .int .i64 41]) (by simp [results, Tryz.results11, go_sem, *]) rfl ⟨by rw [HE.out], HB5.out⟩
end Go.Proofs.YtnokfhkcfebimaaGreat

/- Contracts: the reference's Errors, Expected. -/
namespace Go.Proofs.YtnokfhkcfebimaaGreat
open Go.RowKit

theorem Bel.put {v W W' : World} {g : Nat} (hb : Below v.heap.size v W) (hf : Fr W W' (fun b => b = g)) (hg : v.heap.size ≤ g) : Below v.heap.size v W' :=
  ((Fr.of_below (fun b => b = g) hb).trans hf).below (Nat.le_refl _) (fun k hk e => by omega)
/-- Both results are laid into their boxes. -/
theorem fill68 {v w' : World} {g6 g7 : Nat} {f0 f2 f4 fn : Fa} {r0 r2 r4 rn' : Rat} (hb : Below v.heap.size v w') (h6 : v.heap.size ≤ g6) (h7 : v.heap.size ≤ g7) (hne : g6 ≠ g7) (hc : Cb w' g6 z6) (hq : Bq w' g7 fa0) (h0 : Fo w' f0 (some r0)) (h2 : Fo w' f2 (some r2)) (h4 : Fo w' f4 (some r4)) (hn : Fo w' fn (some rn')) :
    OdC (((((((((w'.setCell ⟨g6, 0, none⟩ (.slice f0.A f0.n f0.c)).setCell ⟨g6, 1, none⟩ (.slice f0.B f0.m f0.d)).setCell ⟨g6, 2, none⟩ (.slice f2.A f2.n f2.c)).setCell ⟨g6, 3, none⟩ (.slice f2.B f2.m f2.d)).setCell ⟨g6, 4, none⟩ (.slice f4.A f4.n f4.c)).setCell ⟨g6, 5, none⟩ (.slice f4.B f4.m f4.d)).setCell ⟨g7, 0, none⟩ (.slice fn.A fn.n fn.c)).setCell ⟨g7, 1, none⟩ (.slice fn.B fn.m fn.d))) g6 f0 f2 f4 r0 r2 r4 ∧
    Bf (((((((((w'.setCell ⟨g6, 0, none⟩ (.slice f0.A f0.n f0.c)).setCell ⟨g6, 1, none⟩ (.slice f0.B f0.m f0.d)).setCell ⟨g6, 2, none⟩ (.slice f2.A f2.n f2.c)).setCell ⟨g6, 3, none⟩ (.slice f2.B f2.m f2.d)).setCell ⟨g6, 4, none⟩ (.slice f4.A f4.n f4.c)).setCell ⟨g6, 5, none⟩ (.slice f4.B f4.m f4.d)).setCell ⟨g7, 0, none⟩ (.slice fn.A fn.n fn.c)).setCell ⟨g7, 1, none⟩ (.slice fn.B fn.m fn.d))) g7 fn rn' ∧
    Below v.heap.size v (((((((((w'.setCell ⟨g6, 0, none⟩ (.slice f0.A f0.n f0.c)).setCell ⟨g6, 1, none⟩ (.slice f0.B f0.m f0.d)).setCell ⟨g6, 2, none⟩ (.slice f2.A f2.n f2.c)).setCell ⟨g6, 3, none⟩ (.slice f2.B f2.m f2.d)).setCell ⟨g6, 4, none⟩ (.slice f4.A f4.n f4.c)).setCell ⟨g6, 5, none⟩ (.slice f4.B f4.m f4.d)).setCell ⟨g7, 0, none⟩ (.slice fn.A fn.n fn.c)).setCell ⟨g7, 1, none⟩ (.slice fn.B fn.m fn.d))) := by
  have hf := fr6 (w := w') (g := g6) (.slice f0.A f0.n f0.c) (.slice f0.B f0.m f0.d) (.slice f2.A f2.n f2.c) (.slice f2.B f2.m f2.d) (.slice f4.A f4.n f4.c) (.slice f4.B f4.m f4.d)
  have hcc := ((((((hc.put 0 (.slice f0.A f0.n f0.c) (by simp [z6]) (by simp)).put 1 (.slice f0.B f0.m f0.d) (by simp [z6]) (by simp)).put 2 (.slice f2.A f2.n f2.c) (by simp [z6]) (by simp)).put 3 (.slice f2.B f2.m f2.d) (by simp [z6]) (by simp)).put 4 (.slice f4.A f4.n f4.c) (by simp [z6]) (by simp)).put 5 (.slice f4.B f4.m f4.d) (by simp [z6]) (by simp))
  have hb1 := Bel.put hb hf h6
  have hq1 := hq.one hf (fun e => hne e.symm)
  have k0 := h0.one hf hc.nb
  have k2 := h2.one hf hc.nb
  have k4 := h4.one hf hc.nb
  have kn := hn.one hf hc.nb
  generalize (((((w'.setCell ⟨g6, 0, none⟩ (.slice f0.A f0.n f0.c)).setCell ⟨g6, 1, none⟩ (.slice f0.B f0.m f0.d)).setCell ⟨g6, 2, none⟩ (.slice f2.A f2.n f2.c)).setCell ⟨g6, 3, none⟩ (.slice f2.B f2.m f2.d)).setCell ⟨g6, 4, none⟩ (.slice f4.A f4.n f4.c)).setCell ⟨g6, 5, none⟩ (.slice f4.B f4.m f4.d) = v2 at hcc hb1 hq1 k0 k2 k4 kn ⊢
  exact ⟨⟨Cb.one (show Cb v2 g6 [.slice f0.A f0.n f0.c, .slice f0.B f0.m f0.d, .slice f2.A f2.n f2.c, .slice f2.B f2.m f2.d, .slice f4.A f4.n f4.c, .slice f4.B f4.m f4.d] from hcc) (fr_fill (g := g7) (.slice fn.A fn.n fn.c) (.slice fn.B fn.m fn.d)) hne, k0.fill hq1 fn, k2.fill hq1 fn, k4.fill hq1 fn⟩, ⟨hq1.fill fn, kn.fill hq1 fn⟩, Bel.put hb1 (fr_fill (g := g7) _ _) h7⟩
/-- Play from the start. -/
theorem play_start (s : Sv) (lo h a b : Rat) (M : Nat) (hk : OKs s lo h a b M) (fp : Fa) (x : Rat) (hx : Chn x) (W : World) (fw : Fa) (hq : SQ W s) (hp : Fo W fp (some x)) (hw : Fo W fw (some 1)) :
    Calls Tryz.prog 47 #[.agg #[.slice s.l.A s.l.n s.l.c, .slice s.l.B s.l.m s.l.d, .slice s.h.A s.h.n s.h.c, .slice s.h.B s.h.m s.h.d, .slice s.a.A s.a.n s.a.c, .slice s.a.B s.a.m s.a.d, .slice s.b.A s.b.n s.b.c, .slice s.b.B s.b.m s.b.d, .int .i64 s.m], .agg #[.slice fp.A fp.n fp.c, .slice fp.B fp.m fp.d], .int .i64 0, .int .i64 0, .agg #[.slice fw.A fw.n fw.c, .slice fw.B fw.m fw.d]] W fun e w' => ∃ f0 f2 f4 fn : Fa, e = .returned (.tuple #[.agg #[.slice f0.A f0.n f0.c, .slice f0.B f0.m f0.d, .slice f2.A f2.n f2.c, .slice f2.B f2.m f2.d, .slice f4.A f4.n f4.c, .slice f4.B f4.m f4.d], .agg #[.slice fn.A fn.n fn.c, .slice fn.B fn.m fn.d]]) ∧ Fo w' f0 (some (val (decQ lo h a b) x gF M 0 0)) ∧ Fo w' f2 (some (val (decQ lo h a b) x gS M 0 0)) ∧ Fo w' f4 (some (val (decQ lo h a b) x gO M 0 0)) ∧ Fo w' fn (some (val (decQ lo h a b) x gN M 0 0)) ∧ Below W.heap.size W w' := by
  have := play_ok s lo h a b M hk fp x hx M 0 0 (by omega) W fw 1 hq hp hw (Dv.one _)
  refine Calls.mono this (fun e w' h => ?_)
  obtain ⟨f0, f2, f4, fn, h1, h2, h3, h4, h5, h6⟩ := h
  rw [Rat.one_mul] at h2 h3 h4 h5
  exact ⟨f0, f2, f4, fn, h1, h2, h3, h4, h5, h6⟩
set_option maxRecDepth 100000 in
set_option maxHeartbeats 8000000 in
theorem qerrors_ok (w : World) (s : Sv) (lo h a b : Rat) (M : Nat) (fp : Fa) (l k : List Nat) (x : Rat) (hq : SQ w s) (hk : OKs s lo h a b M) (hp : Fq w fp l k) (hf : fracOf l k = some x) (hx : Chn x) : Calls Tryz.prog 12 #[.agg #[.slice s.l.A s.l.n s.l.c, .slice s.l.B s.l.m s.l.d, .slice s.h.A s.h.n s.h.c, .slice s.h.B s.h.m s.h.d, .slice s.a.A s.a.n s.a.c, .slice s.a.B s.a.m s.a.d, .slice s.b.A s.b.n s.b.c, .slice s.b.B s.b.m s.b.d, .int .i64 s.m], .agg #[.slice fp.A fp.n fp.c, .slice fp.B fp.m fp.d]] w fun e w' => ErrV (decQ lo h a b) x M w e w' := by
  have HQ := hide hq
  have HP := hide hp
  have HK := hide hk
  have HX := hide hx
  have HFR := hide hf
  have HOK := hide hk.ok
  have HCH := hide (show chO (fracOf l k) = true by rw [hf]; simp [chO, hx.h1, hx.hd])
  clear hq hp hk hx hf
  go_enter Tryz.func12, Tryz.ntmps12
  go_upto_region 1 with (fail)
  generalize hW : World.alloc (World.alloc (World.alloc w _) _) _ = v
  have HF := hide (show FS w v w.heap.size s by rw [← hW]; exact ((FS.mk0 HQ.out _).alloc _).alloc _)
  have HB := hide (show Bq v (w.heap.size + 1) fp by rw [← hW]; exact ((Bq.mk0 (w := w.alloc _) _ fp (by simp)).alloc _))
  have HP2 := hide (show Fq v fp l k by rw [← hW]; exact ((HP.out.alloc _).alloc _).alloc _)
  have HC := hide (show Cb v (w.heap.size + 2) z6 by rw [← hW]; first | exact Cb.mk0 z6 (by simp [z6]) _ (by simp) | exact Rb.mk0 _ (by simp))
  obtain ⟨a0, a1, a2, a3, a4, a5, a6, a7, a8, a9⟩ := HF.out.ca
  have p0 := HB.out.c0
  have p1 := HB.out.c1
  have pz := HB.out.sz
  clear hW
  go_upto_region 5 with (first
    | (go_at_call 46; (with_reducible refine (rzchance_any _ fp l k HP3.out).mono ?_); rintro e w2 ⟨rfl, hb⟩; rw [HCH.out]; have HF2 := hide (HF1.out.below hb); have HB2 := hide (HB1.out.below hb); have HP4 := hide (HP3.out.below hb); have HC2 := hide (HC1.out.below hb); clear hb)
    | (go_at_call 45; (with_reducible refine (qcheckv_any _ s HF.out.q).mono ?_); rintro e w1 ⟨rfl, hb⟩; rw [HOK.out]; have HF1 := hide (HF.out.below hb); have HB1 := hide (HB.out.below hb); have HP3 := hide (HP2.out.below hb); have HC1 := hide (HC.out.below hb); have r0 := HB1.out.c0; have r1 := HB1.out.c1; have rz := HB1.out.sz; clear hb))
  clear a0 a1 a2 a3 a4 a5 a6 a7 a8 a9 p0 p1 pz r0 r1 rz
  go_cut [6, 7] from 6 to 23 (fun s6 s7 wx => ∃ (g6 g7 : Nat) (f0 f2 f4 fn : Fa), s6 = .pointer (some ⟨g6, 0, none⟩) ∧ s7 = .pointer (some ⟨g7, 0, none⟩) ∧ Hid (OdC wx g6 f0 f2 f4 (val (decQ lo h a b) x gF M 0 0) (val (decQ lo h a b) x gS M 0 0) (val (decQ lo h a b) x gO M 0 0)) ∧ Hid (Bf wx g7 fn (val (decQ lo h a b) x gN M 0 0)) ∧ Hid (Below w2.heap.size w2 wx))
  case first =>
    apply region_seqo 6 9 [17, 18, 19, 20, 16, 21, 22, 6, 7] [eqV _, eqV _, (fun x' w => ∃ c : Fa, x' = .agg #[.slice c.A c.n c.c, .slice c.B c.m c.d] ∧ Fo w c (some 1)), (fun x' w => ∃ f0 f2 f4 fn : Fa, x' = .tuple #[.agg #[.slice f0.A f0.n f0.c, .slice f0.B f0.m f0.d, .slice f2.A f2.n f2.c, .slice f2.B f2.m f2.d, .slice f4.A f4.n f4.c, .slice f4.B f4.m f4.d], .agg #[.slice fn.A fn.n fn.c, .slice fn.B fn.m fn.d]] ∧ (Fo w f0 (some (val (decQ lo h a b) x gF M 0 0)) ∧ Fo w f2 (some (val (decQ lo h a b) x gS M 0 0)) ∧ Fo w f4 (some (val (decQ lo h a b) x gO M 0 0))) ∧ Fo w fn (some (val (decQ lo h a b) x gN M 0 0))), (fun x' w => ∃ f0 f2 f4 fn : Fa, x' = .tuple #[.agg #[.slice f0.A f0.n f0.c, .slice f0.B f0.m f0.d, .slice f2.A f2.n f2.c, .slice f2.B f2.m f2.d, .slice f4.A f4.n f4.c, .slice f4.B f4.m f4.d], .agg #[.slice fn.A fn.n fn.c, .slice fn.B fn.m fn.d]] ∧ (Fo w f0 (some (val (decQ lo h a b) x gF M 0 0)) ∧ Fo w f2 (some (val (decQ lo h a b) x gS M 0 0)) ∧ Fo w f4 (some (val (decQ lo h a b) x gO M 0 0))) ∧ Fo w fn (some (val (decQ lo h a b) x gN M 0 0))), (fun x' w => ∃ f0 f2 f4 : Fa, x' = .agg #[.slice f0.A f0.n f0.c, .slice f0.B f0.m f0.d, .slice f2.A f2.n f2.c, .slice f2.B f2.m f2.d, .slice f4.A f4.n f4.c, .slice f4.B f4.m f4.d] ∧ (Fo w f0 (some (val (decQ lo h a b) x gF M 0 0)) ∧ Fo w f2 (some (val (decQ lo h a b) x gS M 0 0)) ∧ Fo w f4 (some (val (decQ lo h a b) x gO M 0 0)))), (fun x' w => ∃ fn : Fa, x' = .agg #[.slice fn.A fn.n fn.c, .slice fn.B fn.m fn.d] ∧ Fo w fn (some (val (decQ lo h a b) x gN M 0 0))), (fun x' w => ∃ b : Nat, x' = .pointer (some ⟨b, 0, none⟩) ∧ w2.heap.size ≤ b ∧ Cb w b z6), (fun x' w => ∃ b : Nat, x' = .pointer (some ⟨b, 0, none⟩) ∧ w2.heap.size ≤ b ∧ Bq w b fa0)] [false, false, false, false, false, false, false, true, true] (by kernel_rfl) (by decide) (by decide) rfl rfl rfl (by decide) (by kernel_rfl) (by kernel_rfl) rfl ?stb4 ?steps4 ?fina4 ?finb4
    case stb4 => repeat' (first | exact trivial | apply stb_eq | (first | exact fun x w w' ⟨c, h1, h2⟩ hb => ⟨c, h1, h2.below hb⟩ | exact fun x w w' ⟨c, h1, h2, h3⟩ hb => ⟨c, h1, h2, h3.below hb⟩ | exact fun x w w' ⟨c, d, e, h1, h2, h3, h4⟩ hb => ⟨c, d, e, h1, h2.below hb, h3.below hb, h4.below hb⟩ | exact fun x w w' ⟨c, d, e, f, h1, ⟨h2, h3, h4⟩, h5⟩ hb => ⟨c, d, e, f, h1, ⟨h2.below hb, h3.below hb, h4.below hb⟩, h5.below hb⟩) | apply And.intro)
    case steps4 =>
      repeat' (first | exact trivial | apply And.intro)
      all_goals
        intro a' w' hbw hdf hoff hdep K hK
        (have o2 := hoff 2 rfl; have o3 := hoff 3 rfl)
        (have HG := hide (HF2.out.below hbw); have HGB := hide (HB2.out.below hbw); have HGP := hide (HP4.out.below hbw); obtain ⟨y0, y1, y2, y3, y4, y5, y6, y7, y8, y9⟩ := HG.out.ca; have u0 := HGB.out.c0; have u1 := HGB.out.c1; have hvz2 := hbw.size)
        replace hdep := hdep _ rfl
        simp only [List.getElem_toArray, List.getElem_cons_succ, List.getElem_cons_zero, List.toList_toArray, depAll, binds_data, binds_chain, binds_guard, binds_phase, binds_text, binds_gc, cond_true, cond_false, true_and, getR, eqV, List.getD_cons_succ, List.getD_cons_zero, and_true] at hdep
        simp only [Nat.zero_add, Nat.reduceAdd, getR, eqV, List.getD_cons_succ, List.getD_cons_zero] at hK
        clear hoff hdf
        (first | (obtain ⟨e17, e18, ⟨c1, e19, HO1⟩, hdep⟩ : (_ = _) ∧ (_ = _) ∧ (∃ c : Fa, _) ∧ _ := hdep) | (obtain ⟨f0, f2, f4, fn, e20, h1, h4⟩ : ∃ f0 f2 f4 fn : Fa, _ := hdep) | skip)
        first
          | (refine rg_unwanted rfl rfl rfl (b' := false) (by first | (simp [hdep]; done) | assumption) (by decide) ?_; exact hK _ _ rfl (Below.refl _ _) (by simp))
          | (refine rg_unwanted rfl rfl rfl (b' := true) (by first | (simp [hdep]; done) | assumption) (by decide) ?_; exact hK _ _ rfl (Below.refl _ _) (by simp))
          | (refine rg_wanted rfl rfl rfl (b' := true) (by first | (simp [hdep]; done) | assumption) rfl (fun K' hKK => ?_); go_wp2_with (first | (go_at_call 47; (with_reducible refine (play_start s lo h a b M HK.out fp x HX.out _ c1 HG.out.q (fo_of HGP.out HFR.out) HO1).mono ?_); rintro e w1 ⟨f0, f2, f4, fn, rfl, j0, j2, j4, jn, hb⟩) | (go_at_call 48; (with_reducible refine (rzof_one _).mono ?_); rintro e w1 ⟨c, rfl, ho, hb⟩)); first | exact hK _ _ rfl (Below.refl _ _) (by simp) | (first | exact hK _ _ ⟨c, rfl, ho⟩ hb (by simp) | exact hK _ _ ⟨f0, f2, f4, fn, rfl, ⟨j0, j2, j4⟩, jn⟩ hb (by simp) | exact hK _ _ ⟨f0, f2, f4, fn, rfl, h1, h4⟩ (Below.refl _ _) (by simp) | exact hK _ _ ⟨f0, f2, f4, rfl, h1⟩ (Below.refl _ _) (by simp) | exact hK _ _ ⟨fn, rfl, h4⟩ (Below.refl _ _) (by simp) | exact hK _ _ ⟨_, rfl, hvz2, Cb.mk0 z6 (by simp [z6]) _ rfl⟩ ((Below.refl _ _).alloc (Nat.le_refl _) _) (fun _ => ⟨_, rfl, Nat.le_refl _, by simp⟩) | exact hK _ _ ⟨_, rfl, hvz2, Bq.mk0 _ fa0 rfl⟩ ((Below.refl _ _).alloc (Nat.le_refl _) _) (fun _ => ⟨_, rfl, Nat.le_refl _, by simp⟩)))
          | (refine rg_wanted rfl rfl rfl (b' := false) (by first | (simp [hdep]; done) | assumption) rfl (fun K' hKK => ?_); go_wp2_with (first | (go_at_call 47; (with_reducible refine (play_start s lo h a b M HK.out fp x HX.out _ c1 HG.out.q (fo_of HGP.out HFR.out) HO1).mono ?_); rintro e w1 ⟨f0, f2, f4, fn, rfl, j0, j2, j4, jn, hb⟩) | (go_at_call 48; (with_reducible refine (rzof_one _).mono ?_); rintro e w1 ⟨c, rfl, ho, hb⟩)); first | exact hK _ _ rfl (Below.refl _ _) (by simp) | (first | exact hK _ _ ⟨c, rfl, ho⟩ hb (by simp) | exact hK _ _ ⟨f0, f2, f4, fn, rfl, ⟨j0, j2, j4⟩, jn⟩ hb (by simp) | exact hK _ _ ⟨f0, f2, f4, fn, rfl, h1, h4⟩ (Below.refl _ _) (by simp) | exact hK _ _ ⟨f0, f2, f4, rfl, h1⟩ (Below.refl _ _) (by simp) | exact hK _ _ ⟨fn, rfl, h4⟩ (Below.refl _ _) (by simp) | exact hK _ _ ⟨_, rfl, hvz2, Cb.mk0 z6 (by simp [z6]) _ rfl⟩ ((Below.refl _ _).alloc (Nat.le_refl _) _) (fun _ => ⟨_, rfl, Nat.le_refl _, by simp⟩) | exact hK _ _ ⟨_, rfl, hvz2, Bq.mk0 _ fa0 rfl⟩ ((Below.refl _ _).alloc (Nat.le_refl _) _) (fun _ => ⟨_, rfl, Nat.le_refl _, by simp⟩)))
          | (refine rg_free rfl rfl (fun K' hKK => ?_); fail)
          | (refine rg_free rfl rfl (fun K' hKK => ?_); go_wp2_with (first | (go_at_call 47; (with_reducible refine (play_start s lo h a b M HK.out fp x HX.out _ c1 HG.out.q (fo_of HGP.out HFR.out) HO1).mono ?_); rintro e w1 ⟨f0, f2, f4, fn, rfl, j0, j2, j4, jn, hb⟩) | (go_at_call 48; (with_reducible refine (rzof_one _).mono ?_); rintro e w1 ⟨c, rfl, ho, hb⟩)); first | exact hK _ _ rfl (Below.refl _ _) (by simp) | (first | exact hK _ _ ⟨c, rfl, ho⟩ hb (by simp) | exact hK _ _ ⟨f0, f2, f4, fn, rfl, ⟨j0, j2, j4⟩, jn⟩ hb (by simp) | exact hK _ _ ⟨f0, f2, f4, fn, rfl, h1, h4⟩ (Below.refl _ _) (by simp) | exact hK _ _ ⟨f0, f2, f4, rfl, h1⟩ (Below.refl _ _) (by simp) | exact hK _ _ ⟨fn, rfl, h4⟩ (Below.refl _ _) (by simp) | exact hK _ _ ⟨_, rfl, hvz2, Cb.mk0 z6 (by simp [z6]) _ rfl⟩ ((Below.refl _ _).alloc (Nat.le_refl _) _) (fun _ => ⟨_, rfl, Nat.le_refl _, by simp⟩) | exact hK _ _ ⟨_, rfl, hvz2, Bq.mk0 _ fa0 rfl⟩ ((Below.refl _ _).alloc (Nat.le_refl _) _) (fun _ => ⟨_, rfl, Nat.le_refl _, by simp⟩)))
    · intro w' hbw
      repeat (first | refine fin_eq ?_ | refine fin_any (fun x hx => ?_) | refine fin_new (fun x hx hne => ?_))
      rename_i x1 h1 x2 h2 x3 h3 x4 h4 x5 h5 x6 h6 n6
      obtain ⟨_, _, _, _, rfl, -⟩ := h3
      obtain ⟨f0, f2, f4, rfl, j0, j2, j4⟩ := h4
      obtain ⟨fn, rfl, jn⟩ := h5
      obtain ⟨g6, rfl, hg6, hc6⟩ := h6
      obtain ⟨g7, rfl, hg7, hq7⟩ := hx
      have hn67 : g6 ≠ g7 := fun e => hne (.pointer (some ⟨g6, 0, none⟩)) (by simp) (by rw [e])
      have HFI := hide (fill68 hbw hg6 hg7 hn67 hc6 hq7 j0 j2 j4 jn)
      have s0 := hc6.cell 0 _ rfl
      have s1 := hc6.cell 1 _ rfl
      have s2 := hc6.cell 2 _ rfl
      have s3 := hc6.cell 3 _ rfl
      have s4 := hc6.cell 4 _ rfl
      have s5 := hc6.cell 5 _ rfl
      have sf := hc6.fz
      have sz := hc6.sz
      obtain ⟨q0, q1, qf, qz, -⟩ := hq7
      have hn76 : g7 ≠ g6 := fun e => hn67 e.symm
      clear hbw hne hc6 j0 j2 j4 jn h1 h2 n6
      refine fin_nil ?_
      simp only [List.setIfInBounds_toArray, List.set_cons_succ, List.set_cons_zero]
      refine wpAny_one (i := 9) (by kernel_rfl) ?_
      refine rg_free rfl rfl (fun K' hKK => ?_)
      go_wp2_with fail
      refine wpAny_one (i := 10) (by kernel_rfl) ?_
      refine rg_free rfl rfl (fun K' hKK => ?_)
      go_wp2_with fail
      refine wpAny_done (by kernel_rfl) ?_ _
      go_wp2_with fail
      go_meet
      case rel => exact ⟨g6, g7, f0, f2, f4, fn, rfl, rfl, hide HFI.out.1, hide HFI.out.2.1, hide HFI.out.2.2⟩
    · intro w' hbw
      repeat (first | refine fin_eq ?_ | refine fin_any (fun x hx => ?_) | refine fin_new (fun x hx hne => ?_))
      rename_i x1 h1 x2 h2 x3 h3 x4 h4 x6 h6 n6
      obtain ⟨_, _, _, fn, rfl, -, jn⟩ := h3
      obtain ⟨f0, f2, f4, rfl, j0, j2, j4⟩ := h4
      obtain ⟨g6, rfl, hg6, hc6⟩ := h6
      obtain ⟨g7, rfl, hg7, hq7⟩ := hx
      have hn67 : g6 ≠ g7 := fun e => hne (.pointer (some ⟨g6, 0, none⟩)) (by simp) (by rw [e])
      have HFI := hide (fill68 hbw hg6 hg7 hn67 hc6 hq7 j0 j2 j4 jn)
      have s0 := hc6.cell 0 _ rfl
      have s1 := hc6.cell 1 _ rfl
      have s2 := hc6.cell 2 _ rfl
      have s3 := hc6.cell 3 _ rfl
      have s4 := hc6.cell 4 _ rfl
      have s5 := hc6.cell 5 _ rfl
      have sf := hc6.fz
      have sz := hc6.sz
      obtain ⟨q0, q1, qf, qz, -⟩ := hq7
      have hn76 : g7 ≠ g6 := fun e => hn67 e.symm
      clear hbw hne hc6 j0 j2 j4 jn h1 h2 n6
      refine fin_nil ?_
      simp only [List.setIfInBounds_toArray, List.set_cons_succ, List.set_cons_zero]
      refine wpAny_two (i := 6) (j := 9) (by kernel_rfl) ?_ ?_
      · skip
        refine rg_free rfl rfl (fun K' hKK => ?_)
        go_wp2_with fail
        refine wpAny_one (i := 9) (by kernel_rfl) ?_
        refine rg_free rfl rfl (fun K' hKK => ?_)
        go_wp2_with fail
        refine wpAny_one (i := 10) (by kernel_rfl) ?_
        refine rg_free rfl rfl (fun K' hKK => ?_)
        go_wp2_with fail
        refine wpAny_done (by kernel_rfl) ?_ _
        go_wp2_with fail
        go_meet
        case rel => exact ⟨g6, g7, f0, f2, f4, fn, rfl, rfl, hide HFI.out.1, hide HFI.out.2.1, hide HFI.out.2.2⟩
      · skip
        refine rg_free rfl rfl (fun K' hKK => ?_)
        go_wp2_with fail
        refine wpAny_one (i := 6) (by kernel_rfl) ?_
        refine rg_free rfl rfl (fun K' hKK => ?_)
        go_wp2_with fail
        refine wpAny_one (i := 10) (by kernel_rfl) ?_
        refine rg_free rfl rfl (fun K' hKK => ?_)
        go_wp2_with fail
        refine wpAny_done (by kernel_rfl) ?_ _
        go_wp2_with fail
        go_meet
        case rel => exact ⟨g6, g7, f0, f2, f4, fn, rfl, rfl, hide HFI.out.1, hide HFI.out.2.1, hide HFI.out.2.2⟩
  obtain ⟨g6, g7, f0, f2, f4, fn, rfl, rfl, HO6, HN7, HB6⟩ := hcut
  have HF6 := hide (HF2.out.below HB6.out)
  have HC6 := hide (HC2.out.below HB6.out)
  have t0 := HC6.out.cell 0 _ rfl
  have t1 := HC6.out.cell 1 _ rfl
  have t2 := HC6.out.cell 2 _ rfl
  have t3 := HC6.out.cell 3 _ rfl
  have t4 := HC6.out.cell 4 _ rfl
  have t5 := HC6.out.cell 5 _ rfl
  have tf := HC6.out.fz
  have tz := HC6.out.sz
  have u0 := HO6.out.cb.cell 0 _ rfl
  have u1 := HO6.out.cb.cell 1 _ rfl
  have u2 := HO6.out.cb.cell 2 _ rfl
  have u3 := HO6.out.cb.cell 3 _ rfl
  have u4 := HO6.out.cb.cell 4 _ rfl
  have u5 := HO6.out.cb.cell 5 _ rfl
  go_wp2_with fail
  generalize hW : World.setCell (World.setCell (World.setCell (World.setCell (World.setCell (World.setCell _ _ _) _ _) _ _) _ _) _ _) _ _ = v5
  have HC5 := hide (show Cb v5 (w.heap.size + 2) [.slice f0.A f0.n f0.c, .slice f0.B f0.m f0.d, .slice f2.A f2.n f2.c, .slice f2.B f2.m f2.d, .slice f4.A f4.n f4.c, .slice f4.B f4.m f4.d] by
    rw [← hW]
    exact ((((((HC6.out.put 0 (.slice f0.A f0.n f0.c) (by simp [z6]) (by simp)).put 1 (.slice f0.B f0.m f0.d) (by simp [z6]) (by simp)).put 2 (.slice f2.A f2.n f2.c) (by simp [z6]) (by simp)).put 3 (.slice f2.B f2.m f2.d) (by simp [z6]) (by simp)).put 4 (.slice f4.A f4.n f4.c) (by simp [z6]) (by simp)).put 5 (.slice f4.B f4.m f4.d) (by simp [z6]) (by simp)))
  have HOO := hide (show (Fo v5 f0 (some (val (decQ lo h a b) x gF M 0 0)) ∧ Fo v5 f2 (some (val (decQ lo h a b) x gS M 0 0)) ∧ Fo v5 f4 (some (val (decQ lo h a b) x gO M 0 0))) ∧ Below w.heap.size w v5 by
    rw [← hW]
    have hf6 := fr6 (g := w.heap.size + 2) (w := wc) (.slice f0.A f0.n f0.c) (.slice f0.B f0.m f0.d) (.slice f2.A f2.n f2.c) (.slice f2.B f2.m f2.d) (.slice f4.A f4.n f4.c) (.slice f4.B f4.m f4.d)
    exact ⟨⟨HO6.out.o0.one hf6 HC6.out.nb, HO6.out.o2.one hf6 HC6.out.nb, HO6.out.o4.one hf6 HC6.out.nb⟩, Bel.put HF6.out.bw hf6 (by omega)⟩)
  clear hW t0 t1 t2 t3 t4 t5 tf tz u0 u1 u2 u3 u4 u5
  have k0 := HC5.out.cell 0 _ rfl
  have k1 := HC5.out.cell 1 _ rfl
  have k2 := HC5.out.cell 2 _ rfl
  have k3 := HC5.out.cell 3 _ rfl
  have k4 := HC5.out.cell 4 _ rfl
  have k5 := HC5.out.cell 5 _ rfl
  refine bodyPost_ret (v := .tuple #[.agg #[.slice f0.A f0.n f0.c, .slice f0.B f0.m f0.d, .slice f2.A f2.n f2.c, .slice f2.B f2.m f2.d, .slice f4.A f4.n f4.c, .slice f4.B f4.m f4.d], .int .i64 0]) (by simp [results, Tryz.results12, go_sem, *]) rfl ⟨f0, f2, f4, rfl, HOO.out.1.1, HOO.out.1.2.1, HOO.out.1.2.2, HOO.out.2⟩
end Go.Proofs.YtnokfhkcfebimaaGreat

/- A specification that came in. -/
namespace Go.Proofs.YtnokfhkcfebimaaGreat
open Go.RowKit Go.WideShapes Go.Deep

theorem jcells32 : Tryz.prog.cellsOf 32 = 9 := by kernel_rfl
theorem CameF.fq {w : World} {p : Fa} {l k : List Nat} (h : CameF w p l k) : Fq w p l k := ⟨h.u, h.v, h.c, h.d, h.n, h.m⟩
section
variable {H : Type} {enc : TypeId × Value → H} {w : World} {base : Nat} {spare : Nat → Bool} {held : Bool}
set_option maxRecDepth 20000 in
theorem came_spec {fuel : Nat} {cs : List Value} {x : DataW H × List MemPlace} (h : DataW.trod enc Tryz.prog w base spare held fuel 32 cs = some x) :
    ∃ (s : Sv), cs = [.slice s.l.A s.l.n s.l.c, .slice s.l.B s.l.m s.l.d, .slice s.h.A s.h.n s.h.c, .slice s.h.B s.h.m s.h.d, .slice s.a.A s.a.n s.a.c, .slice s.a.B s.a.m s.a.d, .slice s.b.A s.b.n s.b.c, .slice s.b.B s.b.m s.b.d, .int .i64 s.m] ∧ SQ w s := by
  obtain ⟨xs, n, _, -, hc, hl, hf⟩ := DataW.trod_struct Tryz.underlying32 h
  rw [jcells32] at hc
  have hl' : xs.length = 5 := hl
  match cs, hc with
  | [a0, a1, a2, a3, a4, a5, a6, a7, a8], _ =>
    obtain ⟨y0, h0⟩ := jfld hf 0 26 0 2 rfl jcells26 (by omega)
    obtain ⟨y1, h1⟩ := jfld hf 1 26 2 2 rfl jcells26 (by omega)
    obtain ⟨y2, h2⟩ := jfld hf 2 26 4 2 rfl jcells26 (by omega)
    obtain ⟨y3, h3⟩ := jfld hf 3 26 6 2 rfl jcells26 (by omega)
    obtain ⟨y4, h4⟩ := jfld hf 4 3 8 1 rfl jcells3 (by omega)
    simp only [List.drop_zero, List.take, List.drop] at h0 h1 h2 h3 h4
    obtain ⟨p0, l0, k0, e0, g0⟩ := came_frac h0
    obtain ⟨p1, l1, k1, e1, g1⟩ := came_frac h1
    obtain ⟨p2, l2, k2, e2, g2⟩ := came_frac h2
    obtain ⟨p3, l3, k3, e3, g3⟩ := came_frac h3
    obtain ⟨i, e4, -⟩ := DataW.trod_int Tryz.underlying3 h4
    simp at e0 e1 e2 e3 e4
    obtain ⟨rfl, rfl⟩ := e0
    obtain ⟨rfl, rfl⟩ := e1
    obtain ⟨rfl, rfl⟩ := e2
    obtain ⟨rfl, rfl⟩ := e3
    subst e4
    exact ⟨⟨p0, p1, p2, p3, i, l0, k0, l1, k1, l2, k2, l3, k3⟩, rfl, ⟨g0.fq, g1.fq, g2.fq, g3.fq⟩⟩
end
end Go.Proofs.YtnokfhkcfebimaaGreat

/- Plain laws of the verdicts of attempts. -/
namespace Go.Proofs.YtnokfhkcfebimaaGreat
open Go.RowKit

/-- What a number of runs that passed and one of runs that failed mean. -/
def aftQ (d : Nat → Nat → Int) (M p f : Nat) : Int := if d p f = 2 then 1 else if d p f = 1 then 2 else if p + f = M then 3 else 0
theorem aft_go {d : Nat → Nat → Int} {M p f : Nat} (hpf : p + f ≤ M) (h : aftQ d M p f = 0) : p + f < M := by
  unfold aftQ at h
  split at h
  · simp at h
  · split at h
    · simp at h
    · split at h
      · simp at h
      · omega
/-- The attempts behind the first one: (failed, random). -/
def judL (g : Nat → Nat → Int) (r0 : Bool) : List (Bool × Bool) → Nat → Nat → Nat → Int × Nat
  | [], k, _, _ => (0, k)
  | (fl, rd) :: t, k, p, f =>
    if rd ≠ r0 then (4, k + 1)
    else if rd = false then (if fl then (1, k + 1) else (4, k + 1))
    else if g (if fl then p else p + 1) (if fl then f + 1 else f) = 0 then judL g r0 t (k + 1) (if fl then p else p + 1) (if fl then f + 1 else f)
    else (g (if fl then p else p + 1) (if fl then f + 1 else f), k + 1)
def jud (g : Nat → Nat → Int) : List (Bool × Bool) → Int × Nat
  | [] => (0, 0)
  | (fl, rd) :: t => if fl = false then (5, 1) else judL g rd t 1 0 0
/-- Two cells of an attempt. -/
def atv (x : Bool × Bool) : List Value := [.bool x.1, .bool x.2]
theorem atv_len : ∀ x, (atv x).length = 2 := fun _ => rfl
end Go.Proofs.YtnokfhkcfebimaaGreat

/- Attempts that came in. -/
namespace Go.Proofs.YtnokfhkcfebimaaGreat
open Go.RowKit Go.WideShapes Go.Deep

section
variable {H : Type} {enc : TypeId × Value → H} {w : World} {base : Nat} {spare : Nat → Bool} {held : Bool}
end
end Go.Proofs.YtnokfhkcfebimaaGreat

/- Contract: the maker of specifications of the rerun laws. -/
namespace Go.Proofs.YtnokfhkcfebimaaGreat
open Go.RowKit

set_option maxRecDepth 100000 in
set_option maxHeartbeats 16000000 in
theorem vspec_any (w : World) (T : Nat) (A : Option Addr) (n c : Nat) (l : List Int) (a most : Nat) (hP : Tp w T A n c l a) (ha : a ≤ 4294960000) (hm : 1 ≤ most) (hm2 : most ≤ 32) :
    Calls Tryz.prog 18 #[.pointer (some ⟨T, 0, none⟩), .int .i64 (most : Int)] w fun e w' => MkS w T A n c l a most e w' := by
  have hTl := hP.t.1
  have HPW := hide hP
  go_enter Tryz.func18, Tryz.ntmps18
  go_upto_region 2 with (fail)
  generalize hW : World.alloc (World.alloc w _) _ = v
  have HS0 := hide (show SpS w v T A n c l a w.heap.size (w.heap.size + 1) sv0 by
    rw [← hW]
    exact ⟨(hP.alloc _).alloc _, (Cb.mk0 z9 (by simp [z9]) _ rfl).alloc _, Cb.mk0 z9 (by simp [z9]) _ (by simp), ⟨fq0 _, fq0 _, fq0 _, fq0 _⟩, ((Fr.refl _ _).alloc _).alloc _⟩)
  clear hW hP
  go_upto_region 3 with (go_at_call 39; refine (twom_any _ T A n c l a HS0.out.tp (by omega)).mono ?_; rintro e w1 ⟨f, g, r, s, rfl, hof, hog, hcr, hcs, hrs, hp, hf⟩; have HOF := hide hof; have HOG := hide hog; have HCR := hide hcr; have HCS := hide hcs; have HRS := hide hrs; have HS1 := hide (HS0.out.tape hp hf (by omega) (by omega)); have y0 := HS1.out.b.cell 0 _ rfl; have y1 := HS1.out.b.cell 1 _ rfl; have y2 := HS1.out.b.cell 2 _ rfl; have y3 := HS1.out.b.cell 3 _ rfl; have y4 := HS1.out.b.cell 4 _ rfl; have y5 := HS1.out.b.cell 5 _ rfl; have y6 := HS1.out.b.cell 6 _ rfl; have y7 := HS1.out.b.cell 7 _ rfl; have y8 := HS1.out.b.cell 8 _ rfl; have yf := HS1.out.b.fz; have yz := HS1.out.b.sz; clear hof hog hcr hcs hrs hp hf)
  generalize hW : World.setCell (World.setCell (World.setCell (World.setCell w1 _ _) _ _) _ _) _ _ = v2
  have HS2 := hide (show SpS w v2 T A n c l (a + 3) w.heap.size (w.heap.size + 1) ⟨f, g, fa0, fa0, 0, lm (rn r), lm r.den, lm (rn s), lm s.den, [], [], [], []⟩ by
    rw [← hW]
    exact HS1.out.put HPW.out (by omega) (by omega) (fr4 0 1 2 3 _ _ _ _) ((((HS1.out.b.put 0 (.slice f.A f.n f.c) (by simp [Sv.cs, sv0]) (by simp)).put 1 (.slice f.B f.m f.d) (by simp [Sv.cs, sv0]) (by simp)).put 2 (.slice g.A g.n g.c) (by simp [Sv.cs, sv0]) (by simp)).put 3 (.slice g.B g.m g.d) (by simp [Sv.cs, sv0]) (by simp)) ⟨HOF.out.1.one (fr4 0 1 2 3 _ _ _ _) HS1.out.b.nb, HOG.out.1.one (fr4 0 1 2 3 _ _ _ _) HS1.out.b.nb, fq0 _, fq0 _⟩ (by omega))
  clear hW
  clear y0 y1 y2 y3 y4 y5 y6 y7 y8 yf yz
  have HOK := hide (show okR (some r) ∧ okR (some s) from ⟨HOF.out.2, HOG.out.2⟩)
  have z0 := HS2.out.b.cell 0 _ rfl; have z1 := HS2.out.b.cell 1 _ rfl; have z2 := HS2.out.b.cell 2 _ rfl; have z3 := HS2.out.b.cell 3 _ rfl; have z4 := HS2.out.b.cell 4 _ rfl; have z5 := HS2.out.b.cell 5 _ rfl; have z6 := HS2.out.b.cell 6 _ rfl; have z7 := HS2.out.b.cell 7 _ rfl; have z8 := HS2.out.b.cell 8 _ rfl; have zf := HS2.out.b.fz; have zz := HS2.out.b.sz
  have hT2 := HS2.out.tp.t.1
  go_upto_region 4 with (first
    | (go_at_call 26; have hx10 : Rs (w10.alloc (.cells #[.int .i64 2, .int .i64 5, .int .i64 10, .int .i64 50] 3)) (some T) 1 iv (some ⟨w10.heap.size, 0, none⟩) [2, 5, 10, 50] := rs_new (by omega) [2, 5, 10, 50] 3; refine (pickp_any _ T A n c l (a + 3 + 1) _ 4 4 [2, 5, 10, 50] (HS10.out.tp.alloc _) (by omega) hx10 rfl (by decide) (by decide)).mono ?_; rintro e w11 ⟨⟨v2, hv, rfl⟩, hp, hf⟩; have HV := hide (mem_nat2 2 hv (by decide)); have HO5b := hide ((HO5.out.alloc _).one hf (HS10.out.tp.alloc _).nb); have HS11 := hide ((HS10.out.below ((Below.refl _ _).alloc (Nat.le_refl _) _)).tape hp hf (by omega) (by omega)); clear hv hp hf; obtain ⟨d2, rfl, hd3, hd4⟩ := HV.out; clear HV)
    | (go_at_call 26; have hx6 : Rs (v2.alloc (.cells #[.int .i64 2, .int .i64 3, .int .i64 10, .int .i64 20, .int .i64 100] 3)) (some T) 1 iv (some ⟨v2.heap.size, 0, none⟩) [2, 3, 10, 20, 100] := rs_new (by omega) [2, 3, 10, 20, 100] 3; refine (pickp_any _ T A n c l (a + 3) _ 5 5 [2, 3, 10, 20, 100] (HS2.out.tp.alloc _) (by omega) hx6 rfl (by decide) (by decide)).mono ?_; rintro e w9 ⟨⟨v1, hv, rfl⟩, hp, hf⟩; have HV := hide (mem_nat2 2 hv (by decide)); have HS9 := hide ((HS2.out.below ((Below.refl _ _).alloc (Nat.le_refl _) _)).tape hp hf (by omega) (by omega)); clear hv hp hf; obtain ⟨d1, rfl, hd1, hd2⟩ := HV.out; clear HV)
    | (go_at_call 25; (with_reducible refine (small1_any _ d1 (by omega) (by omega)).mono ?_); rintro e w10 ⟨f5, rfl, ho, hb⟩; have HO5 := hide ho; have HS10 := hide (HS9.out.below hb); have hT10 := HS10.out.tp.t.1; clear ho hb)
    | (go_at_call 25; (with_reducible refine (small1_any _ d2 (by omega) (by omega)).mono ?_); rintro e w12 ⟨f6, rfl, ho, hb⟩; have HO6 := hide ho; have HO5c := hide (HO5b.out.below hb); have HS12 := hide (HS11.out.below hb); have u0 := HS12.out.b.cell 0 _ rfl; have u1 := HS12.out.b.cell 1 _ rfl; have u2 := HS12.out.b.cell 2 _ rfl; have u3 := HS12.out.b.cell 3 _ rfl; have u4 := HS12.out.b.cell 4 _ rfl; have u5 := HS12.out.b.cell 5 _ rfl; have u6 := HS12.out.b.cell 6 _ rfl; have u7 := HS12.out.b.cell 7 _ rfl; have u8 := HS12.out.b.cell 8 _ rfl; have uf := HS12.out.b.fz; have uz := HS12.out.b.sz; clear ho hb))
  clear z0 z1 z2 z3 z4 z5 z6 z7 z8 zf zz
  have HI5 := hide (And.intro (inn_mk hd1 hd2) HO5c.out.2)
  have HI6 := hide (And.intro (inn_mk hd3 hd4) HO6.out.2)
  obtain ⟨r5, hr5⟩ : ∃ r, r = mkRat ((1 : Nat) : Int) d1 := ⟨_, rfl⟩
  obtain ⟨r6, hr6⟩ : ∃ r, r = mkRat ((1 : Nat) : Int) d2 := ⟨_, rfl⟩
  rw [← hr5] at HI5 HO5c
  rw [← hr6] at HI6 HO6
  clear hr5 hr6
  generalize hW : World.setCell (World.setCell (World.setCell (World.setCell w12 _ _) _ _) _ _) _ _ = v13
  have HS13 := hide (show SpS w v13 T A n c l (a + 3 + 1 + 1) w.heap.size (w.heap.size + 1) ⟨f, g, f5, f6, 0, lm (rn r), lm r.den, lm (rn s), lm s.den, lm (rn r5), lm r5.den, lm (rn r6), lm r6.den⟩ by
    rw [← hW]
    exact HS12.out.put HPW.out (by omega) (by omega) (fr4 4 5 6 7 _ _ _ _) (((((HS12.out.b.put 4 (.slice f5.A f5.n f5.c) (by simp [Sv.cs, sv0]) (by simp)).put 5 (.slice f5.B f5.m f5.d) (by simp [Sv.cs, sv0]) (by simp)).put 6 (.slice f6.A f6.n f6.c) (by simp [Sv.cs, sv0]) (by simp)).put 7 (.slice f6.B f6.m f6.d) (by simp [Sv.cs, sv0]) (by simp))) ⟨HS12.out.q.l.one (fr4 4 5 6 7 _ _ _ _) HS12.out.b.nb, HS12.out.q.h.one (fr4 4 5 6 7 _ _ _ _) HS12.out.b.nb, HO5c.out.1.one (fr4 4 5 6 7 _ _ _ _) HS12.out.b.nb, HO6.out.1.one (fr4 4 5 6 7 _ _ _ _) HS12.out.b.nb⟩ (by omega))
  clear hW
  clear u0 u1 u2 u3 u4 u5 u6 u7 u8 uf uz
  go_upto_region 5 with ((go_at_call 24; refine (nextp_any _ T A n c l (a + 3 + 1 + 1) (most : Int) HS13.out.tp (by omega) (by omega)).mono ?_; rintro e w8 ⟨rfl, hp, hf⟩; have HX := hide (tapeV_nat l (a + 3 + 1 + 1) (most : Int)); have HS8 := hide (HS13.out.tape hp hf (by omega) (by omega)); have q0 := HS8.out.b.cell 0 _ rfl; have q1 := HS8.out.b.cell 1 _ rfl; have q2 := HS8.out.b.cell 2 _ rfl; have q3 := HS8.out.b.cell 3 _ rfl; have q4 := HS8.out.b.cell 4 _ rfl; have q5 := HS8.out.b.cell 5 _ rfl; have q6 := HS8.out.b.cell 6 _ rfl; have q7 := HS8.out.b.cell 7 _ rfl; have q8 := HS8.out.b.cell 8 _ rfl; have qf := HS8.out.b.fz; have qz := HS8.out.b.sz; obtain ⟨x, hx, hxm⟩ := HX.out; rw [hx]; clear hp hf hx HX))
  obtain ⟨m, hmx⟩ : ∃ m : Nat, m = 1 + x := ⟨_, rfl⟩
  have hx1 : (1 : Int) + (x : Int) = (m : Int) := by omega
  have HMX := hide (show 1 ≤ m ∧ m ≤ most by omega)
  clear hmx
  generalize hW : World.setCell w8 _ _ = v8
  have HS9 := hide (show SpS w v8 T A n c l (a + 3 + 1 + 1 + 1) w.heap.size (w.heap.size + 1) ⟨f, g, f5, f6, (m : Int), lm (rn r), lm r.den, lm (rn s), lm s.den, lm (rn r5), lm r5.den, lm (rn r6), lm r6.den⟩ by
    rw [← hW]
    refine HS8.out.put HPW.out (by omega) (by omega) (fr1 8 _) ?_ (s' := ⟨f, g, f5, f6, (m : Int), lm (rn r), lm r.den, lm (rn s), lm s.den, lm (rn r5), lm r5.den, lm (rn r6), lm r6.den⟩) ⟨HS8.out.q.l.one (fr1 8 _) HS8.out.b.nb, HS8.out.q.h.one (fr1 8 _) HS8.out.b.nb, HS8.out.q.a.one (fr1 8 _) HS8.out.b.nb, HS8.out.q.b.one (fr1 8 _) HS8.out.b.nb⟩ (by omega)
    have h9 := HS8.out.b.put 8 (.int .i64 (m : Int)) (by simp [Sv.cs]) (by simp)
    rw [hx1]
    exact h9)
  clear q0 q1 q2 q3 q4 q5 q6 q7 q8 qf qz
  clear hW
  have p0 := HS9.out.b.cell 0 _ rfl; have p1 := HS9.out.b.cell 1 _ rfl; have p2 := HS9.out.b.cell 2 _ rfl; have p3 := HS9.out.b.cell 3 _ rfl; have p4 := HS9.out.b.cell 4 _ rfl; have p5 := HS9.out.b.cell 5 _ rfl; have p6 := HS9.out.b.cell 6 _ rfl; have p7 := HS9.out.b.cell 7 _ rfl; have p8 := HS9.out.b.cell 8 _ rfl; have pf := HS9.out.b.fz; have pz := HS9.out.b.sz
  have t0 := HS9.out.r.cell 0 _ rfl; have t1 := HS9.out.r.cell 1 _ rfl; have t2 := HS9.out.r.cell 2 _ rfl; have t3 := HS9.out.r.cell 3 _ rfl; have t4 := HS9.out.r.cell 4 _ rfl; have t5 := HS9.out.r.cell 5 _ rfl; have t6 := HS9.out.r.cell 6 _ rfl; have t7 := HS9.out.r.cell 7 _ rfl; have t8 := HS9.out.r.cell 8 _ rfl
  have tf := HS9.out.r.fz
  have tz := HS9.out.r.sz
  dsimp only at p0 p1 p2 p3 p4 p5 p6 p7 p8
  go_wp2_with fail
  have hq9 := hide (fr9 (w := v8) (g := w.heap.size) (.slice f.A f.n f.c) (.slice f.B f.m f.d) (.slice g.A g.n g.c) (.slice g.B g.m g.d) (.slice f5.A f5.n f5.c) (.slice f5.B f5.m f5.d) (.slice f6.A f6.n f6.c) (.slice f6.B f6.m f6.d) (.int .i64 (m : Int)))
  generalize hW : World.setCell (World.setCell (World.setCell (World.setCell (World.setCell (World.setCell (World.setCell (World.setCell (World.setCell v8 _ _) _ _) _ _) _ _) _ _) _ _) _ _) _ _) _ _ = v10
  have HR10 := hide (show Cb v10 w.heap.size [.slice f.A f.n f.c, .slice f.B f.m f.d, .slice g.A g.n g.c, .slice g.B g.m g.d, .slice f5.A f5.n f5.c, .slice f5.B f5.m f5.d, .slice f6.A f6.n f6.c, .slice f6.B f6.m f6.d, .int .i64 (m : Int)] by rw [← hW]; exact (((((((((HS9.out.r.put 0 (.slice f.A f.n f.c) (by simp [z9]) (by simp)).put 1 (.slice f.B f.m f.d) (by simp [z9]) (by simp)).put 2 (.slice g.A g.n g.c) (by simp [z9]) (by simp)).put 3 (.slice g.B g.m g.d) (by simp [z9]) (by simp)).put 4 (.slice f5.A f5.n f5.c) (by simp [z9]) (by simp)).put 5 (.slice f5.B f5.m f5.d) (by simp [z9]) (by simp)).put 6 (.slice f6.A f6.n f6.c) (by simp [z9]) (by simp)).put 7 (.slice f6.B f6.m f6.d) (by simp [z9]) (by simp)).put 8 (.int .i64 (m : Int)) (by simp [z9]) (by simp)))
  have HQ9 := hide (show Fr v8 v10 (fun b => b = w.heap.size) by rw [← hW]; exact hq9.out)
  clear hW hq9 p0 t0 p1 t1 p2 t2 p3 t3 p4 t4 p5 t5 p6 t6 p7 t7 p8 t8 pf tf pz tz
  have k0 := HR10.out.cell 0 _ rfl; have k1 := HR10.out.cell 1 _ rfl; have k2 := HR10.out.cell 2 _ rfl; have k3 := HR10.out.cell 3 _ rfl; have k4 := HR10.out.cell 4 _ rfl; have k5 := HR10.out.cell 5 _ rfl; have k6 := HR10.out.cell 6 _ rfl; have k7 := HR10.out.cell 7 _ rfl; have k8 := HR10.out.cell 8 _ rfl
  refine bodyPost_ret (v := .agg #[.slice f.A f.n f.c, .slice f.B f.m f.d, .slice g.A g.n g.c, .slice g.B g.m g.d, .slice f5.A f5.n f5.c, .slice f5.B f5.m f5.d, .slice f6.A f6.n f6.c, .slice f6.B f6.m f6.d, .int .i64 (m : Int)]) (by simp [results, Tryz.results18, go_sem, *]) rfl ⟨⟨f, g, f5, f6, (m : Int), lm (rn r), lm r.den, lm (rn s), lm s.den, lm (rn r5), lm r5.den, lm (rn r6), lm r6.den⟩, r, s, r5, r6, m, a + 3 + 1 + 1 + 1, rfl, HS9.out.q.one HQ9.out HS9.out.r.nb, ⟨fracOf_self (o := some r) HOK.out.1, fracOf_self (o := some s) HOK.out.2, fracOf_self (o := some r5) HI5.out.2, fracOf_self (o := some r6) HI6.out.2, ⟨HCR.out, HRS.out.1, lt_tr HRS.out.2.1 HRS.out.2.2⟩, ⟨HCS.out, lt_tr HRS.out.1 HRS.out.2.1, HRS.out.2.2⟩, HI5.out.1, HI6.out.1, HRS.out.2.1, rfl, HMX.out.1, Nat.le_trans HMX.out.2 hm2⟩, HMX.out.2, HPW.out.one HS9.out.tp (Nat.le_refl _) HQ9.out, by omega, HS9.out.fr.step HQ9.out (fun i hi e => by omega)⟩
end Go.Proofs.YtnokfhkcfebimaaGreat
