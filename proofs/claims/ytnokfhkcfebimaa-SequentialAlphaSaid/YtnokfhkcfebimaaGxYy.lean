/- The walk of the law SequentialAlpha. -/
import Derived.Test.YtnokfhkcfebimaaG26
import Derived.Test.YtnokfhkcfebimaaG31
set_option linter.unusedVariables false
set_option linter.unusedSimpArgs false

/- The walk of the law SequentialAlpha. -/
namespace Go.Proofs.Ytnokfhkcfebimaa
open Go.RowKit

theorem ratQ00 (l h : Rat) : ratQ l h 0 0 = 1 := by
  unfold ratQ
  rw [Rat.pow_zero, Rat.pow_zero]
  decide +kernel
theorem alpha_le {l h a b : Rat} (hl : Inn l) (hh : Inn h) (ha : Inn a) (M : Nat) : val (decQ l h a b) l gF M 0 0 ≤ a := by
  have := val_alpha (b := b) hl hh ha M 0 0
  rwa [ratQ00, Rat.mul_one] at this
theorem beta_le {l h a b : Rat} (hl : Inn l) (hb : Inn b) (M : Nat) : val (decQ l h a b) h gS M 0 0 ≤ b := by
  have := val_beta (h := h) (a := a) hl hb M 0 0
  rwa [ratQ00, Rat.mul_one] at this
/-- A box with odds. -/
structure OdB (v : World) (g : Nat) (f0 f2 f4 : Fa) (r0 r2 r4 : Rat) : Prop where
  cb : Cb v g [.slice f0.A f0.n f0.c, .slice f0.B f0.m f0.d, .slice f2.A f2.n f2.c, .slice f2.B f2.m f2.d, .slice f4.A f4.n f4.c, .slice f4.B f4.m f4.d]
  o0 : Fo v f0 (some r0)
  o2 : Fo v f2 (some r2)
  o4 : Fo v f4 (some r4)
theorem OdB.below {v v' : World} {g : Nat} {f0 f2 f4 : Fa} {r0 r2 r4 : Rat} (h : OdB v g f0 f2 f4 r0 r2 r4) (hb : Below v.heap.size v v') : OdB v' g f0 f2 f4 r0 r2 r4 := ⟨h.cb.below hb, h.o0.below hb, h.o2.below hb, h.o4.below hb⟩
theorem OdB.mk0 {w : World} {f0 f2 f4 : Fa} {r0 r2 r4 : Rat} (h0 : Fo w f0 (some r0)) (h2 : Fo w f2 (some r2)) (h4 : Fo w f4 (some r4)) (t : TypeId) : OdB (w.alloc (.cells #[.slice f0.A f0.n f0.c, .slice f0.B f0.m f0.d, .slice f2.A f2.n f2.c, .slice f2.B f2.m f2.d, .slice f4.A f4.n f4.c, .slice f4.B f4.m f4.d] t)) w.heap.size f0 f2 f4 r0 r2 r4 :=
  ⟨Cb.mk0 _ (by simp) _ rfl, h0.alloc _, h2.alloc _, h4.alloc _⟩
theorem OdB.ca {v : World} {g : Nat} {f0 f2 f4 : Fa} {r0 r2 r4 : Rat} (h : OdB v g f0 f2 f4 r0 r2 r4) : v.cell? ⟨g, 0, none⟩ = some (.slice f0.A f0.n f0.c) ∧ v.cell? ⟨g, 1, none⟩ = some (.slice f0.B f0.m f0.d) ∧ v.cell? ⟨g, 2, none⟩ = some (.slice f2.A f2.n f2.c) ∧ v.cell? ⟨g, 3, none⟩ = some (.slice f2.B f2.m f2.d) ∧ v.cell? ⟨g, 4, none⟩ = some (.slice f4.A f4.n f4.c) ∧ v.cell? ⟨g, 5, none⟩ = some (.slice f4.B f4.m f4.d) ∧ g < v.heap.size :=
  ⟨h.cb.cell 0 _ rfl, h.cb.cell 1 _ rfl, h.cb.cell 2 _ rfl, h.cb.cell 3 _ rfl, h.cb.cell 4 _ rfl, h.cb.cell 5 _ rfl, h.cb.sz⟩
set_option maxRecDepth 100000 in
set_option maxHeartbeats 16000000 in
theorem alpha_walk (w : World) (A : Option Addr) (n c : Nat) (l : List Int) (hA : Rs w none 1 iv A l) (hl : l.length = n) :
    Calls Try.prog 8 #[.slice A n c] w fun e w' => e = .returned (.bool true) ∧ Below w.heap.size w w' := by
  have HP := hide (tp_new (w := w) (c := c) hA hl 32)
  clear hA hl
  go_enter Try.func8, Try.ntmps8
  go_upto_region 2 with (go_at_call 19; refine (yspec_any _ w.heap.size A n c l 0 16 HP.out (by omega) (by omega) (by omega)).mono ?_; rintro e w1 ⟨s, lo, hi, al, be, M, b, rfl, hq, hk, hM, -, -, hf⟩; have HB1 := hide (fr_new rfl hf); have HQ1 := hide hq; have HK := hide hk; clear hq hk hf)
  generalize hW : World.alloc w1 _ = v
  have HF := hide (show FS w v w1.heap.size s by rw [← hW]; exact ⟨HB1.out.trans (((Below.refl _ _).alloc (Nat.le_refl _) _ : Below w1.heap.size w1 _).mono HB1.out.size), (FS.mk0 HQ1.out _).cb, HQ1.out.alloc _⟩)
  obtain ⟨g, hg⟩ : ∃ g, g = w1.heap.size := ⟨_, rfl⟩
  rw [← hg] at HF ⊢
  obtain ⟨a0, a1, a2, a3, a4, a5, a6, a7, a8, a9⟩ := HF.out.ca
  clear hW hg
  go_upto_region 3 with (go_at_call 36; (with_reducible refine (serrors_ok _ s lo hi al be M s.l lo HF.out.q HK.out (fo_of HF.out.q.l HK.out.fl) HK.out.il.c).mono ?_); rintro e w2 ⟨x0, x2, x4, rfl, h0, h2, h4, hb⟩; have HO2 := hide (And.intro h0 (And.intro h2 h4)); have HF2 := hide (HF.out.below hb); clear h0 h2 h4 hb)
  generalize hW : World.alloc w2 _ = v2
  have HF3 := hide (show FS w v2 g s by rw [← hW]; exact HF2.out.alloc _)
  have HX3 := hide (show OdB v2 w2.heap.size x0 x2 x4 _ _ _ by rw [← hW]; exact OdB.mk0 HO2.out.1 HO2.out.2.1 HO2.out.2.2 _)
  obtain ⟨g2, hg2⟩ : ∃ g, g = w2.heap.size := ⟨_, rfl⟩
  rw [← hg2] at HX3 ⊢
  obtain ⟨b0, b1, b2, b3, b4, b5, b6, b7, b8, b9⟩ := HF3.out.ca
  clear hW hg2 a0 a1 a2 a3 a4 a5 a6 a7 a8 a9
  go_upto_region 4 with (go_at_call 36; (with_reducible refine (serrors_ok _ s lo hi al be M s.h hi HF3.out.q HK.out (fo_of HF3.out.q.h HK.out.fh) HK.out.ih.c).mono ?_); rintro e w3 ⟨y0, y2, y4, rfl, h0, h2, h4, hb⟩; have HO3 := hide (And.intro h0 (And.intro h2 h4)); have HF4 := hide (HF3.out.below hb); have HX4 := hide (HX3.out.below hb); clear h0 h2 h4 hb)
  generalize hW : World.alloc w3 _ = v3
  have HF5 := hide (show FS w v3 g s by rw [← hW]; exact HF4.out.alloc _)
  have HX5 := hide (show OdB v3 g2 x0 x2 x4 _ _ _ by rw [← hW]; exact HX4.out.below ((Below.refl _ _).alloc (Nat.le_refl _) _))
  have HY5 := hide (show OdB v3 w3.heap.size y0 y2 y4 _ _ _ by rw [← hW]; exact OdB.mk0 HO3.out.1 HO3.out.2.1 HO3.out.2.2 _)
  obtain ⟨g3, hg3⟩ : ∃ g, g = w3.heap.size := ⟨_, rfl⟩
  rw [← hg3] at HY5 ⊢
  obtain ⟨c0, c1, c2, c3, c4, c5, c6, c7, c8, c9⟩ := HF5.out.ca
  obtain ⟨k0, k1, k2, k3, k4, k5, k6⟩ := HX5.out.ca
  obtain ⟨m0, m1, m2, m3, m4, m5, m6⟩ := HY5.out.ca
  clear hW hg3 b0 b1 b2 b3 b4 b5 b6 b7 b8 b9
  go_wp2_with (first
    | (go_at_call 24; (with_reducible refine (yknown_any _).mono ?_); rintro e w9 ⟨rfl, hb⟩; have HB9 := hide (HF7.out.bw.trans (hb.mono HF7.out.bw.size)); clear hb)
    | (go_at_call 37; (with_reducible refine (fcmp_le _ y2 s.b _ be HY6.out.o2 (fo_of HF6.out.q.b HK.out.fb) (beta_le HK.out.il HK.out.ib M)).mono ?_); rintro e w7 ⟨z2, rfl, hz2, hb⟩; have HF7 := hide (HF6.out.below hb); have hzz2 : decide (z2 ≤ 0) = true := decide_eq_true hz2; clear hb)
    | (go_at_call 37; (with_reducible refine (fcmp_le _ x0 s.a _ al HX5.out.o0 (fo_of HF5.out.q.a HK.out.fa) (alpha_le HK.out.il HK.out.ih HK.out.ia M)).mono ?_); rintro e w6 ⟨z1, rfl, hz1, hb⟩; have HF6 := hide (HF5.out.below hb); have HY6 := hide (HY5.out.below hb); have hzz1 : decide (z1 ≤ 0) = true := decide_eq_true hz1; obtain ⟨n0, n1, n2, n3, n4, n5, n6⟩ := HY6.out.ca; obtain ⟨d0, d1, d2, d3, d4, d5, d6, d7, d8, d9⟩ := HF6.out.ca; clear hb))
  go_ret
  exact ⟨rfl, HB9.out⟩
end Go.Proofs.Ytnokfhkcfebimaa
