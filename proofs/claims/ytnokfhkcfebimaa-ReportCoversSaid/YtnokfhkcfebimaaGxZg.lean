/- The walk of the law ReportCovers. -/
import Derived.Test.YtnokfhkcfebimaaG26
import Derived.Test.YtnokfhkcfebimaaG31
import Derived.Test.YtnokfhkcfebimaaG33
set_option linter.unusedVariables false
set_option linter.unusedSimpArgs false

/- The walk of the law SequentialAlpha. -/
namespace Go.Proofs.Ytnokfhkcfebimaa
open Go.RowKit

theorem ratQ00 (l h : Rat) : ratQ l h 0 0 = 1 := by
  unfold ratQ
  rw [Rat.pow_zero, Rat.pow_zero]
  decide +kernel
theorem alpha_le {l h a b : Rat} (hl : Inn l) (hh : Inn h) (ha : Inn a) (M : Nat) : val (decQ l h a b) l gF M 0 0 ≤ a := by
  have := val_alpha (b := b) hl hh ha M 0 0
  rwa [ratQ00, Rat.mul_one] at this
theorem beta_le {l h a b : Rat} (hl : Inn l) (hb : Inn b) (M : Nat) : val (decQ l h a b) h gS M 0 0 ≤ b := by
  have := val_beta (h := h) (a := a) hl hb M 0 0
  rwa [ratQ00, Rat.mul_one] at this
/-- A box with odds. -/
structure OdB (v : World) (g : Nat) (f0 f2 f4 : Fa) (r0 r2 r4 : Rat) : Prop where
  cb : Cb v g [.slice f0.A f0.n f0.c, .slice f0.B f0.m f0.d, .slice f2.A f2.n f2.c, .slice f2.B f2.m f2.d, .slice f4.A f4.n f4.c, .slice f4.B f4.m f4.d]
  o0 : Fo v f0 (some r0)
  o2 : Fo v f2 (some r2)
  o4 : Fo v f4 (some r4)
theorem OdB.below {v v' : World} {g : Nat} {f0 f2 f4 : Fa} {r0 r2 r4 : Rat} (h : OdB v g f0 f2 f4 r0 r2 r4) (hb : Below v.heap.size v v') : OdB v' g f0 f2 f4 r0 r2 r4 := ⟨h.cb.below hb, h.o0.below hb, h.o2.below hb, h.o4.below hb⟩
theorem OdB.mk0 {w : World} {f0 f2 f4 : Fa} {r0 r2 r4 : Rat} (h0 : Fo w f0 (some r0)) (h2 : Fo w f2 (some r2)) (h4 : Fo w f4 (some r4)) (t : TypeId) : OdB (w.alloc (.cells #[.slice f0.A f0.n f0.c, .slice f0.B f0.m f0.d, .slice f2.A f2.n f2.c, .slice f2.B f2.m f2.d, .slice f4.A f4.n f4.c, .slice f4.B f4.m f4.d] t)) w.heap.size f0 f2 f4 r0 r2 r4 :=
  ⟨Cb.mk0 _ (by simp) _ rfl, h0.alloc _, h2.alloc _, h4.alloc _⟩
theorem OdB.ca {v : World} {g : Nat} {f0 f2 f4 : Fa} {r0 r2 r4 : Rat} (h : OdB v g f0 f2 f4 r0 r2 r4) : v.cell? ⟨g, 0, none⟩ = some (.slice f0.A f0.n f0.c) ∧ v.cell? ⟨g, 1, none⟩ = some (.slice f0.B f0.m f0.d) ∧ v.cell? ⟨g, 2, none⟩ = some (.slice f2.A f2.n f2.c) ∧ v.cell? ⟨g, 3, none⟩ = some (.slice f2.B f2.m f2.d) ∧ v.cell? ⟨g, 4, none⟩ = some (.slice f4.A f4.n f4.c) ∧ v.cell? ⟨g, 5, none⟩ = some (.slice f4.B f4.m f4.d) ∧ g < v.heap.size :=
  ⟨h.cb.cell 0 _ rfl, h.cb.cell 1 _ rfl, h.cb.cell 2 _ rfl, h.cb.cell 3 _ rfl, h.cb.cell 4 _ rfl, h.cb.cell 5 _ rfl, h.cb.sz⟩
set_option maxRecDepth 100000 in
set_option maxHeartbeats 16000000 in
theorem alpha_walk (w : World) (A : Option Addr) (n c : Nat) (l : List Int) (hA : Rs w none 1 iv A l) (hl : l.length = n) :
    Calls Try.prog 8 #[.slice A n c] w fun e w' => e = .returned (.bool true) ∧ Below w.heap.size w w' := by
  have HP := hide (tp_new (w := w) (c := c) hA hl 32)
  clear hA hl
  go_enter Try.func8, Try.ntmps8
  go_upto_region 2 with (go_at_call 19; refine (yspec_any _ w.heap.size A n c l 0 16 HP.out (by omega) (by omega) (by omega)).mono ?_; rintro e w1 ⟨s, lo, hi, al, be, M, b, rfl, hq, hk, hM, -, -, hf⟩; have HB1 := hide (fr_new rfl hf); have HQ1 := hide hq; have HK := hide hk; clear hq hk hf)
  generalize hW : World.alloc w1 _ = v
  have HF := hide (show FS w v w1.heap.size s by rw [← hW]; exact ⟨HB1.out.trans (((Below.refl _ _).alloc (Nat.le_refl _) _ : Below w1.heap.size w1 _).mono HB1.out.size), (FS.mk0 HQ1.out _).cb, HQ1.out.alloc _⟩)
  obtain ⟨g, hg⟩ : ∃ g, g = w1.heap.size := ⟨_, rfl⟩
  rw [← hg] at HF ⊢
  obtain ⟨a0, a1, a2, a3, a4, a5, a6, a7, a8, a9⟩ := HF.out.ca
  clear hW hg
  go_upto_region 3 with (go_at_call 36; (with_reducible refine (serrors_ok _ s lo hi al be M s.l lo HF.out.q HK.out (fo_of HF.out.q.l HK.out.fl) HK.out.il.c).mono ?_); rintro e w2 ⟨x0, x2, x4, rfl, h0, h2, h4, hb⟩; have HO2 := hide (And.intro h0 (And.intro h2 h4)); have HF2 := hide (HF.out.below hb); clear h0 h2 h4 hb)
  generalize hW : World.alloc w2 _ = v2
  have HF3 := hide (show FS w v2 g s by rw [← hW]; exact HF2.out.alloc _)
  have HX3 := hide (show OdB v2 w2.heap.size x0 x2 x4 _ _ _ by rw [← hW]; exact OdB.mk0 HO2.out.1 HO2.out.2.1 HO2.out.2.2 _)
  obtain ⟨g2, hg2⟩ : ∃ g, g = w2.heap.size := ⟨_, rfl⟩
  rw [← hg2] at HX3 ⊢
  obtain ⟨b0, b1, b2, b3, b4, b5, b6, b7, b8, b9⟩ := HF3.out.ca
  clear hW hg2 a0 a1 a2 a3 a4 a5 a6 a7 a8 a9
  go_upto_region 4 with (go_at_call 36; (with_reducible refine (serrors_ok _ s lo hi al be M s.h hi HF3.out.q HK.out (fo_of HF3.out.q.h HK.out.fh) HK.out.ih.c).mono ?_); rintro e w3 ⟨y0, y2, y4, rfl, h0, h2, h4, hb⟩; have HO3 := hide (And.intro h0 (And.intro h2 h4)); have HF4 := hide (HF3.out.below hb); have HX4 := hide (HX3.out.below hb); clear h0 h2 h4 hb)
  generalize hW : World.alloc w3 _ = v3
  have HF5 := hide (show FS w v3 g s by rw [← hW]; exact HF4.out.alloc _)
  have HX5 := hide (show OdB v3 g2 x0 x2 x4 _ _ _ by rw [← hW]; exact HX4.out.below ((Below.refl _ _).alloc (Nat.le_refl _) _))
  have HY5 := hide (show OdB v3 w3.heap.size y0 y2 y4 _ _ _ by rw [← hW]; exact OdB.mk0 HO3.out.1 HO3.out.2.1 HO3.out.2.2 _)
  obtain ⟨g3, hg3⟩ : ∃ g, g = w3.heap.size := ⟨_, rfl⟩
  rw [← hg3] at HY5 ⊢
  obtain ⟨c0, c1, c2, c3, c4, c5, c6, c7, c8, c9⟩ := HF5.out.ca
  obtain ⟨k0, k1, k2, k3, k4, k5, k6⟩ := HX5.out.ca
  obtain ⟨m0, m1, m2, m3, m4, m5, m6⟩ := HY5.out.ca
  clear hW hg3 b0 b1 b2 b3 b4 b5 b6 b7 b8 b9
  go_wp2_with (first
    | (go_at_call 24; (with_reducible refine (yknown_any _).mono ?_); rintro e w9 ⟨rfl, hb⟩; have HB9 := hide (HF7.out.bw.trans (hb.mono HF7.out.bw.size)); clear hb)
    | (go_at_call 37; (with_reducible refine (fcmp_le _ y2 s.b _ be HY6.out.o2 (fo_of HF6.out.q.b HK.out.fb) (beta_le HK.out.il HK.out.ib M)).mono ?_); rintro e w7 ⟨z2, rfl, hz2, hb⟩; have HF7 := hide (HF6.out.below hb); have hzz2 : decide (z2 ≤ 0) = true := decide_eq_true hz2; clear hb)
    | (go_at_call 37; (with_reducible refine (fcmp_le _ x0 s.a _ al HX5.out.o0 (fo_of HF5.out.q.a HK.out.fa) (alpha_le HK.out.il HK.out.ih HK.out.ia M)).mono ?_); rintro e w6 ⟨z1, rfl, hz1, hb⟩; have HF6 := hide (HF5.out.below hb); have HY6 := hide (HY5.out.below hb); have hzz1 : decide (z1 ≤ 0) = true := decide_eq_true hz1; obtain ⟨n0, n1, n2, n3, n4, n5, n6⟩ := HY6.out.ca; obtain ⟨d0, d1, d2, d3, d4, d5, d6, d7, d8, d9⟩ := HF6.out.ca; clear hb))
  go_ret
  exact ⟨rfl, HB9.out⟩
end Go.Proofs.Ytnokfhkcfebimaa

/- The walk of the law SequentialBeyond. -/
namespace Go.Proofs.Ytnokfhkcfebimaa
open Go.RowKit

theorem fcmp_sgn (w : World) (a b : Fa) (r s : Rat) (ha : Fo w a (some r)) (hb : Fo w b (some s)) : Calls Try.prog 37 #[.agg #[.slice a.A a.n a.c, .slice a.B a.m a.d], .agg #[.slice b.A b.n b.c, .slice b.B b.m b.d]] w fun e w' => ∃ z : Int, e = .returned (.int .i64 z) ∧ (z ≤ 0 ↔ r ≤ s) ∧ (z < 0 ↔ r < s) ∧ (0 < z ↔ s < r) ∧ (0 ≤ z ↔ s ≤ r) ∧ Below w.heap.size w w' :=
  (fcmp_o w a b _ _ ha hb).mono fun e w' ⟨h1, h2⟩ => ⟨_, h1, cmpQ_le, cmpQ_neg, cmpQ_pos, cmpQ_ge, h2⟩
/-- What the law compares. -/
structure BY (w0 v : World) (g : Nat) (s : Sv) (b5 : Nat) (fp : Fa) (rp : Rat) (b6 : Nat) (fq : Fa) (rq : Rat) (g7 : Nat) (x0 x2 x4 : Fa) (r0 r2 r4 : Rat) (g9 : Nat) (y0 y2 y4 : Fa) (q0 q2 q4 : Rat) : Prop where
  f : FS w0 v g s
  p : Bf v b5 fp rp
  q : Bf v b6 fq rq
  x : OdB v g7 x0 x2 x4 r0 r2 r4
  y : OdB v g9 y0 y2 y4 q0 q2 q4
theorem BY.below {w0 v v' : World} {g : Nat} {s : Sv} {b5 : Nat} {fp : Fa} {rp : Rat} {b6 : Nat} {fq : Fa} {rq : Rat} {g7 : Nat} {x0 x2 x4 : Fa} {r0 r2 r4 : Rat} {g9 : Nat} {y0 y2 y4 : Fa} {q0 q2 q4 : Rat} (h : BY w0 v g s b5 fp rp b6 fq rq g7 x0 x2 x4 r0 r2 r4 g9 y0 y2 y4 q0 q2 q4) (hb : Below v.heap.size v v') : BY w0 v' g s b5 fp rp b6 fq rq g7 x0 x2 x4 r0 r2 r4 g9 y0 y2 y4 q0 q2 q4 :=
  ⟨h.f.below hb, h.p.below hb, h.q.below hb, h.x.below hb, h.y.below hb⟩
set_option maxRecDepth 100000 in
set_option maxHeartbeats 16000000 in
theorem beyond_walk (w : World) (A : Option Addr) (n c : Nat) (l : List Int) (hA : Rs w none 1 iv A l) (hl : l.length = n) :
    Calls Try.prog 9 #[.slice A n c] w fun e w' => e = .returned (.bool true) ∧ Below w.heap.size w w' := by
  have HP := hide (tp_new (w := w) (c := c) hA hl 32)
  clear hA hl
  go_enter Try.func9, Try.ntmps9
  go_upto_region 3 with (go_at_call 19; refine (yspec_any _ w.heap.size A n c l 0 12 HP.out (by omega) (by omega) (by omega)).mono ?_; rintro e w1 ⟨s, lo, hi, al, be, M, b, rfl, hq, hk, hM, hp, hb, hf⟩; have HFr := hide hf; have HQ1 := hide hq; have HK := hide hk; have HT1 := hide hp; clear hq hk hf hp)
  generalize hW : World.alloc w1 _ = v
  have HB1 := hide (fr_new rfl HFr.out)
  have HF := hide (show FS w v w1.heap.size s by rw [← hW]; exact ⟨HB1.out.trans (((Below.refl _ _).alloc (Nat.le_refl _) _ : Below w1.heap.size w1 _).mono HB1.out.size), (FS.mk0 HQ1.out _).cb, HQ1.out.alloc _⟩)
  have HT := hide (show Tp v w.heap.size A n c l b by rw [← hW]; exact HT1.out.alloc _)
  have hgT : w.heap.size < w1.heap.size := HT1.out.t.1
  obtain ⟨g, hg⟩ : ∃ g, g = w1.heap.size := ⟨_, rfl⟩
  rw [← hg] at HF hgT ⊢
  clear hW hg
  go_upto_region 4 with (first
    | (go_at_call 32; refine (chancem_any _ w.heap.size A n c l (b + 2) HT3.out (by omega)).mono ?_; rintro e w4 ⟨f6, r6, rfl, ho, hc6, hp, hf⟩; have HO6 := hide (And.intro ho hc6); have HO5b := hide (HO5.out.1.one hf HT3.out.nb); have HF4 := hide (show FS w w4 g s from ⟨((Fr.of_below (fun b => b = w.heap.size) HF3.out.bw).trans hf).below (Nat.le_refl _) (fun k hk e => by omega), HF3.out.cb.one hf (by omega), HF3.out.q.one hf HT3.out.nb⟩); clear ho hp hf hc6)
    | (go_at_call 32; refine (chancem_any _ w.heap.size A n c l b HT.out (by omega)).mono ?_; rintro e w3 ⟨f5, r5, rfl, ho, hc5, hp, hf⟩; have HO5 := hide (And.intro ho hc5); have HT3 := hide hp; have HF3 := hide (show FS w w3 g s from ⟨((Fr.of_below (fun b => b = w.heap.size) HF.out.bw).trans hf).below (Nat.le_refl _) (fun k hk e => by omega), HF.out.cb.one hf (by omega), HF.out.q.one hf HT.out.nb⟩); clear ho hp hf hc5))
  generalize hW : World.alloc (World.alloc w4 _) _ = v4
  have HF5 := hide (show FS w v4 g s by rw [← hW]; exact (HF4.out.alloc _).alloc _)
  have HB5 := hide (show Bf v4 w4.heap.size f5 r5 by rw [← hW]; exact ⟨(Bq.mk0 _ f5 rfl).alloc _, (HO5b.out.alloc _).alloc _⟩)
  have HB6 := hide (show Bf v4 (w4.heap.size + 1) f6 r6 by rw [← hW]; exact ⟨Bq.mk0 _ f6 (by simp), (HO6.out.1.alloc _).alloc _⟩)
  have hgz : g < w4.heap.size := HF4.out.cb.sz
  have hwz := HF4.out.bw.size
  obtain ⟨bx6, hb6⟩ : ∃ b, b = w4.heap.size + 1 := ⟨_, rfl⟩
  have hbb : bx6 = w4.heap.size + 1 := hb6
  rw [← hb6] at HB6 ⊢
  obtain ⟨bx5, hb5⟩ : ∃ b, b = w4.heap.size := ⟨_, rfl⟩
  rw [← hb5] at HB5 hbb hgz hwz ⊢
  have m0 := HB5.out.b.c0
  have m1 := HB5.out.b.c1
  have m2 := HB6.out.b.c0
  have m3 := HB6.out.b.c1
  have HBB := hide (And.intro hbb (And.intro hgz hwz))
  clear hW hb5 hb6 hbb hgz hwz
  by_cases hle : r5 ≤ r6
  · go_upto_region 6 with (go_at_call 37; (with_reducible refine (fcmp_sgn _ f5 f6 r5 r6 HB5.out.o HB6.out.o).mono ?_); rintro e w6 ⟨z0, rfl, hz1, hz2, hz3, hz4, hb⟩; have hzz : decide (0 < z0) = false := decide_eq_false (fun h => absurd (hz3.1 h) (Rat.not_lt.2 hle)); have hzy : z0 ≤ 0 := hz1.2 hle; have HF7 := hide (HF5.out.below hb); have HBp := hide (HB5.out.below hb); have HBq := hide (HB6.out.below hb); have p0 := HBp.out.b.c0; have p1 := HBp.out.b.c1; obtain ⟨a0, a1, a2, a3, a4, a5, a6, a7, a8, a9⟩ := HF7.out.ca; clear hz1 hz2 hz3 hz4 hb)
    have HPQ := hide (And.intro HO5.out.2 (And.intro HO6.out.2 hle))
    clear m0 m1 m2 m3 hle hzz hzy
    have hcp0 := HPQ.out
    go_upto_region 7 with (go_at_call 36; (with_reducible refine (serrors_ok _ s lo hi al be M f5 r5 HF7.out.q HK.out HBp.out.o HPQ.out.1).mono ?_); rintro e w7 ⟨x0, x2, x4, rfl, h0, h2, h4, hb⟩; have HO7 := hide (And.intro h0 (And.intro h2 h4)); have HF8 := hide (HF7.out.below hb); have HBp8 := hide (HBp.out.below hb); have HBq8 := hide (HBq.out.below hb); clear h0 h2 h4 hb)
    generalize hW : World.alloc w7 _ = v7
    have HF9 := hide (show FS w v7 g s by rw [← hW]; exact HF8.out.alloc _)
    have HX9 := hide (show OdB v7 w7.heap.size x0 x2 x4 _ _ _ by rw [← hW]; exact OdB.mk0 HO7.out.1 HO7.out.2.1 HO7.out.2.2 _)
    have HBp9 := hide (show Bf v7 bx5 f5 r5 by rw [← hW]; exact HBp8.out.alloc _)
    have HBq9 := hide (show Bf v7 bx6 f6 r6 by rw [← hW]; exact HBq8.out.alloc _)
    obtain ⟨g7, hg7⟩ : ∃ g, g = w7.heap.size := ⟨_, rfl⟩
    rw [← hg7] at HX9 ⊢
    obtain ⟨b0, b1, b2, b3, b4, b5, b6, b7, b8, b9⟩ := HF9.out.ca
    have u0 := HBq9.out.b.c0
    have u1 := HBq9.out.b.c1
    clear hW hg7 a0 a1 a2 a3 a4 a5 a6 a7 a8 a9 p0 p1 hcp0
    go_upto_region 8 with (go_at_call 36; (with_reducible refine (serrors_ok _ s lo hi al be M f6 r6 HF9.out.q HK.out HBq9.out.o HPQ.out.2.1).mono ?_); rintro e w8 ⟨y0, y2, y4, rfl, h0, h2, h4, hb⟩; have HO8 := hide (And.intro h0 (And.intro h2 h4)); have HFa := hide (HF9.out.below hb); have HBpa := hide (HBp9.out.below hb); have HBqa := hide (HBq9.out.below hb); have HXa := hide (HX9.out.below hb); clear h0 h2 h4 hb)
    generalize hW : World.alloc w8 _ = v8
    have HY0 := hide (show BY w v8 g s bx5 f5 r5 bx6 f6 r6 g7 x0 x2 x4 _ _ _ w8.heap.size y0 y2 y4 _ _ _ by rw [← hW]; exact ⟨HFa.out.alloc _, HBpa.out.alloc _, HBqa.out.alloc _, HXa.out.below ((Below.refl _ _).alloc (Nat.le_refl _) _), OdB.mk0 HO8.out.1 HO8.out.2.1 HO8.out.2.2 _⟩)
    obtain ⟨g9, hg9⟩ : ∃ g, g = w8.heap.size := ⟨_, rfl⟩
    rw [← hg9] at HY0 ⊢
    have HMF := hide (val_monoF (decQ_range lo hi al be) (dec_up HK.out.il HK.out.ih HK.out.lt) (dec_down HK.out.il HK.out.ih HK.out.lt) HPQ.out.1.h0 HPQ.out.2.1.h1 HPQ.out.2.2 M 0 0)
    have HMS := hide (val_monoS (decQ_range lo hi al be) (dec_up HK.out.il HK.out.ih HK.out.lt) (dec_down HK.out.il HK.out.ih HK.out.lt) HPQ.out.1.h0 HPQ.out.2.1.h1 HPQ.out.2.2 M 0 0)
    have l0 := HY0.out.x.cb.cell 0 _ rfl
    have l1 := HY0.out.x.cb.cell 1 _ rfl
    have l2 := HY0.out.y.cb.cell 0 _ rfl
    have l3 := HY0.out.y.cb.cell 1 _ rfl
    clear hW hg9 b0 b1 b2 b3 b4 b5 b6 b7 b8 b9 u0 u1
    by_cases hcp : r5 ≤ lo
    · have HFA := hide (show val (decQ lo hi al be) r5 gF M 0 0 ≤ al from Rat.le_trans (val_monoF (decQ_range lo hi al be) (dec_up HK.out.il HK.out.ih HK.out.lt) (dec_down HK.out.il HK.out.ih HK.out.lt) HPQ.out.1.h0 HK.out.il.c.h1 hcp M 0 0) (alpha_le HK.out.il HK.out.ih HK.out.ia M))
      by_cases hcq : r6 < hi
      · skip
        go_wp2_with (first
          | (go_at_call 24; (with_reducible refine (yknown_any _).mono ?_); rintro e w9 ⟨rfl, hb⟩; have HB9 := hide (HY5.out.f.bw.trans (hb.mono HY5.out.f.bw.size)); clear hb)
          | (go_at_call 37; (with_reducible refine (fcmp_sgn _ f6 s.h r6 hi HY4.out.q.o (fo_of HY4.out.f.q.h HK.out.fh)).mono ?_); rintro e w14 ⟨z5, rfl, hz51, hz52, hz53, hz54, hb⟩; have hzz5 : decide (z5 < 0) = true := decide_eq_true (hz52.2 hcq); have hzy5 : z5 < 0 := hz52.2 hcq; have HY5 := hide (HY4.out.below hb); have e0 := HY5.out.y.cb.cell 2 _ rfl; have e1 := HY5.out.y.cb.cell 3 _ rfl; have e2 := HY5.out.f.cb.cell 6 _ rfl; have e3 := HY5.out.f.cb.cell 7 _ rfl; clear hz51 hz52 hz53 hz54 hb)
          | (go_at_call 37; (with_reducible refine (fcmp_sgn _ x0 s.a _ al HY3.out.x.o0 (fo_of HY3.out.f.q.a HK.out.fa)).mono ?_); rintro e w13 ⟨z4, rfl, hz41, hz42, hz43, hz44, hb⟩; have hzz4 : decide (0 < z4) = false := decide_eq_false (fun h => absurd (hz43.1 h) (Rat.not_lt.2 HFA.out)); have hzy4 : z4 ≤ 0 := hz41.2 HFA.out; have HY4 := hide (HY3.out.below hb); have d4 := HY4.out.q.b.c0; have d5 := HY4.out.q.b.c1; have d6 := HY4.out.f.cb.cell 2 _ rfl; have d7 := HY4.out.f.cb.cell 3 _ rfl; clear hz41 hz42 hz43 hz44 hb)
          | (go_at_call 37; (with_reducible refine (fcmp_sgn _ f5 s.l r5 lo HY2.out.p.o (fo_of HY2.out.f.q.l HK.out.fl)).mono ?_); rintro e w12 ⟨z3, rfl, hz31, hz32, hz33, hz34, hb⟩; have hzz3 : decide (z3 ≤ 0) = true := decide_eq_true (hz31.2 hcp); have hzy3 : z3 ≤ 0 := hz31.2 hcp; have HY3 := hide (HY2.out.below hb); have d0 := HY3.out.x.cb.cell 0 _ rfl; have d1 := HY3.out.x.cb.cell 1 _ rfl; have d2 := HY3.out.f.cb.cell 4 _ rfl; have d3 := HY3.out.f.cb.cell 5 _ rfl; have d4 := HY3.out.q.b.c0; have d5 := HY3.out.q.b.c1; have d6 := HY3.out.f.cb.cell 2 _ rfl; have d7 := HY3.out.f.cb.cell 3 _ rfl; clear hz31 hz32 hz33 hz34 hb)
          | (go_at_call 37; (with_reducible refine (fcmp_sgn _ x2 y2 _ _ HY1.out.x.o2 HY1.out.y.o2).mono ?_); rintro e w11 ⟨z2, rfl, hz21, hz22, hz23, hz24, hb⟩; have hzz2 : decide (z2 < 0) = false := decide_eq_false (fun h => absurd (hz22.1 h) (Rat.not_lt.2 HMS.out)); have hzy2 : 0 ≤ z2 := hz24.2 HMS.out; have HY2 := hide (HY1.out.below hb); have c0 := HY2.out.p.b.c0; have c1 := HY2.out.p.b.c1; have c2 := HY2.out.f.cb.cell 0 _ rfl; have c3 := HY2.out.f.cb.cell 1 _ rfl; clear hz21 hz22 hz23 hz24 hb)
          | (go_at_call 37; (with_reducible refine (fcmp_sgn _ x0 y0 _ _ HY0.out.x.o0 HY0.out.y.o0).mono ?_); rintro e w10 ⟨z1, rfl, hz11, hz12, hz13, hz14, hb⟩; have hzz1 : decide (0 < z1) = false := decide_eq_false (fun h => absurd (hz13.1 h) (Rat.not_lt.2 HMF.out)); have hzy1 : z1 ≤ 0 := hz11.2 HMF.out; have HY1 := hide (HY0.out.below hb); have b0 := HY1.out.x.cb.cell 2 _ rfl; have b1 := HY1.out.x.cb.cell 3 _ rfl; have b2 := HY1.out.y.cb.cell 2 _ rfl; have b3 := HY1.out.y.cb.cell 3 _ rfl; clear hz11 hz12 hz13 hz14 hb))
        go_ret
        exact ⟨rfl, HB9.out⟩
      · have HSB := hide (show val (decQ lo hi al be) r6 gS M 0 0 ≤ be from Rat.le_trans (val_monoS (decQ_range lo hi al be) (dec_up HK.out.il HK.out.ih HK.out.lt) (dec_down HK.out.il HK.out.ih HK.out.lt) HK.out.ih.c.h0 HPQ.out.2.1.h1 (Rat.not_lt.1 hcq) M 0 0) (beta_le HK.out.il HK.out.ib M))
        go_wp2_with (first
          | (go_at_call 24; (with_reducible refine (yknown_any _).mono ?_); rintro e w9 ⟨rfl, hb⟩; have HB9 := hide (HY6.out.f.bw.trans (hb.mono HY6.out.f.bw.size)); clear hb)
          | (go_at_call 37; (with_reducible refine (fcmp_sgn _ y2 s.b _ be HY5.out.y.o2 (fo_of HY5.out.f.q.b HK.out.fb)).mono ?_); rintro e w15 ⟨z6, rfl, hz61, hz62, hz63, hz64, hb⟩; have hzz6 : decide (z6 ≤ 0) = true := decide_eq_true (hz61.2 HSB.out); have HY6 := hide (HY5.out.below hb); clear hz61 hz62 hz63 hz64 hb)
          | (go_at_call 37; (with_reducible refine (fcmp_sgn _ f6 s.h r6 hi HY4.out.q.o (fo_of HY4.out.f.q.h HK.out.fh)).mono ?_); rintro e w14 ⟨z5, rfl, hz51, hz52, hz53, hz54, hb⟩; have hzz5 : decide (z5 < 0) = false := decide_eq_false (fun h => hcq (hz52.1 h)); have hzy5 : 0 ≤ z5 := hz54.2 (Rat.not_lt.1 hcq); have HY5 := hide (HY4.out.below hb); have e0 := HY5.out.y.cb.cell 2 _ rfl; have e1 := HY5.out.y.cb.cell 3 _ rfl; have e2 := HY5.out.f.cb.cell 6 _ rfl; have e3 := HY5.out.f.cb.cell 7 _ rfl; clear hz51 hz52 hz53 hz54 hb)
          | (go_at_call 37; (with_reducible refine (fcmp_sgn _ x0 s.a _ al HY3.out.x.o0 (fo_of HY3.out.f.q.a HK.out.fa)).mono ?_); rintro e w13 ⟨z4, rfl, hz41, hz42, hz43, hz44, hb⟩; have hzz4 : decide (0 < z4) = false := decide_eq_false (fun h => absurd (hz43.1 h) (Rat.not_lt.2 HFA.out)); have hzy4 : z4 ≤ 0 := hz41.2 HFA.out; have HY4 := hide (HY3.out.below hb); have d4 := HY4.out.q.b.c0; have d5 := HY4.out.q.b.c1; have d6 := HY4.out.f.cb.cell 2 _ rfl; have d7 := HY4.out.f.cb.cell 3 _ rfl; clear hz41 hz42 hz43 hz44 hb)
          | (go_at_call 37; (with_reducible refine (fcmp_sgn _ f5 s.l r5 lo HY2.out.p.o (fo_of HY2.out.f.q.l HK.out.fl)).mono ?_); rintro e w12 ⟨z3, rfl, hz31, hz32, hz33, hz34, hb⟩; have hzz3 : decide (z3 ≤ 0) = true := decide_eq_true (hz31.2 hcp); have hzy3 : z3 ≤ 0 := hz31.2 hcp; have HY3 := hide (HY2.out.below hb); have d0 := HY3.out.x.cb.cell 0 _ rfl; have d1 := HY3.out.x.cb.cell 1 _ rfl; have d2 := HY3.out.f.cb.cell 4 _ rfl; have d3 := HY3.out.f.cb.cell 5 _ rfl; have d4 := HY3.out.q.b.c0; have d5 := HY3.out.q.b.c1; have d6 := HY3.out.f.cb.cell 2 _ rfl; have d7 := HY3.out.f.cb.cell 3 _ rfl; clear hz31 hz32 hz33 hz34 hb)
          | (go_at_call 37; (with_reducible refine (fcmp_sgn _ x2 y2 _ _ HY1.out.x.o2 HY1.out.y.o2).mono ?_); rintro e w11 ⟨z2, rfl, hz21, hz22, hz23, hz24, hb⟩; have hzz2 : decide (z2 < 0) = false := decide_eq_false (fun h => absurd (hz22.1 h) (Rat.not_lt.2 HMS.out)); have hzy2 : 0 ≤ z2 := hz24.2 HMS.out; have HY2 := hide (HY1.out.below hb); have c0 := HY2.out.p.b.c0; have c1 := HY2.out.p.b.c1; have c2 := HY2.out.f.cb.cell 0 _ rfl; have c3 := HY2.out.f.cb.cell 1 _ rfl; clear hz21 hz22 hz23 hz24 hb)
          | (go_at_call 37; (with_reducible refine (fcmp_sgn _ x0 y0 _ _ HY0.out.x.o0 HY0.out.y.o0).mono ?_); rintro e w10 ⟨z1, rfl, hz11, hz12, hz13, hz14, hb⟩; have hzz1 : decide (0 < z1) = false := decide_eq_false (fun h => absurd (hz13.1 h) (Rat.not_lt.2 HMF.out)); have hzy1 : z1 ≤ 0 := hz11.2 HMF.out; have HY1 := hide (HY0.out.below hb); have b0 := HY1.out.x.cb.cell 2 _ rfl; have b1 := HY1.out.x.cb.cell 3 _ rfl; have b2 := HY1.out.y.cb.cell 2 _ rfl; have b3 := HY1.out.y.cb.cell 3 _ rfl; clear hz11 hz12 hz13 hz14 hb))
        go_ret
        exact ⟨rfl, HB9.out⟩
    · by_cases hcq : r6 < hi
      · skip
        go_wp2_with (first
          | (go_at_call 24; (with_reducible refine (yknown_any _).mono ?_); rintro e w9 ⟨rfl, hb⟩; have HB9 := hide (HY5.out.f.bw.trans (hb.mono HY5.out.f.bw.size)); clear hb)
          | (go_at_call 37; (with_reducible refine (fcmp_sgn _ f6 s.h r6 hi HY3.out.q.o (fo_of HY3.out.f.q.h HK.out.fh)).mono ?_); rintro e w14 ⟨z5, rfl, hz51, hz52, hz53, hz54, hb⟩; have hzz5 : decide (z5 < 0) = true := decide_eq_true (hz52.2 hcq); have hzy5 : z5 < 0 := hz52.2 hcq; have HY5 := hide (HY3.out.below hb); have e0 := HY5.out.y.cb.cell 2 _ rfl; have e1 := HY5.out.y.cb.cell 3 _ rfl; have e2 := HY5.out.f.cb.cell 6 _ rfl; have e3 := HY5.out.f.cb.cell 7 _ rfl; clear hz51 hz52 hz53 hz54 hb)
          | (go_at_call 37; (with_reducible refine (fcmp_sgn _ f5 s.l r5 lo HY2.out.p.o (fo_of HY2.out.f.q.l HK.out.fl)).mono ?_); rintro e w12 ⟨z3, rfl, hz31, hz32, hz33, hz34, hb⟩; have hzz3 : decide (z3 ≤ 0) = false := decide_eq_false (fun h => hcp (hz31.1 h)); have hzy3 : 0 < z3 := hz33.2 (Rat.not_le.1 hcp); have HY3 := hide (HY2.out.below hb); have d0 := HY3.out.x.cb.cell 0 _ rfl; have d1 := HY3.out.x.cb.cell 1 _ rfl; have d2 := HY3.out.f.cb.cell 4 _ rfl; have d3 := HY3.out.f.cb.cell 5 _ rfl; have d4 := HY3.out.q.b.c0; have d5 := HY3.out.q.b.c1; have d6 := HY3.out.f.cb.cell 2 _ rfl; have d7 := HY3.out.f.cb.cell 3 _ rfl; clear hz31 hz32 hz33 hz34 hb)
          | (go_at_call 37; (with_reducible refine (fcmp_sgn _ x2 y2 _ _ HY1.out.x.o2 HY1.out.y.o2).mono ?_); rintro e w11 ⟨z2, rfl, hz21, hz22, hz23, hz24, hb⟩; have hzz2 : decide (z2 < 0) = false := decide_eq_false (fun h => absurd (hz22.1 h) (Rat.not_lt.2 HMS.out)); have hzy2 : 0 ≤ z2 := hz24.2 HMS.out; have HY2 := hide (HY1.out.below hb); have c0 := HY2.out.p.b.c0; have c1 := HY2.out.p.b.c1; have c2 := HY2.out.f.cb.cell 0 _ rfl; have c3 := HY2.out.f.cb.cell 1 _ rfl; clear hz21 hz22 hz23 hz24 hb)
          | (go_at_call 37; (with_reducible refine (fcmp_sgn _ x0 y0 _ _ HY0.out.x.o0 HY0.out.y.o0).mono ?_); rintro e w10 ⟨z1, rfl, hz11, hz12, hz13, hz14, hb⟩; have hzz1 : decide (0 < z1) = false := decide_eq_false (fun h => absurd (hz13.1 h) (Rat.not_lt.2 HMF.out)); have hzy1 : z1 ≤ 0 := hz11.2 HMF.out; have HY1 := hide (HY0.out.below hb); have b0 := HY1.out.x.cb.cell 2 _ rfl; have b1 := HY1.out.x.cb.cell 3 _ rfl; have b2 := HY1.out.y.cb.cell 2 _ rfl; have b3 := HY1.out.y.cb.cell 3 _ rfl; clear hz11 hz12 hz13 hz14 hb))
        go_ret
        exact ⟨rfl, HB9.out⟩
      · have HSB := hide (show val (decQ lo hi al be) r6 gS M 0 0 ≤ be from Rat.le_trans (val_monoS (decQ_range lo hi al be) (dec_up HK.out.il HK.out.ih HK.out.lt) (dec_down HK.out.il HK.out.ih HK.out.lt) HK.out.ih.c.h0 HPQ.out.2.1.h1 (Rat.not_lt.1 hcq) M 0 0) (beta_le HK.out.il HK.out.ib M))
        go_wp2_with (first
          | (go_at_call 24; (with_reducible refine (yknown_any _).mono ?_); rintro e w9 ⟨rfl, hb⟩; have HB9 := hide (HY6.out.f.bw.trans (hb.mono HY6.out.f.bw.size)); clear hb)
          | (go_at_call 37; (with_reducible refine (fcmp_sgn _ y2 s.b _ be HY5.out.y.o2 (fo_of HY5.out.f.q.b HK.out.fb)).mono ?_); rintro e w15 ⟨z6, rfl, hz61, hz62, hz63, hz64, hb⟩; have hzz6 : decide (z6 ≤ 0) = true := decide_eq_true (hz61.2 HSB.out); have HY6 := hide (HY5.out.below hb); clear hz61 hz62 hz63 hz64 hb)
          | (go_at_call 37; (with_reducible refine (fcmp_sgn _ f6 s.h r6 hi HY3.out.q.o (fo_of HY3.out.f.q.h HK.out.fh)).mono ?_); rintro e w14 ⟨z5, rfl, hz51, hz52, hz53, hz54, hb⟩; have hzz5 : decide (z5 < 0) = false := decide_eq_false (fun h => hcq (hz52.1 h)); have hzy5 : 0 ≤ z5 := hz54.2 (Rat.not_lt.1 hcq); have HY5 := hide (HY3.out.below hb); have e0 := HY5.out.y.cb.cell 2 _ rfl; have e1 := HY5.out.y.cb.cell 3 _ rfl; have e2 := HY5.out.f.cb.cell 6 _ rfl; have e3 := HY5.out.f.cb.cell 7 _ rfl; clear hz51 hz52 hz53 hz54 hb)
          | (go_at_call 37; (with_reducible refine (fcmp_sgn _ f5 s.l r5 lo HY2.out.p.o (fo_of HY2.out.f.q.l HK.out.fl)).mono ?_); rintro e w12 ⟨z3, rfl, hz31, hz32, hz33, hz34, hb⟩; have hzz3 : decide (z3 ≤ 0) = false := decide_eq_false (fun h => hcp (hz31.1 h)); have hzy3 : 0 < z3 := hz33.2 (Rat.not_le.1 hcp); have HY3 := hide (HY2.out.below hb); have d0 := HY3.out.x.cb.cell 0 _ rfl; have d1 := HY3.out.x.cb.cell 1 _ rfl; have d2 := HY3.out.f.cb.cell 4 _ rfl; have d3 := HY3.out.f.cb.cell 5 _ rfl; have d4 := HY3.out.q.b.c0; have d5 := HY3.out.q.b.c1; have d6 := HY3.out.f.cb.cell 2 _ rfl; have d7 := HY3.out.f.cb.cell 3 _ rfl; clear hz31 hz32 hz33 hz34 hb)
          | (go_at_call 37; (with_reducible refine (fcmp_sgn _ x2 y2 _ _ HY1.out.x.o2 HY1.out.y.o2).mono ?_); rintro e w11 ⟨z2, rfl, hz21, hz22, hz23, hz24, hb⟩; have hzz2 : decide (z2 < 0) = false := decide_eq_false (fun h => absurd (hz22.1 h) (Rat.not_lt.2 HMS.out)); have hzy2 : 0 ≤ z2 := hz24.2 HMS.out; have HY2 := hide (HY1.out.below hb); have c0 := HY2.out.p.b.c0; have c1 := HY2.out.p.b.c1; have c2 := HY2.out.f.cb.cell 0 _ rfl; have c3 := HY2.out.f.cb.cell 1 _ rfl; clear hz21 hz22 hz23 hz24 hb)
          | (go_at_call 37; (with_reducible refine (fcmp_sgn _ x0 y0 _ _ HY0.out.x.o0 HY0.out.y.o0).mono ?_); rintro e w10 ⟨z1, rfl, hz11, hz12, hz13, hz14, hb⟩; have hzz1 : decide (0 < z1) = false := decide_eq_false (fun h => absurd (hz13.1 h) (Rat.not_lt.2 HMF.out)); have hzy1 : z1 ≤ 0 := hz11.2 HMF.out; have HY1 := hide (HY0.out.below hb); have b0 := HY1.out.x.cb.cell 2 _ rfl; have b1 := HY1.out.x.cb.cell 3 _ rfl; have b2 := HY1.out.y.cb.cell 2 _ rfl; have b3 := HY1.out.y.cb.cell 3 _ rfl; clear hz11 hz12 hz13 hz14 hb))
        go_ret
        exact ⟨rfl, HB9.out⟩
  · have hne1 : ¬ (bx6 = bx5) := by have := HBB.out.1; omega
    have hne2 : ¬ (bx5 = bx6) := by have := HBB.out.1; omega
    go_upto_region 6 with (go_at_call 37; (with_reducible refine (fcmp_sgn _ f5 f6 r5 r6 HB5.out.o HB6.out.o).mono ?_); rintro e w6 ⟨z0, rfl, hz1, hz2, hz3, hz4, hb⟩; have hzz : decide (0 < z0) = true := decide_eq_true (hz3.2 (Rat.not_le.1 hle)); have hzy : 0 < z0 := hz3.2 (Rat.not_le.1 hle); have HF6 := hide (HF5.out.below hb); have HB5b := hide (HB5.out.below hb); have HB6b := hide (HB6.out.below hb); have p0 := HB5b.out.b.c0; have p1 := HB5b.out.b.c1; have p2 := HB6b.out.b.c0; have p3 := HB6b.out.b.c1; have p4 := HB5b.out.b.fz; have p5 := HB6b.out.b.fz; have p6 := HB5b.out.b.sz; have p7 := HB6b.out.b.sz; clear hz1 hz2 hz3 hz4 hb)
    have HPQ := hide (And.intro HO6.out.2 (And.intro HO5.out.2 (Rat.le_of_lt (Rat.not_le.1 hle))))
    generalize hW : World.setCell (World.setCell (World.setCell (World.setCell w6 _ _) _ _) _ _) _ _ = v6
    have HE := hide (show FS w v6 g s ∧ Bf v6 bx5 f6 r6 ∧ Bf v6 bx6 f5 r5 by
      rw [← hW]
      have hbb := HBB.out.1
      have hgz := HBB.out.2.1
      have hwz := HBB.out.2.2
      have h1 := fr_fill (w := w6) (g := bx5) (.slice f6.A f6.n f6.c) (.slice f6.B f6.m f6.d)
      have n1 := HB5b.out.b.nb
      have h2 := fr_fill (w := (w6.setCell ⟨bx5, 0, none⟩ (.slice f6.A f6.n f6.c)).setCell ⟨bx5, 1, none⟩ (.slice f6.B f6.m f6.d)) (g := bx6) (.slice f5.A f5.n f5.c) (.slice f5.B f5.m f5.d)
      have k6 := HB6b.out.one h1 n1 (by omega)
      have n2 := k6.b.nb
      exact ⟨⟨((Fr.of_below (fun b => b = bx5 ∨ b = bx6) HF6.out.bw).trans ((h1.mono (fun k _ e => .inl e)).trans (h2.mono (fun k _ e => .inr e)))).below (Nat.le_refl _) (fun k hk e => by omega), (HF6.out.cb.one h1 (by omega)).one h2 (by omega), (HF6.out.q.one h1 n1).one h2 n2⟩, ⟨(HB5b.out.b.fill f6).one h2 (by omega), (HB6b.out.o.one h1 n1).one h2 n2⟩, ⟨k6.b.fill f5, (HB5b.out.o.one h1 n1).one h2 n2⟩⟩)
    have HF7 := hide HE.out.1
    have HBp := hide HE.out.2.1
    have HBq := hide HE.out.2.2
    clear m0 m1 m2 m3 hle hzz hzy hW p0 p1 p2 p3 p4 p5 p6 p7
    have p0 := HBp.out.b.c0
    have p1 := HBp.out.b.c1
    obtain ⟨a0, a1, a2, a3, a4, a5, a6, a7, a8, a9⟩ := HF7.out.ca
    have hcp0 := HPQ.out
    go_upto_region 7 with (go_at_call 36; (with_reducible refine (serrors_ok _ s lo hi al be M f6 r6 HF7.out.q HK.out HBp.out.o HPQ.out.1).mono ?_); rintro e w7 ⟨x0, x2, x4, rfl, h0, h2, h4, hb⟩; have HO7 := hide (And.intro h0 (And.intro h2 h4)); have HF8 := hide (HF7.out.below hb); have HBp8 := hide (HBp.out.below hb); have HBq8 := hide (HBq.out.below hb); clear h0 h2 h4 hb)
    generalize hW : World.alloc w7 _ = v7
    have HF9 := hide (show FS w v7 g s by rw [← hW]; exact HF8.out.alloc _)
    have HX9 := hide (show OdB v7 w7.heap.size x0 x2 x4 _ _ _ by rw [← hW]; exact OdB.mk0 HO7.out.1 HO7.out.2.1 HO7.out.2.2 _)
    have HBp9 := hide (show Bf v7 bx5 f6 r6 by rw [← hW]; exact HBp8.out.alloc _)
    have HBq9 := hide (show Bf v7 bx6 f5 r5 by rw [← hW]; exact HBq8.out.alloc _)
    obtain ⟨g7, hg7⟩ : ∃ g, g = w7.heap.size := ⟨_, rfl⟩
    rw [← hg7] at HX9 ⊢
    obtain ⟨b0, b1, b2, b3, b4, b5, b6, b7, b8, b9⟩ := HF9.out.ca
    have u0 := HBq9.out.b.c0
    have u1 := HBq9.out.b.c1
    clear hW hg7 a0 a1 a2 a3 a4 a5 a6 a7 a8 a9 p0 p1 hcp0
    go_upto_region 8 with (go_at_call 36; (with_reducible refine (serrors_ok _ s lo hi al be M f5 r5 HF9.out.q HK.out HBq9.out.o HPQ.out.2.1).mono ?_); rintro e w8 ⟨y0, y2, y4, rfl, h0, h2, h4, hb⟩; have HO8 := hide (And.intro h0 (And.intro h2 h4)); have HFa := hide (HF9.out.below hb); have HBpa := hide (HBp9.out.below hb); have HBqa := hide (HBq9.out.below hb); have HXa := hide (HX9.out.below hb); clear h0 h2 h4 hb)
    generalize hW : World.alloc w8 _ = v8
    have HY0 := hide (show BY w v8 g s bx5 f6 r6 bx6 f5 r5 g7 x0 x2 x4 _ _ _ w8.heap.size y0 y2 y4 _ _ _ by rw [← hW]; exact ⟨HFa.out.alloc _, HBpa.out.alloc _, HBqa.out.alloc _, HXa.out.below ((Below.refl _ _).alloc (Nat.le_refl _) _), OdB.mk0 HO8.out.1 HO8.out.2.1 HO8.out.2.2 _⟩)
    obtain ⟨g9, hg9⟩ : ∃ g, g = w8.heap.size := ⟨_, rfl⟩
    rw [← hg9] at HY0 ⊢
    have HMF := hide (val_monoF (decQ_range lo hi al be) (dec_up HK.out.il HK.out.ih HK.out.lt) (dec_down HK.out.il HK.out.ih HK.out.lt) HPQ.out.1.h0 HPQ.out.2.1.h1 HPQ.out.2.2 M 0 0)
    have HMS := hide (val_monoS (decQ_range lo hi al be) (dec_up HK.out.il HK.out.ih HK.out.lt) (dec_down HK.out.il HK.out.ih HK.out.lt) HPQ.out.1.h0 HPQ.out.2.1.h1 HPQ.out.2.2 M 0 0)
    have l0 := HY0.out.x.cb.cell 0 _ rfl
    have l1 := HY0.out.x.cb.cell 1 _ rfl
    have l2 := HY0.out.y.cb.cell 0 _ rfl
    have l3 := HY0.out.y.cb.cell 1 _ rfl
    clear hW hg9 b0 b1 b2 b3 b4 b5 b6 b7 b8 b9 u0 u1
    by_cases hcp : r6 ≤ lo
    · have HFA := hide (show val (decQ lo hi al be) r6 gF M 0 0 ≤ al from Rat.le_trans (val_monoF (decQ_range lo hi al be) (dec_up HK.out.il HK.out.ih HK.out.lt) (dec_down HK.out.il HK.out.ih HK.out.lt) HPQ.out.1.h0 HK.out.il.c.h1 hcp M 0 0) (alpha_le HK.out.il HK.out.ih HK.out.ia M))
      by_cases hcq : r5 < hi
      · skip
        go_wp2_with (first
          | (go_at_call 24; (with_reducible refine (yknown_any _).mono ?_); rintro e w9 ⟨rfl, hb⟩; have HB9 := hide (HY5.out.f.bw.trans (hb.mono HY5.out.f.bw.size)); clear hb)
          | (go_at_call 37; (with_reducible refine (fcmp_sgn _ f5 s.h r5 hi HY4.out.q.o (fo_of HY4.out.f.q.h HK.out.fh)).mono ?_); rintro e w14 ⟨z5, rfl, hz51, hz52, hz53, hz54, hb⟩; have hzz5 : decide (z5 < 0) = true := decide_eq_true (hz52.2 hcq); have hzy5 : z5 < 0 := hz52.2 hcq; have HY5 := hide (HY4.out.below hb); have e0 := HY5.out.y.cb.cell 2 _ rfl; have e1 := HY5.out.y.cb.cell 3 _ rfl; have e2 := HY5.out.f.cb.cell 6 _ rfl; have e3 := HY5.out.f.cb.cell 7 _ rfl; clear hz51 hz52 hz53 hz54 hb)
          | (go_at_call 37; (with_reducible refine (fcmp_sgn _ x0 s.a _ al HY3.out.x.o0 (fo_of HY3.out.f.q.a HK.out.fa)).mono ?_); rintro e w13 ⟨z4, rfl, hz41, hz42, hz43, hz44, hb⟩; have hzz4 : decide (0 < z4) = false := decide_eq_false (fun h => absurd (hz43.1 h) (Rat.not_lt.2 HFA.out)); have hzy4 : z4 ≤ 0 := hz41.2 HFA.out; have HY4 := hide (HY3.out.below hb); have d4 := HY4.out.q.b.c0; have d5 := HY4.out.q.b.c1; have d6 := HY4.out.f.cb.cell 2 _ rfl; have d7 := HY4.out.f.cb.cell 3 _ rfl; clear hz41 hz42 hz43 hz44 hb)
          | (go_at_call 37; (with_reducible refine (fcmp_sgn _ f6 s.l r6 lo HY2.out.p.o (fo_of HY2.out.f.q.l HK.out.fl)).mono ?_); rintro e w12 ⟨z3, rfl, hz31, hz32, hz33, hz34, hb⟩; have hzz3 : decide (z3 ≤ 0) = true := decide_eq_true (hz31.2 hcp); have hzy3 : z3 ≤ 0 := hz31.2 hcp; have HY3 := hide (HY2.out.below hb); have d0 := HY3.out.x.cb.cell 0 _ rfl; have d1 := HY3.out.x.cb.cell 1 _ rfl; have d2 := HY3.out.f.cb.cell 4 _ rfl; have d3 := HY3.out.f.cb.cell 5 _ rfl; have d4 := HY3.out.q.b.c0; have d5 := HY3.out.q.b.c1; have d6 := HY3.out.f.cb.cell 2 _ rfl; have d7 := HY3.out.f.cb.cell 3 _ rfl; clear hz31 hz32 hz33 hz34 hb)
          | (go_at_call 37; (with_reducible refine (fcmp_sgn _ x2 y2 _ _ HY1.out.x.o2 HY1.out.y.o2).mono ?_); rintro e w11 ⟨z2, rfl, hz21, hz22, hz23, hz24, hb⟩; have hzz2 : decide (z2 < 0) = false := decide_eq_false (fun h => absurd (hz22.1 h) (Rat.not_lt.2 HMS.out)); have hzy2 : 0 ≤ z2 := hz24.2 HMS.out; have HY2 := hide (HY1.out.below hb); have c0 := HY2.out.p.b.c0; have c1 := HY2.out.p.b.c1; have c2 := HY2.out.f.cb.cell 0 _ rfl; have c3 := HY2.out.f.cb.cell 1 _ rfl; clear hz21 hz22 hz23 hz24 hb)
          | (go_at_call 37; (with_reducible refine (fcmp_sgn _ x0 y0 _ _ HY0.out.x.o0 HY0.out.y.o0).mono ?_); rintro e w10 ⟨z1, rfl, hz11, hz12, hz13, hz14, hb⟩; have hzz1 : decide (0 < z1) = false := decide_eq_false (fun h => absurd (hz13.1 h) (Rat.not_lt.2 HMF.out)); have hzy1 : z1 ≤ 0 := hz11.2 HMF.out; have HY1 := hide (HY0.out.below hb); have b0 := HY1.out.x.cb.cell 2 _ rfl; have b1 := HY1.out.x.cb.cell 3 _ rfl; have b2 := HY1.out.y.cb.cell 2 _ rfl; have b3 := HY1.out.y.cb.cell 3 _ rfl; clear hz11 hz12 hz13 hz14 hb))
        go_ret
        exact ⟨rfl, HB9.out⟩
      · have HSB := hide (show val (decQ lo hi al be) r5 gS M 0 0 ≤ be from Rat.le_trans (val_monoS (decQ_range lo hi al be) (dec_up HK.out.il HK.out.ih HK.out.lt) (dec_down HK.out.il HK.out.ih HK.out.lt) HK.out.ih.c.h0 HPQ.out.2.1.h1 (Rat.not_lt.1 hcq) M 0 0) (beta_le HK.out.il HK.out.ib M))
        go_wp2_with (first
          | (go_at_call 24; (with_reducible refine (yknown_any _).mono ?_); rintro e w9 ⟨rfl, hb⟩; have HB9 := hide (HY6.out.f.bw.trans (hb.mono HY6.out.f.bw.size)); clear hb)
          | (go_at_call 37; (with_reducible refine (fcmp_sgn _ y2 s.b _ be HY5.out.y.o2 (fo_of HY5.out.f.q.b HK.out.fb)).mono ?_); rintro e w15 ⟨z6, rfl, hz61, hz62, hz63, hz64, hb⟩; have hzz6 : decide (z6 ≤ 0) = true := decide_eq_true (hz61.2 HSB.out); have HY6 := hide (HY5.out.below hb); clear hz61 hz62 hz63 hz64 hb)
          | (go_at_call 37; (with_reducible refine (fcmp_sgn _ f5 s.h r5 hi HY4.out.q.o (fo_of HY4.out.f.q.h HK.out.fh)).mono ?_); rintro e w14 ⟨z5, rfl, hz51, hz52, hz53, hz54, hb⟩; have hzz5 : decide (z5 < 0) = false := decide_eq_false (fun h => hcq (hz52.1 h)); have hzy5 : 0 ≤ z5 := hz54.2 (Rat.not_lt.1 hcq); have HY5 := hide (HY4.out.below hb); have e0 := HY5.out.y.cb.cell 2 _ rfl; have e1 := HY5.out.y.cb.cell 3 _ rfl; have e2 := HY5.out.f.cb.cell 6 _ rfl; have e3 := HY5.out.f.cb.cell 7 _ rfl; clear hz51 hz52 hz53 hz54 hb)
          | (go_at_call 37; (with_reducible refine (fcmp_sgn _ x0 s.a _ al HY3.out.x.o0 (fo_of HY3.out.f.q.a HK.out.fa)).mono ?_); rintro e w13 ⟨z4, rfl, hz41, hz42, hz43, hz44, hb⟩; have hzz4 : decide (0 < z4) = false := decide_eq_false (fun h => absurd (hz43.1 h) (Rat.not_lt.2 HFA.out)); have hzy4 : z4 ≤ 0 := hz41.2 HFA.out; have HY4 := hide (HY3.out.below hb); have d4 := HY4.out.q.b.c0; have d5 := HY4.out.q.b.c1; have d6 := HY4.out.f.cb.cell 2 _ rfl; have d7 := HY4.out.f.cb.cell 3 _ rfl; clear hz41 hz42 hz43 hz44 hb)
          | (go_at_call 37; (with_reducible refine (fcmp_sgn _ f6 s.l r6 lo HY2.out.p.o (fo_of HY2.out.f.q.l HK.out.fl)).mono ?_); rintro e w12 ⟨z3, rfl, hz31, hz32, hz33, hz34, hb⟩; have hzz3 : decide (z3 ≤ 0) = true := decide_eq_true (hz31.2 hcp); have hzy3 : z3 ≤ 0 := hz31.2 hcp; have HY3 := hide (HY2.out.below hb); have d0 := HY3.out.x.cb.cell 0 _ rfl; have d1 := HY3.out.x.cb.cell 1 _ rfl; have d2 := HY3.out.f.cb.cell 4 _ rfl; have d3 := HY3.out.f.cb.cell 5 _ rfl; have d4 := HY3.out.q.b.c0; have d5 := HY3.out.q.b.c1; have d6 := HY3.out.f.cb.cell 2 _ rfl; have d7 := HY3.out.f.cb.cell 3 _ rfl; clear hz31 hz32 hz33 hz34 hb)
          | (go_at_call 37; (with_reducible refine (fcmp_sgn _ x2 y2 _ _ HY1.out.x.o2 HY1.out.y.o2).mono ?_); rintro e w11 ⟨z2, rfl, hz21, hz22, hz23, hz24, hb⟩; have hzz2 : decide (z2 < 0) = false := decide_eq_false (fun h => absurd (hz22.1 h) (Rat.not_lt.2 HMS.out)); have hzy2 : 0 ≤ z2 := hz24.2 HMS.out; have HY2 := hide (HY1.out.below hb); have c0 := HY2.out.p.b.c0; have c1 := HY2.out.p.b.c1; have c2 := HY2.out.f.cb.cell 0 _ rfl; have c3 := HY2.out.f.cb.cell 1 _ rfl; clear hz21 hz22 hz23 hz24 hb)
          | (go_at_call 37; (with_reducible refine (fcmp_sgn _ x0 y0 _ _ HY0.out.x.o0 HY0.out.y.o0).mono ?_); rintro e w10 ⟨z1, rfl, hz11, hz12, hz13, hz14, hb⟩; have hzz1 : decide (0 < z1) = false := decide_eq_false (fun h => absurd (hz13.1 h) (Rat.not_lt.2 HMF.out)); have hzy1 : z1 ≤ 0 := hz11.2 HMF.out; have HY1 := hide (HY0.out.below hb); have b0 := HY1.out.x.cb.cell 2 _ rfl; have b1 := HY1.out.x.cb.cell 3 _ rfl; have b2 := HY1.out.y.cb.cell 2 _ rfl; have b3 := HY1.out.y.cb.cell 3 _ rfl; clear hz11 hz12 hz13 hz14 hb))
        go_ret
        exact ⟨rfl, HB9.out⟩
    · by_cases hcq : r5 < hi
      · skip
        go_wp2_with (first
          | (go_at_call 24; (with_reducible refine (yknown_any _).mono ?_); rintro e w9 ⟨rfl, hb⟩; have HB9 := hide (HY5.out.f.bw.trans (hb.mono HY5.out.f.bw.size)); clear hb)
          | (go_at_call 37; (with_reducible refine (fcmp_sgn _ f5 s.h r5 hi HY3.out.q.o (fo_of HY3.out.f.q.h HK.out.fh)).mono ?_); rintro e w14 ⟨z5, rfl, hz51, hz52, hz53, hz54, hb⟩; have hzz5 : decide (z5 < 0) = true := decide_eq_true (hz52.2 hcq); have hzy5 : z5 < 0 := hz52.2 hcq; have HY5 := hide (HY3.out.below hb); have e0 := HY5.out.y.cb.cell 2 _ rfl; have e1 := HY5.out.y.cb.cell 3 _ rfl; have e2 := HY5.out.f.cb.cell 6 _ rfl; have e3 := HY5.out.f.cb.cell 7 _ rfl; clear hz51 hz52 hz53 hz54 hb)
          | (go_at_call 37; (with_reducible refine (fcmp_sgn _ f6 s.l r6 lo HY2.out.p.o (fo_of HY2.out.f.q.l HK.out.fl)).mono ?_); rintro e w12 ⟨z3, rfl, hz31, hz32, hz33, hz34, hb⟩; have hzz3 : decide (z3 ≤ 0) = false := decide_eq_false (fun h => hcp (hz31.1 h)); have hzy3 : 0 < z3 := hz33.2 (Rat.not_le.1 hcp); have HY3 := hide (HY2.out.below hb); have d0 := HY3.out.x.cb.cell 0 _ rfl; have d1 := HY3.out.x.cb.cell 1 _ rfl; have d2 := HY3.out.f.cb.cell 4 _ rfl; have d3 := HY3.out.f.cb.cell 5 _ rfl; have d4 := HY3.out.q.b.c0; have d5 := HY3.out.q.b.c1; have d6 := HY3.out.f.cb.cell 2 _ rfl; have d7 := HY3.out.f.cb.cell 3 _ rfl; clear hz31 hz32 hz33 hz34 hb)
          | (go_at_call 37; (with_reducible refine (fcmp_sgn _ x2 y2 _ _ HY1.out.x.o2 HY1.out.y.o2).mono ?_); rintro e w11 ⟨z2, rfl, hz21, hz22, hz23, hz24, hb⟩; have hzz2 : decide (z2 < 0) = false := decide_eq_false (fun h => absurd (hz22.1 h) (Rat.not_lt.2 HMS.out)); have hzy2 : 0 ≤ z2 := hz24.2 HMS.out; have HY2 := hide (HY1.out.below hb); have c0 := HY2.out.p.b.c0; have c1 := HY2.out.p.b.c1; have c2 := HY2.out.f.cb.cell 0 _ rfl; have c3 := HY2.out.f.cb.cell 1 _ rfl; clear hz21 hz22 hz23 hz24 hb)
          | (go_at_call 37; (with_reducible refine (fcmp_sgn _ x0 y0 _ _ HY0.out.x.o0 HY0.out.y.o0).mono ?_); rintro e w10 ⟨z1, rfl, hz11, hz12, hz13, hz14, hb⟩; have hzz1 : decide (0 < z1) = false := decide_eq_false (fun h => absurd (hz13.1 h) (Rat.not_lt.2 HMF.out)); have hzy1 : z1 ≤ 0 := hz11.2 HMF.out; have HY1 := hide (HY0.out.below hb); have b0 := HY1.out.x.cb.cell 2 _ rfl; have b1 := HY1.out.x.cb.cell 3 _ rfl; have b2 := HY1.out.y.cb.cell 2 _ rfl; have b3 := HY1.out.y.cb.cell 3 _ rfl; clear hz11 hz12 hz13 hz14 hb))
        go_ret
        exact ⟨rfl, HB9.out⟩
      · have HSB := hide (show val (decQ lo hi al be) r5 gS M 0 0 ≤ be from Rat.le_trans (val_monoS (decQ_range lo hi al be) (dec_up HK.out.il HK.out.ih HK.out.lt) (dec_down HK.out.il HK.out.ih HK.out.lt) HK.out.ih.c.h0 HPQ.out.2.1.h1 (Rat.not_lt.1 hcq) M 0 0) (beta_le HK.out.il HK.out.ib M))
        go_wp2_with (first
          | (go_at_call 24; (with_reducible refine (yknown_any _).mono ?_); rintro e w9 ⟨rfl, hb⟩; have HB9 := hide (HY6.out.f.bw.trans (hb.mono HY6.out.f.bw.size)); clear hb)
          | (go_at_call 37; (with_reducible refine (fcmp_sgn _ y2 s.b _ be HY5.out.y.o2 (fo_of HY5.out.f.q.b HK.out.fb)).mono ?_); rintro e w15 ⟨z6, rfl, hz61, hz62, hz63, hz64, hb⟩; have hzz6 : decide (z6 ≤ 0) = true := decide_eq_true (hz61.2 HSB.out); have HY6 := hide (HY5.out.below hb); clear hz61 hz62 hz63 hz64 hb)
          | (go_at_call 37; (with_reducible refine (fcmp_sgn _ f5 s.h r5 hi HY3.out.q.o (fo_of HY3.out.f.q.h HK.out.fh)).mono ?_); rintro e w14 ⟨z5, rfl, hz51, hz52, hz53, hz54, hb⟩; have hzz5 : decide (z5 < 0) = false := decide_eq_false (fun h => hcq (hz52.1 h)); have hzy5 : 0 ≤ z5 := hz54.2 (Rat.not_lt.1 hcq); have HY5 := hide (HY3.out.below hb); have e0 := HY5.out.y.cb.cell 2 _ rfl; have e1 := HY5.out.y.cb.cell 3 _ rfl; have e2 := HY5.out.f.cb.cell 6 _ rfl; have e3 := HY5.out.f.cb.cell 7 _ rfl; clear hz51 hz52 hz53 hz54 hb)
          | (go_at_call 37; (with_reducible refine (fcmp_sgn _ f6 s.l r6 lo HY2.out.p.o (fo_of HY2.out.f.q.l HK.out.fl)).mono ?_); rintro e w12 ⟨z3, rfl, hz31, hz32, hz33, hz34, hb⟩; have hzz3 : decide (z3 ≤ 0) = false := decide_eq_false (fun h => hcp (hz31.1 h)); have hzy3 : 0 < z3 := hz33.2 (Rat.not_le.1 hcp); have HY3 := hide (HY2.out.below hb); have d0 := HY3.out.x.cb.cell 0 _ rfl; have d1 := HY3.out.x.cb.cell 1 _ rfl; have d2 := HY3.out.f.cb.cell 4 _ rfl; have d3 := HY3.out.f.cb.cell 5 _ rfl; have d4 := HY3.out.q.b.c0; have d5 := HY3.out.q.b.c1; have d6 := HY3.out.f.cb.cell 2 _ rfl; have d7 := HY3.out.f.cb.cell 3 _ rfl; clear hz31 hz32 hz33 hz34 hb)
          | (go_at_call 37; (with_reducible refine (fcmp_sgn _ x2 y2 _ _ HY1.out.x.o2 HY1.out.y.o2).mono ?_); rintro e w11 ⟨z2, rfl, hz21, hz22, hz23, hz24, hb⟩; have hzz2 : decide (z2 < 0) = false := decide_eq_false (fun h => absurd (hz22.1 h) (Rat.not_lt.2 HMS.out)); have hzy2 : 0 ≤ z2 := hz24.2 HMS.out; have HY2 := hide (HY1.out.below hb); have c0 := HY2.out.p.b.c0; have c1 := HY2.out.p.b.c1; have c2 := HY2.out.f.cb.cell 0 _ rfl; have c3 := HY2.out.f.cb.cell 1 _ rfl; clear hz21 hz22 hz23 hz24 hb)
          | (go_at_call 37; (with_reducible refine (fcmp_sgn _ x0 y0 _ _ HY0.out.x.o0 HY0.out.y.o0).mono ?_); rintro e w10 ⟨z1, rfl, hz11, hz12, hz13, hz14, hb⟩; have hzz1 : decide (0 < z1) = false := decide_eq_false (fun h => absurd (hz13.1 h) (Rat.not_lt.2 HMF.out)); have hzy1 : z1 ≤ 0 := hz11.2 HMF.out; have HY1 := hide (HY0.out.below hb); have b0 := HY1.out.x.cb.cell 2 _ rfl; have b1 := HY1.out.x.cb.cell 3 _ rfl; have b2 := HY1.out.y.cb.cell 2 _ rfl; have b3 := HY1.out.y.cb.cell 3 _ rfl; clear hz11 hz12 hz13 hz14 hb))
        go_ret
        exact ⟨rfl, HB9.out⟩
end Go.Proofs.Ytnokfhkcfebimaa

/- The walk of the law ReportGrows. -/
namespace Go.Proofs.Ytnokfhkcfebimaa
open Go.RowKit

theorem upper_okI (w : World) (n : Nat) (NI m : Int) (hNI : NI = n) (al : Fa) (ar : Rat) (ha : Fo w al (some ar)) (hi : Inn ar) (hn : n ≤ 32) (hm : 0 ≤ m) (hmn : m ≤ n) :
    Calls Try.prog 51 #[.int .i64 NI, .int .i64 m, .agg #[.slice al.A al.n al.c, .slice al.B al.m al.d]] w fun e w' => ∃ v : Nat, e = .returned (.tuple #[.int .i64 (v : Int), .int .i64 0]) ∧ IsLst (fun (b : Nat) => decide (atM (mkRat (b : Int) 1000) n m ≤ ar)) 1000 v ∧ Below w.heap.size w w' := by
  subst hNI; exact upper_ok w n m al ar ha hi hn hm hmn
theorem lower_okI (w : World) (n : Nat) (NI m : Int) (hNI : NI = n) (al : Fa) (ar : Rat) (ha : Fo w al (some ar)) (hi : Inn ar) (hn : n ≤ 32) (hm : 0 ≤ m) (hmn : m ≤ n) :
    Calls Try.prog 52 #[.int .i64 NI, .int .i64 m, .agg #[.slice al.A al.n al.c, .slice al.B al.m al.d]] w fun e w' => ∃ v : Nat, e = .returned (.tuple #[.int .i64 (v : Int), .int .i64 0]) ∧ IsGrt (fun (b : Nat) => decide (atL (mkRat (b : Int) 1000) n m ≤ ar)) 1000 v ∧ Below w.heap.size w w' := by
  subst hNI; exact loper_ok w n m al ar ha hi hn hm hmn
theorem IsLst.mono' {g g' : Nat → Bool} {N r s : Nat} (h : IsLst g N r) (k : IsLst g' N s) (hg : ∀ i, i ≤ N → g i = true → g' i = true) : s ≤ r := by
  rcases Nat.lt_or_ge r s with h1 | h1
  · have h2 := k.2.1 r h1
    rw [hg r (by have := k.1; omega) (h.2.2 (by have := k.1; omega))] at h2
    cases h2
  · exact h1
theorem up_more {n a b : Nat} {m : Int} {ar : Rat} (h : IsLst (fun (b : Nat) => decide (atM (mkRat (b : Int) 1000) n m ≤ ar)) 1000 a) (k : IsLst (fun (b : Nat) => decide (atM (mkRat (b : Int) 1000) n (m + 1) ≤ ar)) 1000 b) : a ≤ b :=
  k.mono' h (fun i hi hg => decide_eq_true (Rat.le_trans (atM_more (mk1000_chn hi).h0 (mk1000_chn hi).h1 n (by omega)) (of_decide_eq_true hg)))
theorem up_runs {n a c : Nat} {m : Int} {ar : Rat} (h : IsLst (fun (b : Nat) => decide (atM (mkRat (b : Int) 1000) n m ≤ ar)) 1000 a) (k : IsLst (fun (b : Nat) => decide (atM (mkRat (b : Int) 1000) (n + 1) m ≤ ar)) 1000 c) : c ≤ a :=
  h.mono' k (fun i hi hg => decide_eq_true (Rat.le_trans (atM_runs (mk1000_chn hi).h0 (mk1000_chn hi).h1 n m) (of_decide_eq_true hg)))
theorem tot_none (r : Rat) (f : Nat → Bool) (h : f 0 = true) : tot r 0 f = 1 := by
  show sm r 0 f 0 + (if f 0 = true then tm r 0 0 else 0) = 1
  rw [if_pos h]
  show (0 : Rat) + tm r 0 0 = 1
  unfold tm
  rw [Rat.pow_zero, Nat.sub_zero, Rat.pow_zero]
  decide +kernel
theorem up_none {u : Nat} {ar : Rat} (hi : Inn ar) (h : IsLst (fun (b : Nat) => decide (atM (mkRat (b : Int) 1000) 0 0 ≤ ar)) 1000 u) : u = 1000 := by
  by_cases hu : u < 1000
  · have := of_decide_eq_true (h.2.2 hu)
    rw [show atM (mkRat (u : Int) 1000) 0 0 = 1 from tot_none _ _ (by decide)] at this
    exact absurd hi.q (Rat.not_lt.2 this)
  · have := h.1; omega
theorem low_none {v : Nat} {ar : Rat} (hi : Inn ar) (h : IsGrt (fun (b : Nat) => decide (atL (mkRat (b : Int) 1000) 0 0 ≤ ar)) 1000 v) : v = 0 := by
  rcases h.2.1 with h1 | h1
  · exact h1
  · have := of_decide_eq_true h1
    rw [show atL (mkRat (v : Int) 1000) 0 0 = 1 from tot_none _ _ (by decide)] at this
    exact absurd hi.q (Rat.not_lt.2 this)
set_option maxRecDepth 100000 in
set_option maxHeartbeats 16000000 in
theorem grows_walk (w : World) (A : Option Addr) (n c : Nat) (l : List Int) (X Y : Int) (hA : Rs w none 1 iv A l) (hl : l.length = n) :
    Calls Try.prog 17 #[.slice A n c, .int .i64 X, .int .i64 Y] w fun e w' => e = .returned (.bool true) ∧ Below w.heap.size w w' := by
  have HP := hide (tp_new (w := w) (c := c) hA hl 32)
  obtain ⟨q, hq, hF⟩ := fold_nat X 11 (by omega) (by omega)
  obtain ⟨m, hm, hG⟩ := fold_nat Y (1 + (q : Int)) (by omega) (by omega)
  have HFX := hide hF
  have HFY := hide hG
  have hmq : m ≤ q := by omega
  have hq10 : q ≤ 10 := by omega
  clear hA hl hF hG hq hm
  go_enter Try.func17, Try.ntmps17
  go_upto_region 2 with (go_at_call 50; refine (level_any _ w.heap.size A n c l 0 HP.out (by omega)).mono ?_; rintro e w1 ⟨f, ar, rfl, ho, hi, hf⟩; have HFr := hide hf; have HO := hide ho; have HI := hide hi; clear ho hi hf)
  generalize hW : World.alloc w1 _ = v
  have HB1 := hide (fr_new rfl HFr.out)
  have HX := hide (show Bf v w1.heap.size f ar by rw [← hW]; exact ⟨Bq.mk0 _ f rfl, HO.out.alloc _⟩)
  have HB := hide (show Below w.heap.size w v by rw [← hW]; exact HB1.out.alloc HB1.out.size _)
  obtain ⟨g, hg⟩ : ∃ g, g = w1.heap.size := ⟨_, rfl⟩
  rw [← hg] at HX ⊢
  clear hW hg
  go_upto_region 4 with (first
    | (go_at_call 20; (with_reducible refine (HFX.out _).mono ?_); rintro e w' ⟨rfl, rfl⟩)
    | (go_at_call 20; (with_reducible refine (HFY.out _).mono ?_); rintro e w' ⟨rfl, rfl⟩))
  have x0 := HX.out.b.c0
  have x1 := HX.out.b.c1
  go_wp2_with (first
    | (go_at_call 55; (with_reducible refine (pknown_any _).mono ?_); rintro e w9 ⟨rfl, hb⟩; have HB9 := hide (HB6.out.trans (hb.mono HB6.out.size)); clear hb)
    | (go_at_call 52; (with_reducible refine (lower_okI _ 0 0 0 rfl f ar HX5.out.o HI.out (by omega) (by omega) (by omega)).mono ?_); rintro e w6 ⟨v6, rfl, hv, hb⟩; obtain rfl := low_none HI.out hv; have HB6 := hide (HB5.out.trans (hb.mono HB5.out.size)); have hba : decide ((va : Int) ≤ (vb : Int)) = true := decide_eq_true (by have := up_more HVa.out HVb.out; omega); have hca : decide ((vc : Int) ≤ (va : Int)) = true := decide_eq_true (by have := up_runs HVa.out HVc.out; omega); have hba2 : (va : Int) ≤ (vb : Int) := of_decide_eq_true hba; have hca2 : (vc : Int) ≤ (va : Int) := of_decide_eq_true hca; clear hv hb)
    | (go_at_call 51; (with_reducible refine (upper_okI _ 0 0 0 rfl f ar HX4.out.o HI.out (by omega) (by omega) (by omega)).mono ?_); rintro e w5 ⟨v5, rfl, hv, hb⟩; obtain rfl := up_none HI.out hv; have HB5 := hide (HB4.out.trans (hb.mono HB4.out.size)); have HX5 := hide (HX4.out.below hb); have d0 := HX5.out.b.c0; have d1 := HX5.out.b.c1; clear hv hb)
    | (go_at_call 51; (with_reducible refine (upper_okI _ (q + 1 + 1) (1 + (q : Int) + 1) (m : Int) (by omega) f ar HX3.out.o HI.out (by omega) (by omega) (by omega)).mono ?_); rintro e w4 ⟨vc, rfl, hv, hb⟩; have HVc := hide hv; have HB4 := hide (HB3.out.trans (hb.mono HB3.out.size)); have HX4 := hide (HX3.out.below hb); have c0 := HX4.out.b.c0; have c1 := HX4.out.b.c1; clear hv hb)
    | (go_at_call 51; (with_reducible refine (upper_okI _ (q + 1) (1 + (q : Int)) ((m : Int) + 1) (by omega) f ar HX2.out.o HI.out (by omega) (by omega) (by omega)).mono ?_); rintro e w3 ⟨vb, rfl, hv, hb⟩; have HVb := hide hv; have HB3 := hide (HB2.out.trans (hb.mono HB2.out.size)); have HX3 := hide (HX2.out.below hb); have b0 := HX3.out.b.c0; have b1 := HX3.out.b.c1; clear hv hb)
    | (go_at_call 51; (with_reducible refine (upper_okI _ (q + 1) (1 + (q : Int)) (m : Int) (by omega) f ar HX.out.o HI.out (by omega) (by omega) (by omega)).mono ?_); rintro e w2 ⟨va, rfl, hv, hb⟩; have HVa := hide hv; have HB2 := hide (HB.out.trans (hb.mono HB.out.size)); have HX2 := hide (HX.out.below hb); have a0 := HX2.out.b.c0; have a1 := HX2.out.b.c1; clear hv hb))
  go_ret
  exact ⟨rfl, HB9.out⟩
end Go.Proofs.Ytnokfhkcfebimaa

/- Plain law of ReportCovers: the chance that a bound is missed. -/
namespace Go.Proofs.Ytnokfhkcfebimaa

theorem sm_single (r : Rat) (n k : Nat) : ∀ m, sm r n (fun i => decide (i = k)) m = if k < m then tm r n k else 0
  | 0 => rfl
  | m + 1 => by
    show sm r n (fun i => decide (i = k)) m + (if decide (m = k) = true then tm r n m else 0) = _
    rw [sm_single r n k m]
    rcases Nat.lt_trichotomy m k with h | h | h
    · rw [if_neg (by omega), if_neg (by simp; omega), if_neg (by omega), Rat.add_zero]
    · subst h
      rw [if_neg (by omega), if_pos (by simp), if_pos (by omega), Rat.zero_add]
    · rw [if_pos h, if_neg (by simp; omega), if_pos (by omega), Rat.add_zero]
theorem tot_single (r : Rat) {n k : Nat} (h : k ≤ n) : tot r n (fun i => decide (i = k)) = tm r n k := by
  unfold tot; rw [sm_single, if_pos (by omega)]
theorem sm_exact (r : Rat) {n : Nat} (f : Nat → Bool) {k : Nat} (h : k ≤ n) : sm r n f (k + 1) = if f k = true then sm r n f k + tot r n (fun i => decide (i = k)) else sm r n f k := by
  rw [tot_single r h]
  show sm r n f k + (if f k = true then tm r n k else 0) = _
  split
  · rfl
  · rw [Rat.add_zero]
/-- Those below some number. -/
theorem down_set {f : Nat → Bool} (hf : ∀ i, f (i + 1) = true → f i = true) : ∀ n, (∀ j, j ≤ n → f j = false) ∨ ∃ K, K ≤ n ∧ f K = true ∧ ∀ j, j ≤ n → f j = decide (j ≤ K)
  | 0 => by
    cases h : f 0 with
    | false => exact .inl (fun j hj => by rw [show j = 0 by omega]; exact h)
    | true => exact .inr ⟨0, Nat.le_refl _, h, fun j hj => by rw [show j = 0 by omega, h]; rfl⟩
  | n + 1 => by
    cases h : f (n + 1) with
    | true =>
      refine .inr ⟨n + 1, Nat.le_refl _, h, fun j hj => ?_⟩
      have : ∀ d, d ≤ n + 1 → f (n + 1 - d) = true := fun d => by
        induction d with
        | zero => intro _; exact h
        | succ d ih => intro hd; exact hf _ (by rw [show n + 1 - (d + 1) + 1 = n + 1 - d by omega]; exact ih (by omega))
      have h2 := this (n + 1 - j) (by omega)
      rw [show n + 1 - (n + 1 - j) = j by omega] at h2
      rw [h2]; exact (decide_eq_true hj).symm
    | false =>
      rcases down_set hf n with h1 | ⟨K, h1, h2, h3⟩
      · exact .inl (fun j hj => by
          by_cases hj2 : j = n + 1
          · rw [hj2]; exact h
          · exact h1 j (by omega))
      · exact .inr ⟨K, by omega, h2, fun j hj => by
          by_cases hj2 : j = n + 1
          · rw [hj2, h]; exact (decide_eq_false (by omega)).symm
          · exact h3 j (by omega)⟩
theorem tot_false {r : Rat} {n : Nat} {f : Nat → Bool} (h : ∀ j, j ≤ n → f j = false) : tot r n f = 0 := by
  rw [tot_congr (r := r) (g := fun _ => false) h]
  have : ∀ m, sm r n (fun _ => false) m = 0 := fun m => by
    induction m with
    | zero => rfl
    | succ m ih => show sm r n (fun _ => false) m + (if false = true then tm r n m else 0) = 0; rw [ih, if_neg (by decide), Rat.add_zero]
  exact this _
/-- Which numbers of misses give an upper bound below the rate. -/
def fU (n rate : Nat) (ar : Rat) (k : Nat) : Bool := decide (1 ≤ rate) && decide (atM (mkRat ((rate - 1 : Nat) : Int) 1000) n k ≤ ar)
def fL (n rate : Nat) (ar : Rat) (k : Nat) : Bool := decide (rate < 1000) && decide (atL (mkRat ((rate + 1 : Nat) : Int) 1000) n k ≤ ar)
theorem up_lt {n rate v : Nat} {ar : Rat} {k : Nat} (hr : rate ≤ 1000) (h : IsLst (fun (b : Nat) => decide (atM (mkRat (b : Int) 1000) n k ≤ ar)) 1000 v) : v < rate ↔ fU n rate ar k = true := by
  unfold fU
  rw [Bool.and_eq_true, decide_eq_true_eq]
  constructor
  · intro hv
    exact ⟨by omega, atM_step v (rate - 1) (by omega) (by omega) (h.2.2 (by omega))⟩
  · rintro ⟨h1, h2⟩
    rcases Nat.lt_or_ge v rate with h3 | h3
    · exact h3
    · have := h.2.1 (rate - 1) (by omega)
      dsimp only at this
      rw [h2] at this
      cases this
theorem low_gt {n rate v : Nat} {ar : Rat} {k : Nat} (h : IsGrt (fun (b : Nat) => decide (atL (mkRat (b : Int) 1000) n k ≤ ar)) 1000 v) : rate < v ↔ fL n rate ar k = true := by
  unfold fL
  rw [Bool.and_eq_true, decide_eq_true_eq]
  constructor
  · intro hv
    have hv1 := h.1
    rcases h.2.1 with h1 | h1
    · omega
    · exact ⟨by omega, atL_step (rate + 1) v (by omega) hv1 h1⟩
  · rintro ⟨h1, h2⟩
    rcases Nat.lt_or_ge rate v with h3 | h3
    · exact h3
    · rcases h.2.2 with h4 | h4
      · omega
      · have := atL_step (ar := ar) (n := n) (m := k) (v + 1) (rate + 1) (by omega) (by omega) h2
        dsimp only at h4
        rw [this] at h4
        cases h4
theorem under_le {n rate : Nat} {ar : Rat} (hr : rate ≤ 1000) (ha : 0 ≤ ar) : tot (mkRat (rate : Int) 1000) n (fU n rate ar) ≤ ar := by
  have hdn : ∀ i, fU n rate ar (i + 1) = true → fU n rate ar i = true := fun i h => by
    unfold fU at h ⊢
    rw [Bool.and_eq_true, decide_eq_true_eq, decide_eq_true_eq] at h ⊢
    exact ⟨h.1, Rat.le_trans (atM_more (mk1000_chn (by omega)).h0 (mk1000_chn (by omega)).h1 n (by omega)) h.2⟩
  rcases down_set hdn n with h | ⟨K, h1, h2, h3⟩
  · rw [tot_false h]; exact ha
  · rw [tot_congr (r := mkRat (rate : Int) 1000) (g := fun j => decide ((j : Int) ≤ (K : Int))) (fun j hj => by rw [h3 j hj]; exact decide_eq_decide.2 (by omega))]
    unfold fU at h2
    rw [Bool.and_eq_true, decide_eq_true_eq, decide_eq_true_eq] at h2
    exact Rat.le_trans (atM_anti (mk1000_chn (by omega)).h0 (mk1000_chn hr).h1 (mk1000_le (by omega)) n (K : Int)) h2.2
/-- Those at or above some number. -/
theorem up_set {f : Nat → Bool} (hf : ∀ i, f i = true → f (i + 1) = true) : ∀ n, (∀ j, j ≤ n → f j = false) ∨ ∃ K, K ≤ n ∧ f K = true ∧ ∀ j, j ≤ n → f j = decide (K ≤ j)
  | 0 => by
    cases h : f 0 with
    | false => exact .inl (fun j hj => by rw [show j = 0 by omega]; exact h)
    | true => exact .inr ⟨0, Nat.le_refl _, h, fun j hj => by rw [show j = 0 by omega, h]; rfl⟩
  | n + 1 => by
    rcases up_set hf n with h1 | ⟨K, h1, h2, h3⟩
    · cases h : f (n + 1) with
      | false => exact .inl (fun j hj => by
          by_cases hj2 : j = n + 1
          · rw [hj2]; exact h
          · exact h1 j (by omega))
      | true => exact .inr ⟨n + 1, Nat.le_refl _, h, fun j hj => by
          by_cases hj2 : j = n + 1
          · rw [hj2, h]; exact (decide_eq_true (by omega)).symm
          · rw [h1 j (by omega)]; exact (decide_eq_false (by omega)).symm⟩
    · refine .inr ⟨K, by omega, h2, fun j hj => ?_⟩
      by_cases hj2 : j = n + 1
      · have h4 := hf n (by rw [h3 n (Nat.le_refl _)]; exact decide_eq_true h1)
        rw [hj2, h4]; exact (decide_eq_true (by omega)).symm
      · exact h3 j (by omega)
theorem over_le {n rate : Nat} {ar : Rat} (ha : 0 ≤ ar) : tot (mkRat (rate : Int) 1000) n (fL n rate ar) ≤ ar := by
  have hup : ∀ i, fL n rate ar i = true → fL n rate ar (i + 1) = true := fun i h => by
    unfold fL at h ⊢
    rw [Bool.and_eq_true, decide_eq_true_eq, decide_eq_true_eq] at h ⊢
    exact ⟨h.1, Rat.le_trans (atL_less (mk1000_chn (by omega)).h0 (mk1000_chn (by omega)).h1 n (by omega)) h.2⟩
  rcases up_set hup n with h | ⟨K, h1, h2, h3⟩
  · rw [tot_false h]; exact ha
  · rw [tot_congr (r := mkRat (rate : Int) 1000) (g := fun j => decide ((K : Int) ≤ (j : Int))) (fun j hj => by rw [h3 j hj]; exact decide_eq_decide.2 (by omega))]
    unfold fL at h2
    rw [Bool.and_eq_true, decide_eq_true_eq, decide_eq_true_eq] at h2
    exact Rat.le_trans (atL_grow (mk1000_chn (by omega)).h0 (mk1000_chn (by omega)).h1 (mk1000_le (by omega)) n (K : Int)) h2.2
end Go.Proofs.Ytnokfhkcfebimaa

/- The walk of the law ReportLeast. -/
namespace Go.Proofs.Ytnokfhkcfebimaa
open Go.RowKit

theorem sm1000 (w : World) (b : Nat) (B : Int) (hB : B = b) (hb : b ≤ 1000) : Calls Try.prog 40 #[.int .i64 B, .int .i64 1000] w fun e w' => Ret1 w (some (mkRat (b : Int) 1000)) e w' := by
  subst hB; exact small_any w b 1000 (by omega) (by omega) (by omega)
/-- The level's box. -/
structure SL (w0 v : World) (g : Nat) (f : Fa) (ar : Rat) : Prop where
  bw : Below w0.heap.size w0 v
  x : Bf v g f ar
theorem SL.below {w0 v v' : World} {g : Nat} {f : Fa} {ar : Rat} (h : SL w0 v g f ar) (hb : Below v.heap.size v v') : SL w0 v' g f ar := ⟨h.bw.trans (hb.mono h.bw.size), h.x.below hb⟩
set_option maxRecDepth 100000 in
set_option maxHeartbeats 16000000 in
theorem least_walk (w : World) (A : Option Addr) (n c : Nat) (l : List Int) (X Y : Int) (hA : Rs w none 1 iv A l) (hl : l.length = n) :
    Calls Try.prog 16 #[.slice A n c, .int .i64 X, .int .i64 Y] w fun e w' => e = .returned (.bool true) ∧ Below w.heap.size w w' := by
  have HP := hide (tp_new (w := w) (c := c) hA hl 32)
  obtain ⟨q, hq, hF⟩ := fold_nat X 12 (by omega) (by omega)
  obtain ⟨m, hm, hG⟩ := fold_nat Y ((q : Int) + 1) (by omega) (by omega)
  have HFX := hide hF
  have HFY := hide hG
  have hmq : m ≤ q := by omega
  have hq10 : q ≤ 11 := by omega
  clear hA hl hF hG hq hm
  go_enter Try.func16, Try.ntmps16
  go_upto_region 2 with (go_at_call 50; refine (level_any _ w.heap.size A n c l 0 HP.out (by omega)).mono ?_; rintro e w1 ⟨f, ar, rfl, ho, hi, hf⟩; have HFr := hide hf; have HO := hide ho; have HI := hide hi; clear ho hi hf)
  generalize hW : World.alloc w1 _ = v
  have HB1 := hide (fr_new rfl HFr.out)
  have HX := hide (show Bf v w1.heap.size f ar by rw [← hW]; exact ⟨Bq.mk0 _ f rfl, HO.out.alloc _⟩)
  have HB := hide (show Below w.heap.size w v by rw [← hW]; exact HB1.out.alloc HB1.out.size _)
  obtain ⟨g, hg⟩ : ∃ g, g = w1.heap.size := ⟨_, rfl⟩
  rw [← hg] at HX ⊢
  clear hW hg
  go_upto_region 4 with (first
    | (go_at_call 20; (with_reducible refine (HFX.out _).mono ?_); rintro e w' ⟨rfl, rfl⟩)
    | (go_at_call 20; (with_reducible refine (HFY.out _).mono ?_); rintro e w' ⟨rfl, rfl⟩))
  have x0 := HX.out.b.c0
  have x1 := HX.out.b.c1
  go_upto_region 6 with (first
    | (go_at_call 52; (with_reducible refine (lower_okI _ q (q : Int) (m : Int) rfl f ar HX2.out.o HI.out (by omega) (by omega) (by omega)).mono ?_); rintro e w3 ⟨vb, rfl, hv, hb⟩; have HVb := hide hv; have HB3 := hide (HB2.out.trans (hb.mono HB2.out.size)); have HX3 := hide (HX2.out.below hb); clear hv hb)
    | (go_at_call 51; (with_reducible refine (upper_okI _ q (q : Int) (m : Int) rfl f ar HX.out.o HI.out (by omega) (by omega) (by omega)).mono ?_); rintro e w2 ⟨va, rfl, hv, hb⟩; have HVa := hide hv; have HB2 := hide (HB.out.trans (hb.mono HB.out.size)); have HX2 := hide (HX.out.below hb); have a0 := HX2.out.b.c0; have a1 := HX2.out.b.c1; clear hv hb))
  have ha1 : va ≤ 1000 := HVa.out.1
  have hb1 : vb ≤ 1000 := HVb.out.1
  have k1 : decide ((va : Int) < 0) = false := decide_eq_false (by omega)
  have k2 : decide ((1000 : Int) < (va : Int)) = false := decide_eq_false (by omega)
  have k3 : decide ((vb : Int) < 0) = false := decide_eq_false (by omega)
  have k4 : decide ((1000 : Int) < (vb : Int)) = false := decide_eq_false (by omega)
  have HCa := hide (mk1000_chn ha1)
  have HCb := hide (mk1000_chn hb1)
  clear x0 x1 a0 a1
  go_upto_region 9 with (first
    | (go_at_call 53; (with_reducible refine (atmost_ok _ f8 _ q (m : Int) HO8.out HCa.out (by omega)).mono ?_); rintro e w5 ⟨f9, rfl, ho, hb⟩; have HO9 := hide ho; have HB5 := hide (HB4.out.trans (hb.mono HB4.out.size)); have HX5 := hide (HX4.out.below hb); clear ho hb)
    | (go_at_call 40; (with_reducible refine (sm1000 _ va (va : Int) rfl ha1).mono ?_); rintro e w4 ⟨f8, rfl, ho, hb⟩; have HO8 := hide ho; have HB4 := hide (HB3.out.trans (hb.mono HB3.out.size)); have HX4 := hide (HX3.out.below hb); clear ho hb))
  generalize hW : World.alloc w5 _ = v6
  have HX6 := hide (show Bf v6 w5.heap.size f9 (atM (mkRat (va : Int) 1000) q (m : Int)) by rw [← hW]; exact ⟨Bq.mk0 _ f9 rfl, HO9.out.alloc _⟩)
  have HS6 := hide (show SL w v6 g f ar by rw [← hW]; exact ⟨HB5.out.alloc HB5.out.size _, HX5.out.alloc _⟩)
  obtain ⟨g6, hg6⟩ : ∃ g, g = w5.heap.size := ⟨_, rfl⟩
  rw [← hg6] at HX6 ⊢
  have p0 := HX6.out.b.c0
  have p1 := HX6.out.b.c1
  have p2 := HS6.out.x.b.c0
  have p3 := HS6.out.x.b.c1
  clear hW hg6 k1 k2 k3 k4
  go_cut [83] from 72 to 83 (fun s83 wx => s83 = .bool false ∧ Hid (SL w wx g f ar))
  case first =>
    by_cases h1 : atM (mkRat (va : Int) 1000) q (m : Int) ≤ ar
    · go_wp2_with (go_at_call 37; (with_reducible refine (fcmp_sgn _ f9 f _ ar HX6.out.o HS6.out.x.o).mono ?_); rintro e w7 ⟨z, rfl, hz1, hz2, hz3, hz4, hb⟩; have hzz : decide (0 < z) = false := decide_eq_false (fun h => absurd (hz3.1 h) (Rat.not_lt.2 h1)); have hzy : z ≤ 0 := hz1.2 h1; have HS7 := hide (HS6.out.below hb); clear hz1 hz2 hz3 hz4 hb)
      go_meet
      case rel => exact ⟨rfl, HS7⟩
    · have hvM : ¬ va < 1000 := fun h => h1 (of_decide_eq_true (HVa.out.2.2 h))
      have hvd : decide ((va : Int) < 1000) = false := decide_eq_false (by omega)
      have hvd2 : (1000 : Int) ≤ (va : Int) := by omega
      go_wp2_with (go_at_call 37; (with_reducible refine (fcmp_sgn _ f9 f _ ar HX6.out.o HS6.out.x.o).mono ?_); rintro e w7 ⟨z, rfl, hz1, hz2, hz3, hz4, hb⟩; have hzz : decide (0 < z) = true := decide_eq_true (hz3.2 (Rat.not_le.1 h1)); have hzy : 0 < z := hz3.2 (Rat.not_le.1 h1); have HS7 := hide (HS6.out.below hb); clear hz1 hz2 hz3 hz4 hb)
      go_meet
      case rel => exact ⟨rfl, HS7⟩
  case rest =>
    obtain ⟨rfl, HS8⟩ := hcut
    clear p0 p1 p2 p3
    by_cases hv1 : 0 < va
    · have hd1 : decide ((0 : Int) < (va : Int)) = true := decide_eq_true (by omega)
      have hd2 : (0 : Int) < (va : Int) := by omega
      have hnot : ¬ (atM (mkRat ((va - 1 : Nat) : Int) 1000) q (m : Int) ≤ ar) := of_decide_eq_false (HVa.out.2.1 (va - 1) (by omega))
      have HNA := hide hnot
      have hv11 : va - 1 ≤ 1000 := by omega
      have HC11 := hide (mk1000_chn hv11)
      clear hnot
      go_upto_region 13 with (first
        | (go_at_call 53; (with_reducible refine (atmost_ok _ k8 _ q (m : Int) HPk.out HC11.out (by omega)).mono ?_); rintro e wl ⟨k9, rfl, ho, hb⟩; have HPl := hide ho; have HSl := hide (HSk.out.below hb); clear ho hb)
        | (go_at_call 40; (with_reducible refine (sm1000 _ (va - 1) ((va : Int) - 1) (by omega) hv11).mono ?_); rintro e wk ⟨k8, rfl, ho, hb⟩; have HPk := hide ho; have HSk := hide (HS8.out.below hb); clear ho hb))
      generalize hW : World.alloc wl _ = vL
      have HXl := hide (show Bf vL wl.heap.size k9 (atM (mkRat ((va - 1 : Nat) : Int) 1000) q (m : Int)) by rw [← hW]; exact ⟨Bq.mk0 _ k9 rfl, HPl.out.alloc _⟩)
      have HSm := hide (show SL w vL g f ar by rw [← hW]; exact HSl.out.below ((Below.refl _ _).alloc (Nat.le_refl _) _))
      obtain ⟨gL, hgL⟩ : ∃ g, g = wl.heap.size := ⟨_, rfl⟩
      rw [← hgL] at HXl ⊢
      have t0 := HXl.out.b.c0
      have t1 := HXl.out.b.c1
      have t2 := HSm.out.x.b.c0
      have t3 := HSm.out.x.b.c1
      clear hW hgL
      go_upto_region 15 with (go_at_call 37; (with_reducible refine (fcmp_sgn _ k9 f _ ar HXl.out.o HSm.out.x.o).mono ?_); rintro e wn ⟨z, rfl, hz1, hz2, hz3, hz4, hb⟩; have hzz : decide (z ≤ 0) = false := decide_eq_false (fun h => HNA.out (hz1.1 h)); have hzy : 0 < z := hz3.2 (Rat.not_le.1 HNA.out); have HS9 := hide (HSm.out.below hb); clear hz1 hz2 hz3 hz4 hb)
      clear t0 t1 t2 t3 hzz hzy hd1 hd2
      go_upto_region 16 with (first
        | (go_at_call 54; (with_reducible refine (atleast_ok _ h8 _ q (m : Int) HPa.out HCb.out (by omega)).mono ?_); rintro e wb ⟨h9, rfl, ho, hb⟩; have HPb := hide ho; have HSb := hide (HSa.out.below hb); clear ho hb)
        | (go_at_call 40; (with_reducible refine (sm1000 _ vb (vb : Int) rfl hb1).mono ?_); rintro e wa ⟨h8, rfl, ho, hb⟩; have HPa := hide ho; have HSa := hide (HS9.out.below hb); clear ho hb))
      generalize hW : World.alloc wb _ = vB
      have HXb := hide (show Bf vB wb.heap.size h9 (atL (mkRat (vb : Int) 1000) q (m : Int)) by rw [← hW]; exact ⟨Bq.mk0 _ h9 rfl, HPb.out.alloc _⟩)
      have HSc := hide (show SL w vB g f ar by rw [← hW]; exact HSb.out.below ((Below.refl _ _).alloc (Nat.le_refl _) _))
      obtain ⟨gB, hgB⟩ : ∃ g, g = wb.heap.size := ⟨_, rfl⟩
      rw [← hgB] at HXb ⊢
      have r0 := HXb.out.b.c0
      have r1 := HXb.out.b.c1
      have r2 := HSc.out.x.b.c0
      have r3 := HSc.out.x.b.c1
      clear hW hgB
      go_cut [122] from 111 to 122 (fun s122 wx => s122 = .bool false ∧ Hid (SL w wx g f ar))
      case first =>
        by_cases h2 : atL (mkRat (vb : Int) 1000) q (m : Int) ≤ ar
        · go_wp2_with (go_at_call 37; (with_reducible refine (fcmp_sgn _ h9 f _ ar HXb.out.o HSc.out.x.o).mono ?_); rintro e wd ⟨z, rfl, hz1, hz2, hz3, hz4, hb⟩; have hzz : decide (0 < z) = false := decide_eq_false (fun h => absurd (hz3.1 h) (Rat.not_lt.2 h2)); have hzy : z ≤ 0 := hz1.2 h2; have HSd := hide (HSc.out.below hb); clear hz1 hz2 hz3 hz4 hb)
          go_meet
          case rel => exact ⟨rfl, HSd⟩
        · have hv0 : vb = 0 := by
            rcases HVb.out.2.1 with h | h
            · exact h
            · exact absurd (of_decide_eq_true h) h2
          have hvd : decide ((0 : Int) < (vb : Int)) = false := decide_eq_false (by omega)
          have hvd2 : (vb : Int) ≤ 0 := by omega
          clear hv0
          go_wp2_with (go_at_call 37; (with_reducible refine (fcmp_sgn _ h9 f _ ar HXb.out.o HSc.out.x.o).mono ?_); rintro e wd ⟨z, rfl, hz1, hz2, hz3, hz4, hb⟩; have hzz : decide (0 < z) = true := decide_eq_true (hz3.2 (Rat.not_le.1 h2)); have hzy : 0 < z := hz3.2 (Rat.not_le.1 h2); have HSd := hide (HSc.out.below hb); clear hz1 hz2 hz3 hz4 hb)
          go_meet
          case rel => exact ⟨by rw [show decide (0 < vb) = false from decide_eq_false (by omega)], HSd⟩
      case rest =>
        obtain ⟨rfl, HSe⟩ := hcut
        clear r0 r1 r2 r3
        by_cases hv9 : vb < 1000
        · have hd9 : decide ((vb : Int) < 1000) = true := decide_eq_true (by omega)
          have hd8 : (vb : Int) < 1000 := by omega
          have hnot : ¬ (atL (mkRat ((vb + 1 : Nat) : Int) 1000) q (m : Int) ≤ ar) := by
            rcases HVb.out.2.2 with h | h
            · omega
            · exact of_decide_eq_false h
          have HNOT := hide hnot
          have hv10 : vb + 1 ≤ 1000 := by omega
          have HC10 := hide (mk1000_chn hv10)
          clear hnot
          go_upto_region 20 with (first
            | (go_at_call 54; (with_reducible refine (atleast_ok _ i8 _ q (m : Int) HPf.out HC10.out (by omega)).mono ?_); rintro e wg ⟨i9, rfl, ho, hb⟩; have HPg := hide ho; have HSg := hide (HSf.out.below hb); clear ho hb)
            | (go_at_call 40; (with_reducible refine (sm1000 _ (vb + 1) ((vb : Int) + 1) (by omega) hv10).mono ?_); rintro e wf ⟨i8, rfl, ho, hb⟩; have HPf := hide ho; have HSf := hide (HSe.out.below hb); clear ho hb))
          generalize hW : World.alloc wg _ = vG
          have HXg := hide (show Bf vG wg.heap.size i9 (atL (mkRat ((vb + 1 : Nat) : Int) 1000) q (m : Int)) by rw [← hW]; exact ⟨Bq.mk0 _ i9 rfl, HPg.out.alloc _⟩)
          have HSh := hide (show SL w vG g f ar by rw [← hW]; exact HSg.out.below ((Below.refl _ _).alloc (Nat.le_refl _) _))
          obtain ⟨gG, hgG⟩ : ∃ g, g = wg.heap.size := ⟨_, rfl⟩
          rw [← hgG] at HXg ⊢
          have s0 := HXg.out.b.c0
          have s1 := HXg.out.b.c1
          have s2 := HSh.out.x.b.c0
          have s3 := HSh.out.x.b.c1
          clear hW hgG
          go_wp2_with (first
            | (go_at_call 55; (with_reducible refine (pknown_any _).mono ?_); rintro e w9 ⟨rfl, hb⟩; have HB9 := hide (HSi.out.bw.trans (hb.mono HSi.out.bw.size)); clear hb)
            | (go_at_call 37; (with_reducible refine (fcmp_sgn _ i9 f _ ar HXg.out.o HSh.out.x.o).mono ?_); rintro e wi ⟨z, rfl, hz1, hz2, hz3, hz4, hb⟩; have hzz : decide (z ≤ 0) = false := decide_eq_false (fun h => HNOT.out (hz1.1 h)); have hzy : 0 < z := hz3.2 (Rat.not_le.1 HNOT.out); have HSi := hide (HSh.out.below hb); clear hz1 hz2 hz3 hz4 hb))
          go_ret
          exact ⟨rfl, HB9.out⟩
        · have hd9 : decide ((vb : Int) < 1000) = false := decide_eq_false (by omega)
          have hd8 : (1000 : Int) ≤ (vb : Int) := by omega
          go_wp2_with (go_at_call 55; (with_reducible refine (pknown_any _).mono ?_); rintro e w9 ⟨rfl, hb⟩; have HB9 := hide (HSe.out.bw.trans (hb.mono HSe.out.bw.size)); clear hb)
          go_ret
          exact ⟨rfl, HB9.out⟩
    · have hd1 : decide ((0 : Int) < (va : Int)) = false := decide_eq_false (by omega)
      have hd2 : (va : Int) ≤ 0 := by omega
      have HS9 := HS8
      go_upto_region 15 with (fail)
      clear hd1 hd2
      go_upto_region 16 with (first
        | (go_at_call 54; (with_reducible refine (atleast_ok _ h8 _ q (m : Int) HPa.out HCb.out (by omega)).mono ?_); rintro e wb ⟨h9, rfl, ho, hb⟩; have HPb := hide ho; have HSb := hide (HSa.out.below hb); clear ho hb)
        | (go_at_call 40; (with_reducible refine (sm1000 _ vb (vb : Int) rfl hb1).mono ?_); rintro e wa ⟨h8, rfl, ho, hb⟩; have HPa := hide ho; have HSa := hide (HS9.out.below hb); clear ho hb))
      generalize hW : World.alloc wb _ = vB
      have HXb := hide (show Bf vB wb.heap.size h9 (atL (mkRat (vb : Int) 1000) q (m : Int)) by rw [← hW]; exact ⟨Bq.mk0 _ h9 rfl, HPb.out.alloc _⟩)
      have HSc := hide (show SL w vB g f ar by rw [← hW]; exact HSb.out.below ((Below.refl _ _).alloc (Nat.le_refl _) _))
      obtain ⟨gB, hgB⟩ : ∃ g, g = wb.heap.size := ⟨_, rfl⟩
      rw [← hgB] at HXb ⊢
      have r0 := HXb.out.b.c0
      have r1 := HXb.out.b.c1
      have r2 := HSc.out.x.b.c0
      have r3 := HSc.out.x.b.c1
      clear hW hgB
      go_cut [122] from 111 to 122 (fun s122 wx => s122 = .bool false ∧ Hid (SL w wx g f ar))
      case first =>
        by_cases h2 : atL (mkRat (vb : Int) 1000) q (m : Int) ≤ ar
        · go_wp2_with (go_at_call 37; (with_reducible refine (fcmp_sgn _ h9 f _ ar HXb.out.o HSc.out.x.o).mono ?_); rintro e wd ⟨z, rfl, hz1, hz2, hz3, hz4, hb⟩; have hzz : decide (0 < z) = false := decide_eq_false (fun h => absurd (hz3.1 h) (Rat.not_lt.2 h2)); have hzy : z ≤ 0 := hz1.2 h2; have HSd := hide (HSc.out.below hb); clear hz1 hz2 hz3 hz4 hb)
          go_meet
          case rel => exact ⟨rfl, HSd⟩
        · have hv0 : vb = 0 := by
            rcases HVb.out.2.1 with h | h
            · exact h
            · exact absurd (of_decide_eq_true h) h2
          have hvd : decide ((0 : Int) < (vb : Int)) = false := decide_eq_false (by omega)
          have hvd2 : (vb : Int) ≤ 0 := by omega
          clear hv0
          go_wp2_with (go_at_call 37; (with_reducible refine (fcmp_sgn _ h9 f _ ar HXb.out.o HSc.out.x.o).mono ?_); rintro e wd ⟨z, rfl, hz1, hz2, hz3, hz4, hb⟩; have hzz : decide (0 < z) = true := decide_eq_true (hz3.2 (Rat.not_le.1 h2)); have hzy : 0 < z := hz3.2 (Rat.not_le.1 h2); have HSd := hide (HSc.out.below hb); clear hz1 hz2 hz3 hz4 hb)
          go_meet
          case rel => exact ⟨by rw [show decide (0 < vb) = false from decide_eq_false (by omega)], HSd⟩
      case rest =>
        obtain ⟨rfl, HSe⟩ := hcut
        clear r0 r1 r2 r3
        by_cases hv9 : vb < 1000
        · have hd9 : decide ((vb : Int) < 1000) = true := decide_eq_true (by omega)
          have hd8 : (vb : Int) < 1000 := by omega
          have hnot : ¬ (atL (mkRat ((vb + 1 : Nat) : Int) 1000) q (m : Int) ≤ ar) := by
            rcases HVb.out.2.2 with h | h
            · omega
            · exact of_decide_eq_false h
          have HNOT := hide hnot
          have hv10 : vb + 1 ≤ 1000 := by omega
          have HC10 := hide (mk1000_chn hv10)
          clear hnot
          go_upto_region 20 with (first
            | (go_at_call 54; (with_reducible refine (atleast_ok _ i8 _ q (m : Int) HPf.out HC10.out (by omega)).mono ?_); rintro e wg ⟨i9, rfl, ho, hb⟩; have HPg := hide ho; have HSg := hide (HSf.out.below hb); clear ho hb)
            | (go_at_call 40; (with_reducible refine (sm1000 _ (vb + 1) ((vb : Int) + 1) (by omega) hv10).mono ?_); rintro e wf ⟨i8, rfl, ho, hb⟩; have HPf := hide ho; have HSf := hide (HSe.out.below hb); clear ho hb))
          generalize hW : World.alloc wg _ = vG
          have HXg := hide (show Bf vG wg.heap.size i9 (atL (mkRat ((vb + 1 : Nat) : Int) 1000) q (m : Int)) by rw [← hW]; exact ⟨Bq.mk0 _ i9 rfl, HPg.out.alloc _⟩)
          have HSh := hide (show SL w vG g f ar by rw [← hW]; exact HSg.out.below ((Below.refl _ _).alloc (Nat.le_refl _) _))
          obtain ⟨gG, hgG⟩ : ∃ g, g = wg.heap.size := ⟨_, rfl⟩
          rw [← hgG] at HXg ⊢
          have s0 := HXg.out.b.c0
          have s1 := HXg.out.b.c1
          have s2 := HSh.out.x.b.c0
          have s3 := HSh.out.x.b.c1
          clear hW hgG
          go_wp2_with (first
            | (go_at_call 55; (with_reducible refine (pknown_any _).mono ?_); rintro e w9 ⟨rfl, hb⟩; have HB9 := hide (HSi.out.bw.trans (hb.mono HSi.out.bw.size)); clear hb)
            | (go_at_call 37; (with_reducible refine (fcmp_sgn _ i9 f _ ar HXg.out.o HSh.out.x.o).mono ?_); rintro e wi ⟨z, rfl, hz1, hz2, hz3, hz4, hb⟩; have hzz : decide (z ≤ 0) = false := decide_eq_false (fun h => HNOT.out (hz1.1 h)); have hzy : 0 < z := hz3.2 (Rat.not_le.1 HNOT.out); have HSi := hide (HSh.out.below hb); clear hz1 hz2 hz3 hz4 hb))
          go_ret
          exact ⟨rfl, HB9.out⟩
        · have hd9 : decide ((vb : Int) < 1000) = false := decide_eq_false (by omega)
          have hd8 : (1000 : Int) ≤ (vb : Int) := by omega
          go_wp2_with (go_at_call 55; (with_reducible refine (pknown_any _).mono ?_); rintro e w9 ⟨rfl, hb⟩; have HB9 := hide (HSe.out.bw.trans (hb.mono HSe.out.bw.size)); clear hb)
          go_ret
          exact ⟨rfl, HB9.out⟩
end Go.Proofs.Ytnokfhkcfebimaa

/- The walk of the law ReportCovers. -/
namespace Go.Proofs.Ytnokfhkcfebimaa
open Go.RowKit

theorem sm01 (w : World) : Calls Try.prog 40 #[.int .i64 0, .int .i64 1] w fun e w' => Ret1 w (some 0) e w' := by
  have := small_any w 0 1 (by omega) (by omega) (by omega)
  rwa [show mkRat ((0 : Nat) : Int) 1 = 0 by decide +kernel] at this
theorem exactly_okK (w : World) (a : Fa) (r : Rat) (n k : Nat) (ha : Fo w a (some r)) (hc : Chn r) (hn : n ≤ 32) : Calls Try.prog 56 #[.agg #[.slice a.A a.n a.c, .slice a.B a.m a.d], .int .i64 (n : Int), .int .i64 (k : Int)] w fun e w' => RetV w (tot r n (fun i => decide (i = k))) e w' := by
  have h := exactly_ok w a r n (k : Int) ha hc hn
  have e : (fun j : Nat => decide ((j : Int) = (k : Int))) = fun i => decide (i = k) := by
    funext j
    exact decide_eq_decide.2 (by omega)
  rwa [e] at h
/-- The level's box and the two sums. -/
structure SC (w0 v : World) (g : Nat) (f : Fa) (ar : Rat) (b8 b9 : Nat) (u o : Rat) : Prop where
  bw : Below w0.heap.size w0 v
  x : Bf v g f ar
  u : ∃ c, Bf v b8 c u
  o : ∃ c, Bf v b9 c o
  h1 : w0.heap.size ≤ g
  h2 : g < b8
  h3 : b8 < b9
section
variable {w0 v v' : World} {g : Nat} {f : Fa} {ar : Rat} {b8 b9 : Nat} {u o : Rat}
theorem SC.below (h : SC w0 v g f ar b8 b9 u o) (hb : Below v.heap.size v v') : SC w0 v' g f ar b8 b9 u o := by
  obtain ⟨c, k⟩ := h.u
  obtain ⟨d, m⟩ := h.o
  exact ⟨h.bw.trans (hb.mono h.bw.size), h.x.below hb, ⟨c, k.below hb⟩, ⟨d, m.below hb⟩, h.h1, h.h2, h.h3⟩
theorem SC.setU (h : SC w0 v g f ar b8 b9 u o) {c : Fa} {q : Rat} (hc : Fo v c (some q)) : SC w0 ((v.setCell ⟨b8, 0, none⟩ (.slice c.A c.n c.c)).setCell ⟨b8, 1, none⟩ (.slice c.B c.m c.d)) g f ar b8 b9 q o := by
  obtain ⟨c', k⟩ := h.u
  obtain ⟨d, m⟩ := h.o
  have hf := fr_fill (w := v) (g := b8) (.slice c.A c.n c.c) (.slice c.B c.m c.d)
  have i1 := h.h1
  have i2 := h.h2
  have i3 := h.h3
  exact ⟨((Fr.of_below (fun b => b = b8) h.bw).trans hf).below (Nat.le_refl _) (fun k hk e => by omega), h.x.one hf k.b.nb (by omega), ⟨c, ⟨k.b.fill c, hc.one hf k.b.nb⟩⟩, ⟨d, m.one hf k.b.nb (by omega)⟩, h.h1, h.h2, h.h3⟩
theorem SC.setO (h : SC w0 v g f ar b8 b9 u o) {c : Fa} {q : Rat} (hc : Fo v c (some q)) : SC w0 ((v.setCell ⟨b9, 0, none⟩ (.slice c.A c.n c.c)).setCell ⟨b9, 1, none⟩ (.slice c.B c.m c.d)) g f ar b8 b9 u q := by
  obtain ⟨c', k⟩ := h.u
  obtain ⟨d, m⟩ := h.o
  have hf := fr_fill (w := v) (g := b9) (.slice c.A c.n c.c) (.slice c.B c.m c.d)
  have i1 := h.h1
  have i2 := h.h2
  have i3 := h.h3
  exact ⟨((Fr.of_below (fun b => b = b9) h.bw).trans hf).below (Nat.le_refl _) (fun k hk e => by omega), h.x.one hf m.b.nb (by omega), ⟨c', k.one hf m.b.nb (by omega)⟩, ⟨c, ⟨m.b.fill c, hc.one hf m.b.nb⟩⟩, h.h1, h.h2, h.h3⟩
end
set_option maxRecDepth 100000 in
set_option maxHeartbeats 16000000 in
theorem covers_walk (w : World) (A : Option Addr) (n c : Nat) (l : List Int) (X Y : Int) (hA : Rs w none 1 iv A l) (hl : l.length = n) :
    Calls Try.prog 18 #[.slice A n c, .int .i64 X, .int .i64 Y] w fun e w' => e = .returned (.bool true) ∧ Below w.heap.size w w' := by
  have HP := hide (tp_new (w := w) (c := c) hA hl 32)
  obtain ⟨q, hq, hF⟩ := fold_nat X 9 (by omega) (by omega)
  obtain ⟨rt, hm, hG⟩ := fold_nat Y 1001 (by omega) (by omega)
  have HFX := hide hF
  have HFY := hide hG
  have hq8 : q ≤ 8 := by omega
  have hrt : rt ≤ 1000 := by omega
  clear hA hl hF hG hq hm
  go_enter Try.func18, Try.ntmps18
  go_upto_region 2 with (go_at_call 50; refine (level_any _ w.heap.size A n c l 0 HP.out (by omega)).mono ?_; rintro e w1 ⟨f, ar, rfl, ho, hi, hf⟩; have HFr := hide hf; have HO := hide ho; have HI := hide hi; clear ho hi hf)
  generalize hW : World.alloc w1 _ = v
  have HB1 := hide (fr_new rfl HFr.out)
  have HX := hide (show Bf v w1.heap.size f ar by rw [← hW]; exact ⟨Bq.mk0 _ f rfl, HO.out.alloc _⟩)
  have HB := hide (show Below w.heap.size w v by rw [← hW]; exact HB1.out.alloc HB1.out.size _)
  have hgw := HB1.out.size
  obtain ⟨g, hg⟩ : ∃ g, g = w1.heap.size := ⟨_, rfl⟩
  rw [← hg] at HX hgw ⊢
  clear hW hg
  go_upto_region 3 with (first
    | (go_at_call 20; (with_reducible refine (HFX.out _).mono ?_); rintro e w' ⟨rfl, rfl⟩)
    | (go_at_call 20; (with_reducible refine (HFY.out _).mono ?_); rintro e w' ⟨rfl, rfl⟩))
  go_upto_region 4 with (first
    | (go_at_call 40; (with_reducible refine (sm01 _).mono ?_); rintro e w3 ⟨c2, rfl, ho, hb⟩; have HO3 := hide ho; have HO23 := hide (HO2.out.below hb); have HX3 := hide (HX2.out.below hb); have HB3 := hide (HB2.out.trans (hb.mono HB2.out.size)); clear ho hb)
    | (go_at_call 40; (with_reducible refine (sm01 _).mono ?_); rintro e w2 ⟨c1, rfl, ho, hb⟩; have HO2 := hide ho; have HX2 := hide (HX.out.below hb); have HB2 := hide (HB.out.trans (hb.mono HB.out.size)); clear ho hb))
  generalize hW : World.alloc (World.alloc w3 _) _ = v3
  have HS := hide (show SC w v3 g f ar w3.heap.size (w3.heap.size + 1) (sm (mkRat (rt : Int) 1000) q (fU q rt ar) 0) (sm (mkRat (rt : Int) 1000) q (fL q rt ar) 0) by
    rw [← hW]
    have hgz := HX3.out.b.sz
    exact ⟨HB3.out.trans ((((Below.refl _ _).alloc (Nat.le_refl _) _).alloc (by simp) _ : Below w3.heap.size w3 _).mono HB3.out.size), (HX3.out.alloc _).alloc _, ⟨c1, ⟨(Bq.mk0 _ c1 rfl).alloc _, (HO23.out.alloc _).alloc _⟩⟩, ⟨c2, ⟨Bq.mk0 _ c2 (by simp), (HO3.out.alloc _).alloc _⟩⟩, hgw, hgz, by omega⟩)
  obtain ⟨b9, hb9⟩ : ∃ b, b = w3.heap.size + 1 := ⟨_, rfl⟩
  rw [← hb9] at HS ⊢
  obtain ⟨b8, hb8⟩ : ∃ b, b = w3.heap.size := ⟨_, rfl⟩
  rw [← hb8] at HS ⊢
  clear hW hb8 hb9
  have HCR := hide (mk1000_chn hrt)
  go_wp2_with fail
  go_loopw [10] (fun i wr => ∃ k : Nat, i = .int .i64 (k : Int) ∧ k ≤ q + 1 ∧ Hid (SC w wr g f ar b8 b9 (sm (mkRat (rt : Int) 1000) q (fU q rt ar) k) (sm (mkRat (rt : Int) 1000) q (fL q rt ar) k))) (fun i _ => q + 1 - (intOf i).toNat)
  case atStart => exact ⟨0, rfl, by omega, HS⟩
  case round =>
    obtain ⟨k, rfl, hk, HR⟩ := hrel
    by_cases hkq : k = q + 1
    · subst hkq
      have hle : decide (((q + 1 : Nat) : Int) ≤ (q : Int)) = false := decide_eq_false (by omega)
      have hle2 : (q : Int) < ((q + 1 : Nat) : Int) := by omega
      have HUN := hide (show sm (mkRat (rt : Int) 1000) q (fU q rt ar) (q + 1) ≤ ar from under_le hrt HI.out.c.h0)
      have HOV := hide (show sm (mkRat (rt : Int) 1000) q (fL q rt ar) (q + 1) ≤ ar from over_le HI.out.c.h0)
      obtain ⟨cu, hu⟩ := HR.out.u
      obtain ⟨co, ho⟩ := HR.out.o
      have HU := hide hu
      have HOo := hide ho
      have x0 := HR.out.x.b.c0
      have x1 := HR.out.x.b.c1
      have u0 := hu.b.c0
      have u1 := hu.b.c1
      clear hu ho
      go_wp2_with (first
        | (go_at_call 55; (with_reducible refine (pknown_any _).mono ?_); rintro e w9 ⟨rfl, hb⟩; have HB9 := hide (HR5.out.bw.trans (hb.mono HR5.out.bw.size)); clear hb)
        | (go_at_call 37; (with_reducible refine (fcmp_sgn _ co f _ ar HO4.out.o HR4.out.x.o).mono ?_); rintro e w5 ⟨z2, rfl, hz1, hz2, hz3, hz4, hb⟩; have hzz2 : decide (z2 ≤ 0) = true := decide_eq_true (hz1.2 HOV.out); have hzy2 : z2 ≤ 0 := hz1.2 HOV.out; have HR5 := hide (HR4.out.below hb); clear hz1 hz2 hz3 hz4 hb)
        | (go_at_call 37; (with_reducible refine (fcmp_sgn _ cu f _ ar HU.out.o HR.out.x.o).mono ?_); rintro e w4 ⟨z1, rfl, hz1, hz2, hz3, hz4, hb⟩; have hzz1 : decide (z1 ≤ 0) = true := decide_eq_true (hz1.2 HUN.out); have hzy1 : z1 ≤ 0 := hz1.2 HUN.out; have HR4 := hide (HR.out.below hb); have HO4 := hide (HOo.out.below hb); have y0 := HR4.out.x.b.c0; have y1 := HR4.out.x.b.c1; have v0 := HO4.out.b.c0; have v1 := HO4.out.b.c1; clear hz1 hz2 hz3 hz4 hb))
      go_ret
      exact ⟨rfl, HB9.out⟩
    · have hle : decide ((k : Int) ≤ (q : Int)) = true := decide_eq_true (by omega)
      have hle2 : (k : Int) ≤ (q : Int) := by omega
      have hkq2 : k ≤ q := by omega
      go_upto_region 8 with (first
        | (go_at_call 56; (with_reducible refine (exactly_okK _ c1 _ q k HO4.out HCR.out (by omega)).mono ?_); rintro e w5 ⟨ce, rfl, ho, hb⟩; have HO5 := hide ho; have HR5 := hide (HR4.out.below hb); clear ho hb)
        | (go_at_call 40; (with_reducible refine (sm1000 _ rt (rt : Int) rfl hrt).mono ?_); rintro e w4 ⟨c1, rfl, ho, hb⟩; have HO4 := hide ho; have HR4 := hide (HR.out.below hb); clear ho hb))
      generalize hW : World.alloc w5 _ = v6
      have HP6 := hide (show Bf v6 w5.heap.size ce (tot (mkRat (rt : Int) 1000) q (fun i => decide (i = k))) by rw [← hW]; exact ⟨Bq.mk0 _ ce rfl, HO5.out.alloc _⟩)
      have HR6 := hide (show SC w v6 g f ar b8 b9 _ _ by rw [← hW]; exact HR5.out.below ((Below.refl _ _).alloc (Nat.le_refl _) _))
      have hbp := hide (show b9 < w5.heap.size from HR5.out.o.elim fun _ h => h.b.sz)
      obtain ⟨bp, hbp1⟩ : ∃ b, b = w5.heap.size := ⟨_, rfl⟩
      rw [← hbp1] at HP6 hbp ⊢
      have x0 := HR6.out.x.b.c0
      have x1 := HR6.out.x.b.c1
      clear hW hbp1
      go_upto_region 12 with (first
        | (go_at_call 52; (with_reducible refine (lower_okI _ q (q : Int) (k : Int) rfl f ar HR7.out.x.o HI.out (by omega) (by omega) (by omega)).mono ?_); rintro e w8 ⟨vb, rfl, hv, hb⟩; have HVb := hide hv; have HR9 := hide (HR7.out.below hb); have HP9 := hide (HP7.out.below hb); have q0 := HP9.out.b.c0; have q1 := HP9.out.b.c1; clear hv hb)
        | (go_at_call 51; (with_reducible refine (upper_okI _ q (q : Int) (k : Int) rfl f ar HR6.out.x.o HI.out (by omega) (by omega) (by omega)).mono ?_); rintro e w7 ⟨va, rfl, hv, hb⟩; have HVa := hide hv; have HR7 := hide (HR6.out.below hb); have HP7 := hide (HP6.out.below hb); have z0 := HR7.out.x.b.c0; have z1 := HR7.out.x.b.c1; clear hv hb))
      have hbp9 := hide (show b8 < bp ∧ b9 < bp by have := hbp.out; have := HR9.out.h3; omega)
      clear x0 x1 z0 z1
      by_cases hcu : va < rt
      · by_cases hco : rt < vb
        · skip
          have hU := hide (show fU q rt ar k = true from (up_lt hrt HVa.out).1 hcu)
          have hL := hide (show fL q rt ar k = true from (low_gt HVb.out).1 hco)
          have du : decide ((va : Int) < (rt : Int)) = true := decide_eq_true (by omega)
          have du2 : (va : Int) < (rt : Int) := by omega
          have dl : decide ((rt : Int) < (vb : Int)) = true := decide_eq_true (by omega)
          have dl2 : (rt : Int) < (vb : Int) := by omega
          have fitu := hide (show fitsR (sm (mkRat (rt : Int) 1000) q (fU q rt ar) k + tot (mkRat (rt : Int) 1000) q (fun i => decide (i = k))) = true by
            have h1 := sm_exact (mkRat (rt : Int) 1000) (n := q) (fU q rt ar) (k := k) hkq2
            rw [if_pos hU.out] at h1
            rw [← h1]
            exact HCR.out.fsm (by omega) _ (by omega))
          obtain ⟨cu, hcu9⟩ := HR9.out.u
          have HU9 := hide hcu9
          have w0' := hcu9.b.c0
          have w1' := hcu9.b.c1
          have wz := hcu9.b.sz
          have wf := hcu9.b.fz
          clear hcu9
          have fito := hide (show fitsR (sm (mkRat (rt : Int) 1000) q (fL q rt ar) k + tot (mkRat (rt : Int) 1000) q (fun i => decide (i = k))) = true by
            have h1 := sm_exact (mkRat (rt : Int) 1000) (n := q) (fL q rt ar) (k := k) hkq2
            rw [if_pos hL.out] at h1
            rw [← h1]
            exact HCR.out.fsm (by omega) _ (by omega))
          go_upto_region 14 with (go_at_call 48; (with_reducible refine (fadd_ok _ cu ce _ _ HU9.out.o HP9.out.o fitu.out).mono ?_); rintro e wa ⟨ca, rfl, ho, hb⟩; have HOa := hide ho; have HRa := hide (HR9.out.below hb); have HPa := hide (HP9.out.below hb); have HUa := hide (HU9.out.below hb); have y0 := HUa.out.b.c0; have y1 := HUa.out.b.c1; have yz := HUa.out.b.sz; have yf := HUa.out.b.fz; clear ho hb)
          generalize hW : World.setCell (World.setCell wa _ _) _ _ = va2
          have HRb := hide (show SC w va2 g f ar b8 b9 _ _ by rw [← hW]; exact HRa.out.setU HOa.out)
          have HPb := hide (show Bf va2 bp ce _ by rw [← hW]; exact HPa.out.one (fr_fill _ _) HUa.out.b.nb (by have := hbp9.out; omega))
          clear hW w0' w1' wz wf y0 y1 yz yf q0 q1
          have q0 := HPb.out.b.c0
          have q1 := HPb.out.b.c1
          obtain ⟨co, hco9⟩ := HRb.out.o
          have HO9 := hide hco9
          have w0' := hco9.b.c0
          have w1' := hco9.b.c1
          have wz := hco9.b.sz
          have wf := hco9.b.fz
          clear hco9
          go_wp2_with (go_at_call 48; (with_reducible refine (fadd_ok _ co ce _ _ HO9.out.o HPb.out.o fito.out).mono ?_); rintro e wc ⟨cc, rfl, ho, hb⟩; have HOc := hide ho; have HRc := hide (HRb.out.below hb); have HOcc := hide (HO9.out.below hb); have y0 := HOcc.out.b.c0; have y1 := HOcc.out.b.c1; have yz := HOcc.out.b.sz; have yf := HOcc.out.b.fz; clear ho hb)
          go_roundw
          case rel => exact ⟨k + 1, by go_num, by omega, hide (by
            have h1 := sm_exact (mkRat (rt : Int) 1000) (n := q) (fU q rt ar) (k := k) hkq2
            have h2 := sm_exact (mkRat (rt : Int) 1000) (n := q) (fL q rt ar) (k := k) hkq2
            rw [if_pos hU.out] at h1
            rw [if_pos hL.out] at h2
            rw [h1, h2]
            exact HRc.out.setO HOc.out)⟩
          case measure => simp [intOf]; omega
        · skip
          have hU := hide (show fU q rt ar k = true from (up_lt hrt HVa.out).1 hcu)
          have hL := hide (show fL q rt ar k = false from (by cases h : fL q rt ar k with | false => rfl | true => exact absurd ((low_gt HVb.out).2 h) hco))
          have du : decide ((va : Int) < (rt : Int)) = true := decide_eq_true (by omega)
          have du2 : (va : Int) < (rt : Int) := by omega
          have dl : decide ((rt : Int) < (vb : Int)) = false := decide_eq_false (by omega)
          have dl2 : (vb : Int) ≤ (rt : Int) := by omega
          have fitu := hide (show fitsR (sm (mkRat (rt : Int) 1000) q (fU q rt ar) k + tot (mkRat (rt : Int) 1000) q (fun i => decide (i = k))) = true by
            have h1 := sm_exact (mkRat (rt : Int) 1000) (n := q) (fU q rt ar) (k := k) hkq2
            rw [if_pos hU.out] at h1
            rw [← h1]
            exact HCR.out.fsm (by omega) _ (by omega))
          obtain ⟨cu, hcu9⟩ := HR9.out.u
          have HU9 := hide hcu9
          have w0' := hcu9.b.c0
          have w1' := hcu9.b.c1
          have wz := hcu9.b.sz
          have wf := hcu9.b.fz
          clear hcu9
          go_upto_region 14 with (go_at_call 48; (with_reducible refine (fadd_ok _ cu ce _ _ HU9.out.o HP9.out.o fitu.out).mono ?_); rintro e wa ⟨ca, rfl, ho, hb⟩; have HOa := hide ho; have HRa := hide (HR9.out.below hb); have HPa := hide (HP9.out.below hb); have HUa := hide (HU9.out.below hb); have y0 := HUa.out.b.c0; have y1 := HUa.out.b.c1; have yz := HUa.out.b.sz; have yf := HUa.out.b.fz; clear ho hb)
          generalize hW : World.setCell (World.setCell wa _ _) _ _ = va2
          have HRb := hide (show SC w va2 g f ar b8 b9 _ _ by rw [← hW]; exact HRa.out.setU HOa.out)
          have HPb := hide (show Bf va2 bp ce _ by rw [← hW]; exact HPa.out.one (fr_fill _ _) HUa.out.b.nb (by have := hbp9.out; omega))
          clear hW w0' w1' wz wf y0 y1 yz yf q0 q1
          have q0 := HPb.out.b.c0
          have q1 := HPb.out.b.c1
          go_wp2_with fail
          go_roundw
          case rel => exact ⟨k + 1, by go_num, by omega, hide (by
            have h1 := sm_exact (mkRat (rt : Int) 1000) (n := q) (fU q rt ar) (k := k) hkq2
            have h2 := sm_exact (mkRat (rt : Int) 1000) (n := q) (fL q rt ar) (k := k) hkq2
            rw [if_pos hU.out] at h1
            rw [if_neg (by rw [hL.out]; decide)] at h2
            rw [h1, h2]
            exact HRb.out)⟩
          case measure => simp [intOf]; omega
      · by_cases hco : rt < vb
        · skip
          have hU := hide (show fU q rt ar k = false from (by cases h : fU q rt ar k with | false => rfl | true => exact absurd ((up_lt hrt HVa.out).2 h) hcu))
          have hL := hide (show fL q rt ar k = true from (low_gt HVb.out).1 hco)
          have du : decide ((va : Int) < (rt : Int)) = false := decide_eq_false (by omega)
          have du2 : (rt : Int) ≤ (va : Int) := by omega
          have dl : decide ((rt : Int) < (vb : Int)) = true := decide_eq_true (by omega)
          have dl2 : (rt : Int) < (vb : Int) := by omega
          have fito := hide (show fitsR (sm (mkRat (rt : Int) 1000) q (fL q rt ar) k + tot (mkRat (rt : Int) 1000) q (fun i => decide (i = k))) = true by
            have h1 := sm_exact (mkRat (rt : Int) 1000) (n := q) (fL q rt ar) (k := k) hkq2
            rw [if_pos hL.out] at h1
            rw [← h1]
            exact HCR.out.fsm (by omega) _ (by omega))
          go_upto_region 14 with (fail)
          have HRb := HR9
          have HPb := HP9
          clear q0 q1
          have q0 := HPb.out.b.c0
          have q1 := HPb.out.b.c1
          obtain ⟨co, hco9⟩ := HRb.out.o
          have HO9 := hide hco9
          have w0' := hco9.b.c0
          have w1' := hco9.b.c1
          have wz := hco9.b.sz
          have wf := hco9.b.fz
          clear hco9
          go_wp2_with (go_at_call 48; (with_reducible refine (fadd_ok _ co ce _ _ HO9.out.o HPb.out.o fito.out).mono ?_); rintro e wc ⟨cc, rfl, ho, hb⟩; have HOc := hide ho; have HRc := hide (HRb.out.below hb); have HOcc := hide (HO9.out.below hb); have y0 := HOcc.out.b.c0; have y1 := HOcc.out.b.c1; have yz := HOcc.out.b.sz; have yf := HOcc.out.b.fz; clear ho hb)
          go_roundw
          case rel => exact ⟨k + 1, by go_num, by omega, hide (by
            have h1 := sm_exact (mkRat (rt : Int) 1000) (n := q) (fU q rt ar) (k := k) hkq2
            have h2 := sm_exact (mkRat (rt : Int) 1000) (n := q) (fL q rt ar) (k := k) hkq2
            rw [if_neg (by rw [hU.out]; decide)] at h1
            rw [if_pos hL.out] at h2
            rw [h1, h2]
            exact HRc.out.setO HOc.out)⟩
          case measure => simp [intOf]; omega
        · skip
          have hU := hide (show fU q rt ar k = false from (by cases h : fU q rt ar k with | false => rfl | true => exact absurd ((up_lt hrt HVa.out).2 h) hcu))
          have hL := hide (show fL q rt ar k = false from (by cases h : fL q rt ar k with | false => rfl | true => exact absurd ((low_gt HVb.out).2 h) hco))
          have du : decide ((va : Int) < (rt : Int)) = false := decide_eq_false (by omega)
          have du2 : (rt : Int) ≤ (va : Int) := by omega
          have dl : decide ((rt : Int) < (vb : Int)) = false := decide_eq_false (by omega)
          have dl2 : (vb : Int) ≤ (rt : Int) := by omega
          go_upto_region 14 with (fail)
          have HRb := HR9
          have HPb := HP9
          clear q0 q1
          have q0 := HPb.out.b.c0
          have q1 := HPb.out.b.c1
          go_wp2_with fail
          go_roundw
          case rel => exact ⟨k + 1, by go_num, by omega, hide (by
            have h1 := sm_exact (mkRat (rt : Int) 1000) (n := q) (fU q rt ar) (k := k) hkq2
            have h2 := sm_exact (mkRat (rt : Int) 1000) (n := q) (fL q rt ar) (k := k) hkq2
            rw [if_neg (by rw [hU.out]; decide)] at h1
            rw [if_neg (by rw [hL.out]; decide)] at h2
            rw [h1, h2]
            exact HRb.out)⟩
          case measure => simp [intOf]; omega
end Go.Proofs.Ytnokfhkcfebimaa
