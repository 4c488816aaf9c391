/- The walk of the law SequentialWhole. -/
import Derived.Test.YtnokfhkcfebimaaG28
import Derived.Test.YtnokfhkcfebimaaG26
import Derived.Test.YtnokfhkcfebimaaG31
set_option linter.unusedVariables false
set_option linter.unusedSimpArgs false

/- Contracts: fraction.Sum. -/
namespace Go.Proofs.Ytnokfhkcfebimaa
open Go.RowKit

theorem fcheck_ok (w : World) (a : Fa) (r : Rat) (ha : Fo w a (some r)) : Calls Try.prog 76 #[.agg #[.slice a.A a.n a.c, .slice a.B a.m a.d]] w fun e w' => e = .returned (.bool true) ∧ Below w.heap.size w w' := by
  have h := fcheck_any w a _ _ ha.1
  rwa [fracOf_self ha.2] at h
set_option maxRecDepth 100000 in
set_option maxHeartbeats 8000000 in
theorem fsum_ok (w : World) (A : Option Addr) (n c : Nat) (fs : List Fa) (os : List Rat) (hS : FSl w A n fs os) (hn : n ≤ 4294967296) (hfit : ∀ j, j ≤ n → fitsR (sumQ (os.take j)) = true) :
    Calls Try.prog 39 #[.slice A n c] w fun e w' => RetV w (sumQ os) e w' := by
  have HS := hide hS
  have HFT := hide hfit
  clear hS hfit
  go_enter Try.func39, Try.ntmps39
  go_upto_region 1 with (fail)
  generalize hW : World.alloc w _ = v
  have HR := hide (show Rb v w.heap.size by rw [← hW]; exact Rb.mk0 _ rfl)
  have HBV := hide (show Below w.heap.size w v by rw [← hW]; exact (Below.refl _ _).alloc (Nat.le_refl _) _)
  clear hW
  go_wp2_with fail
  go_loopw [8] (fun i wr => ∃ (j : Nat), i = .int .i64 (j : Int) ∧ j ≤ n ∧ Hid (Below w.heap.size w wr) ∧ Hid (Rb wr w.heap.size)) (fun i _ => n - (intOf i).toNat)
  case atStart => exact ⟨0, rfl, by omega, HBV, HR⟩
  case round =>
    obtain ⟨j, rfl, hj, HB, HR⟩ := hrel
    obtain ⟨r0, r1, rf, rz, -⟩ := HR.out
    by_cases hjn : j = n
    · subst hjn
      have HSr := hide (HS.out.below HB.out)
      go_wp2_with (go_at_call 79; (with_reducible refine (ffold_ok _ A j c fs os HSr.out hn HFT.out).mono ?_); rintro e w1 ⟨c1, rfl, ho, hb⟩; have HO := hide ho; have HB1 := hide (HB.out.trans (hb.mono HB.out.size)); have HR1 := hide (HR.out.below hb); obtain ⟨z0, z1, zf, zz, -⟩ := HR1.out; clear ho hb)
      refine bodyPost_ret (v := .tuple #[.agg #[.slice c1.A c1.n c1.c, .slice c1.B c1.m c1.d], .int .i64 0]) (by simp [results, Try.results39, go_sem, *]) rfl ⟨c1, rfl, HO.out.put2 HR1.out.nb _ _ (by simp), Rb.end0 HB1.out (Nat.le_refl _) _ _⟩
    · have hjl : j < n := by omega
      have hlt : (j : Int) < (n : Int) := by omega
      have hj0 : (0 : Int) ≤ (j : Int) := by omega
      obtain ⟨b, o, x, r, rfl, hb, -, -, hox, cx0, cx1⟩ := (HS.out.below HB.out).at hjl
      have HOX := hide hox
      clear hox
      go_wp2_with (go_at_call 76; (with_reducible refine (fcheck_ok _ x r (HOX.out.alloc _)).mono ?_); rintro e w2 ⟨rfl, hb⟩; have HB2 := hide ((HB.out.alloc HB.out.size _).trans (hb.mono (by have := HB.out.size; simp; omega))); have HR2 := hide ((HR.out.bq.alloc _).below hb).rb; clear hb)
      go_roundw
      case rel => exact ⟨j + 1, by go_num, by omega, HB2, HR2⟩
      case measure => simp [intOf]; omega
end Go.Proofs.Ytnokfhkcfebimaa

/- The walk of the law SequentialAlpha. -/
namespace Go.Proofs.Ytnokfhkcfebimaa
open Go.RowKit

theorem ratQ00 (l h : Rat) : ratQ l h 0 0 = 1 := by
  unfold ratQ
  rw [Rat.pow_zero, Rat.pow_zero]
  decide +kernel
theorem alpha_le {l h a b : Rat} (hl : Inn l) (hh : Inn h) (ha : Inn a) (M : Nat) : val (decQ l h a b) l gF M 0 0 ≤ a := by
  have := val_alpha (b := b) hl hh ha M 0 0
  rwa [ratQ00, Rat.mul_one] at this
theorem beta_le {l h a b : Rat} (hl : Inn l) (hb : Inn b) (M : Nat) : val (decQ l h a b) h gS M 0 0 ≤ b := by
  have := val_beta (h := h) (a := a) hl hb M 0 0
  rwa [ratQ00, Rat.mul_one] at this
/-- A box with odds. -/
structure OdB (v : World) (g : Nat) (f0 f2 f4 : Fa) (r0 r2 r4 : Rat) : Prop where
  cb : Cb v g [.slice f0.A f0.n f0.c, .slice f0.B f0.m f0.d, .slice f2.A f2.n f2.c, .slice f2.B f2.m f2.d, .slice f4.A f4.n f4.c, .slice f4.B f4.m f4.d]
  o0 : Fo v f0 (some r0)
  o2 : Fo v f2 (some r2)
  o4 : Fo v f4 (some r4)
theorem OdB.below {v v' : World} {g : Nat} {f0 f2 f4 : Fa} {r0 r2 r4 : Rat} (h : OdB v g f0 f2 f4 r0 r2 r4) (hb : Below v.heap.size v v') : OdB v' g f0 f2 f4 r0 r2 r4 := ⟨h.cb.below hb, h.o0.below hb, h.o2.below hb, h.o4.below hb⟩
theorem OdB.mk0 {w : World} {f0 f2 f4 : Fa} {r0 r2 r4 : Rat} (h0 : Fo w f0 (some r0)) (h2 : Fo w f2 (some r2)) (h4 : Fo w f4 (some r4)) (t : TypeId) : OdB (w.alloc (.cells #[.slice f0.A f0.n f0.c, .slice f0.B f0.m f0.d, .slice f2.A f2.n f2.c, .slice f2.B f2.m f2.d, .slice f4.A f4.n f4.c, .slice f4.B f4.m f4.d] t)) w.heap.size f0 f2 f4 r0 r2 r4 :=
  ⟨Cb.mk0 _ (by simp) _ rfl, h0.alloc _, h2.alloc _, h4.alloc _⟩
theorem OdB.ca {v : World} {g : Nat} {f0 f2 f4 : Fa} {r0 r2 r4 : Rat} (h : OdB v g f0 f2 f4 r0 r2 r4) : v.cell? ⟨g, 0, none⟩ = some (.slice f0.A f0.n f0.c) ∧ v.cell? ⟨g, 1, none⟩ = some (.slice f0.B f0.m f0.d) ∧ v.cell? ⟨g, 2, none⟩ = some (.slice f2.A f2.n f2.c) ∧ v.cell? ⟨g, 3, none⟩ = some (.slice f2.B f2.m f2.d) ∧ v.cell? ⟨g, 4, none⟩ = some (.slice f4.A f4.n f4.c) ∧ v.cell? ⟨g, 5, none⟩ = some (.slice f4.B f4.m f4.d) ∧ g < v.heap.size :=
  ⟨h.cb.cell 0 _ rfl, h.cb.cell 1 _ rfl, h.cb.cell 2 _ rfl, h.cb.cell 3 _ rfl, h.cb.cell 4 _ rfl, h.cb.cell 5 _ rfl, h.cb.sz⟩
set_option maxRecDepth 100000 in
set_option maxHeartbeats 16000000 in
theorem alpha_walk (w : World) (A : Option Addr) (n c : Nat) (l : List Int) (hA : Rs w none 1 iv A l) (hl : l.length = n) :
    Calls Try.prog 8 #[.slice A n c] w fun e w' => e = .returned (.bool true) ∧ Below w.heap.size w w' := by
  have HP := hide (tp_new (w := w) (c := c) hA hl 32)
  clear hA hl
  go_enter Try.func8, Try.ntmps8
  go_upto_region 2 with (go_at_call 19; refine (yspec_any _ w.heap.size A n c l 0 16 HP.out (by omega) (by omega) (by omega)).mono ?_; rintro e w1 ⟨s, lo, hi, al, be, M, b, rfl, hq, hk, hM, -, -, hf⟩; have HB1 := hide (fr_new rfl hf); have HQ1 := hide hq; have HK := hide hk; clear hq hk hf)
  generalize hW : World.alloc w1 _ = v
  have HF := hide (show FS w v w1.heap.size s by rw [← hW]; exact ⟨HB1.out.trans (((Below.refl _ _).alloc (Nat.le_refl _) _ : Below w1.heap.size w1 _).mono HB1.out.size), (FS.mk0 HQ1.out _).cb, HQ1.out.alloc _⟩)
  obtain ⟨g, hg⟩ : ∃ g, g = w1.heap.size := ⟨_, rfl⟩
  rw [← hg] at HF ⊢
  obtain ⟨a0, a1, a2, a3, a4, a5, a6, a7, a8, a9⟩ := HF.out.ca
  clear hW hg
  go_upto_region 3 with (go_at_call 36; (with_reducible refine (serrors_ok _ s lo hi al be M s.l lo HF.out.q HK.out (fo_of HF.out.q.l HK.out.fl) HK.out.il.c).mono ?_); rintro e w2 ⟨x0, x2, x4, rfl, h0, h2, h4, hb⟩; have HO2 := hide (And.intro h0 (And.intro h2 h4)); have HF2 := hide (HF.out.below hb); clear h0 h2 h4 hb)
  generalize hW : World.alloc w2 _ = v2
  have HF3 := hide (show FS w v2 g s by rw [← hW]; exact HF2.out.alloc _)
  have HX3 := hide (show OdB v2 w2.heap.size x0 x2 x4 _ _ _ by rw [← hW]; exact OdB.mk0 HO2.out.1 HO2.out.2.1 HO2.out.2.2 _)
  obtain ⟨g2, hg2⟩ : ∃ g, g = w2.heap.size := ⟨_, rfl⟩
  rw [← hg2] at HX3 ⊢
  obtain ⟨b0, b1, b2, b3, b4, b5, b6, b7, b8, b9⟩ := HF3.out.ca
  clear hW hg2 a0 a1 a2 a3 a4 a5 a6 a7 a8 a9
  go_upto_region 4 with (go_at_call 36; (with_reducible refine (serrors_ok _ s lo hi al be M s.h hi HF3.out.q HK.out (fo_of HF3.out.q.h HK.out.fh) HK.out.ih.c).mono ?_); rintro e w3 ⟨y0, y2, y4, rfl, h0, h2, h4, hb⟩; have HO3 := hide (And.intro h0 (And.intro h2 h4)); have HF4 := hide (HF3.out.below hb); have HX4 := hide (HX3.out.below hb); clear h0 h2 h4 hb)
  generalize hW : World.alloc w3 _ = v3
  have HF5 := hide (show FS w v3 g s by rw [← hW]; exact HF4.out.alloc _)
  have HX5 := hide (show OdB v3 g2 x0 x2 x4 _ _ _ by rw [← hW]; exact HX4.out.below ((Below.refl _ _).alloc (Nat.le_refl _) _))
  have HY5 := hide (show OdB v3 w3.heap.size y0 y2 y4 _ _ _ by rw [← hW]; exact OdB.mk0 HO3.out.1 HO3.out.2.1 HO3.out.2.2 _)
  obtain ⟨g3, hg3⟩ : ∃ g, g = w3.heap.size := ⟨_, rfl⟩
  rw [← hg3] at HY5 ⊢
  obtain ⟨c0, c1, c2, c3, c4, c5, c6, c7, c8, c9⟩ := HF5.out.ca
  obtain ⟨k0, k1, k2, k3, k4, k5, k6⟩ := HX5.out.ca
  obtain ⟨m0, m1, m2, m3, m4, m5, m6⟩ := HY5.out.ca
  clear hW hg3 b0 b1 b2 b3 b4 b5 b6 b7 b8 b9
  go_wp2_with (first
    | (go_at_call 24; (with_reducible refine (yknown_any _).mono ?_); rintro e w9 ⟨rfl, hb⟩; have HB9 := hide (HF7.out.bw.trans (hb.mono HF7.out.bw.size)); clear hb)
    | (go_at_call 37; (with_reducible refine (fcmp_le _ y2 s.b _ be HY6.out.o2 (fo_of HF6.out.q.b HK.out.fb) (beta_le HK.out.il HK.out.ib M)).mono ?_); rintro e w7 ⟨z2, rfl, hz2, hb⟩; have HF7 := hide (HF6.out.below hb); have hzz2 : decide (z2 ≤ 0) = true := decide_eq_true hz2; clear hb)
    | (go_at_call 37; (with_reducible refine (fcmp_le _ x0 s.a _ al HX5.out.o0 (fo_of HF5.out.q.a HK.out.fa) (alpha_le HK.out.il HK.out.ih HK.out.ia M)).mono ?_); rintro e w6 ⟨z1, rfl, hz1, hb⟩; have HF6 := hide (HF5.out.below hb); have HY6 := hide (HY5.out.below hb); have hzz1 : decide (z1 ≤ 0) = true := decide_eq_true hz1; obtain ⟨n0, n1, n2, n3, n4, n5, n6⟩ := HY6.out.ca; obtain ⟨d0, d1, d2, d3, d4, d5, d6, d7, d8, d9⟩ := HF6.out.ca; clear hb))
  go_ret
  exact ⟨rfl, HB9.out⟩
end Go.Proofs.Ytnokfhkcfebimaa

/- The walk of the law SequentialWhole. -/
namespace Go.Proofs.Ytnokfhkcfebimaa
open Go.RowKit

theorem sm11 (w : World) : Calls Try.prog 40 #[.int .i64 1, .int .i64 1] w fun e w' => Ret1 w (some 1) e w' := by
  have := small_any w 1 1 (by omega) (by omega) (by omega)
  rwa [show mkRat ((1 : Nat) : Int) 1 = 1 by decide +kernel] at this
theorem smM1 (w : World) (s : Sv) (M : Nat) (hm : s.m = (M : Int)) (hM : M ≤ 32) : Calls Try.prog 40 #[.int .i64 s.m, .int .i64 1] w fun e w' => Ret1 w (some (M : Rat)) e w' := by
  have := small_any w M 1 (by omega) (by omega) (by omega)
  rw [hm]
  rwa [mk_one] at this
theorem ind_nat (c : Prop) [Decidable c] : ∃ m : Nat, (if c then (1 : Rat) else 0) = (m : Rat) := by
  by_cases h : c
  · exact ⟨1, by rw [if_pos h]; rfl⟩
  · exact ⟨0, by rw [if_neg h]; rfl⟩
theorem gF_nat (D : Int) (n : Nat) : ∃ m : Nat, gF D n = (m : Rat) := ind_nat _
theorem gS_nat (D : Int) (n : Nat) : ∃ m : Nat, gS D n = (m : Rat) := ind_nat _
theorem gO_nat (D : Int) (n : Nat) : ∃ m : Nat, gO D n = (m : Rat) := ind_nat _
theorem val_dv1 {d : Nat → Nat → Int} {x : Rat} (hx : Chn x) {g : Int → Nat → Rat} (hg : ∀ D n, ∃ m : Nat, g D n = (m : Rat)) (h1 : ∀ D n, g D n ≤ 1) (k p f : Nat) : Dv x.den k 1 (val d x g k p f) := by
  obtain ⟨B, hB⟩ := val_dv (d := d) hx hg k p f
  exact hB.le (C := 1) (val_le_one hx.h0 hx.h1 h1 k p f)
theorem sum3_fits {d : Nat → Nat → Int} {x : Rat} (hx : Chn x) {M : Nat} (hM : M ≤ 32) (j : Nat) (hj : j ≤ 3) : fitsR (sumQ ([val d x gF M 0 0, val d x gS M 0 0, val d x gO M 0 0].take j)) = true := by
  have h1 := val_dv1 (d := d) hx gF_nat gF_le M 0 0
  have h2 := val_dv1 (d := d) hx gS_nat gS_le M 0 0
  have h3 := val_dv1 (d := d) hx gO_nat gO_le M 0 0
  have z := Dv.zero x.den M 0
  match j, hj with
  | 0, _ => exact z.fits x.den_pos hx.hd (by omega) (by omega)
  | 1, _ => exact (z.add h1).fits x.den_pos hx.hd (by omega) (by omega)
  | 2, _ => exact ((z.add h1).add h2).fits x.den_pos hx.hd (by omega) (by omega)
  | 3, _ => exact (((z.add h1).add h2).add h3).fits x.den_pos hx.hd (by omega) (by omega)
theorem sum3_one {d : Nat → Nat → Int} (hd : ∀ p f, d p f = 0 ∨ d p f = 1 ∨ d p f = 2) (x : Rat) (M : Nat) : sumQ [val d x gF M 0 0, val d x gS M 0 0, val d x gO M 0 0] = 1 := by
  have := val_three hd x M 0 0
  show 0 + val d x gF M 0 0 + val d x gS M 0 0 + val d x gO M 0 0 = 1
  rw [Rat.zero_add]
  exact this
theorem fsl3 {w : World} {f0 f2 f4 : Fa} {r0 r2 r4 : Rat} (h0 : Fo w f0 (some r0)) (h2 : Fo w f2 (some r2)) (h4 : Fo w f4 (some r4)) (t : TypeId) : FSl (w.alloc (.cells #[.slice f0.A f0.n f0.c, .slice f0.B f0.m f0.d, .slice f2.A f2.n f2.c, .slice f2.B f2.m f2.d, .slice f4.A f4.n f4.c, .slice f4.B f4.m f4.d] t)) (some ⟨w.heap.size, 0, none⟩) 3 [f0, f2, f4] [r0, r2, r4] := by
  refine ⟨fun _ => ⟨w.heap.size, 0, rfl, by simp, by simp, fun k a hk j u hu => ?_⟩, rfl, rfl, fun i x r hx hr => ?_⟩
  · match k with
    | 0 => simp at hk; subst hk; match j with
      | 0 => simp [fvv] at hu; subst hu; simp [go_sem]
      | 1 => simp [fvv] at hu; subst hu; simp [go_sem]
      | j + 2 => simp [fvv] at hu
    | 1 => simp at hk; subst hk; match j with
      | 0 => simp [fvv] at hu; subst hu; simp [go_sem]
      | 1 => simp [fvv] at hu; subst hu; simp [go_sem]
      | j + 2 => simp [fvv] at hu
    | 2 => simp at hk; subst hk; match j with
      | 0 => simp [fvv] at hu; subst hu; simp [go_sem]
      | 1 => simp [fvv] at hu; subst hu; simp [go_sem]
      | j + 2 => simp [fvv] at hu
    | k + 3 => simp at hk
  · match i with
    | 0 => simp at hx hr; subst hx hr; exact h0.alloc _
    | 1 => simp at hx hr; subst hx hr; exact h2.alloc _
    | 2 => simp at hx hr; subst hx hr; exact h4.alloc _
    | i + 3 => simp at hx
/-- What the law compares. -/
structure WH (w0 v : World) (g : Nat) (s : Sv) (b8 : Nat) (fn : Fa) (rn : Rat) (b10 : Nat) (fs : Fa) (b12 : Nat) (fo : Fa) : Prop where
  f : FS w0 v g s
  n : Bf v b8 fn rn
  s : Bf v b10 fs 1
  o : Bf v b12 fo 1
theorem WH.below {w0 v v' : World} {g : Nat} {s : Sv} {b8 : Nat} {fn : Fa} {rn : Rat} {b10 : Nat} {fs : Fa} {b12 : Nat} {fo : Fa} (h : WH w0 v g s b8 fn rn b10 fs b12 fo) (hb : Below v.heap.size v v') : WH w0 v' g s b8 fn rn b10 fs b12 fo := ⟨h.f.below hb, h.n.below hb, h.s.below hb, h.o.below hb⟩
set_option maxRecDepth 100000 in
set_option maxHeartbeats 16000000 in
theorem whole_walk23 (w : World) (A : Option Addr) (n c : Nat) (l : List Int) (hA : Rs w none 1 iv A l) (hl : l.length = n) :
    Calls Try.prog 10 #[.slice A n c] w fun e w' => e = .returned (.bool true) ∧ Below w.heap.size w w' := by
  have HP := hide (tp_new (w := w) (c := c) hA hl 32)
  clear hA hl
  go_enter Try.func10, Try.ntmps10
  go_upto_region 3 with (first
    | (go_at_call 32; refine (chancem_any _ w.heap.size A n c l b HT1.out (by omega)).mono ?_; rintro e w2 ⟨f5, r5, rfl, ho, hc5, hp, hf⟩; have HO5 := hide (And.intro ho hc5); have HFr2 := hide (HFr.out.trans hf); have HQ2 := hide (HQ1.out.one hf HT1.out.nb); clear ho hp hf hc5)
    | (go_at_call 19; refine (yspec_any _ w.heap.size A n c l 0 20 HP.out (by omega) (by omega) (by omega)).mono ?_; rintro e w1 ⟨s, lo, hi, al, be, M, b, rfl, hq, hk, hM, hp, hb, hf⟩; have HFr := hide hf; have HQ1 := hide hq; have HK := hide hk; have HT1 := hide hp; clear hq hk hf hp))
  generalize hW : World.alloc (World.alloc w2 _) _ = v
  have HB1 := hide (fr_new rfl HFr2.out)
  have HF := hide (show FS w v w2.heap.size s by rw [← hW]; exact FS.alloc ⟨HB1.out.trans (((Below.refl _ _).alloc (Nat.le_refl _) _ : Below w2.heap.size w2 _).mono HB1.out.size), (FS.mk0 HQ2.out _).cb, HQ2.out.alloc _⟩ _)
  have HBp := hide (show Bf v (w2.heap.size + 1) f5 r5 by rw [← hW]; exact ⟨Bq.mk0 _ f5 (by simp), (HO5.out.1.alloc _).alloc _⟩)
  obtain ⟨bx5, hb5⟩ : ∃ b, b = w2.heap.size + 1 := ⟨_, rfl⟩
  rw [← hb5] at HBp ⊢
  obtain ⟨g, hg⟩ : ∃ g, g = w2.heap.size := ⟨_, rfl⟩
  rw [← hg] at HF ⊢
  obtain ⟨a0, a1, a2, a3, a4, a5, a6, a7, a8, a9⟩ := HF.out.ca
  have p0 := HBp.out.b.c0
  have p1 := HBp.out.b.c1
  clear hW hg hb5
  go_upto_region 4 with (go_at_call 36; (with_reducible refine (serrors_ok _ s lo hi al be M f5 r5 HF.out.q HK.out HBp.out.o HO5.out.2).mono ?_); rintro e w3 ⟨x0, x2, x4, rfl, h0, h2, h4, hb⟩; have HO3 := hide (And.intro h0 (And.intro h2 h4)); have HF3 := hide (HF.out.below hb); have HBp3 := hide (HBp.out.below hb); clear h0 h2 h4 hb)
  generalize hW : World.alloc w3 _ = v3
  have HF4 := hide (show FS w v3 g s by rw [← hW]; exact HF3.out.alloc _)
  have HX4 := hide (show OdB v3 w3.heap.size x0 x2 x4 _ _ _ by rw [← hW]; exact OdB.mk0 HO3.out.1 HO3.out.2.1 HO3.out.2.2 _)
  have HBp4 := hide (show Bf v3 bx5 f5 r5 by rw [← hW]; exact HBp3.out.alloc _)
  obtain ⟨g6, hg6⟩ : ∃ g, g = w3.heap.size := ⟨_, rfl⟩
  rw [← hg6] at HX4 ⊢
  obtain ⟨b0, b1, b2, b3, b4, b5, b6, b7, b8, b9⟩ := HF4.out.ca
  have q0 := HBp4.out.b.c0
  have q1 := HBp4.out.b.c1
  clear hW hg6 a0 a1 a2 a3 a4 a5 a6 a7 a8 a9 p0 p1
  go_upto_region 5 with (go_at_call 38; (with_reducible refine (sexpected_ok _ s lo hi al be M f5 r5 HF4.out.q HK.out HBp4.out.o HO5.out.2).mono ?_); rintro e w4 ⟨y, rfl, h0, hb⟩; have HO4 := hide h0; have HF5 := hide (HF4.out.below hb); have HX5 := hide (HX4.out.below hb); clear h0 hb)
  generalize hW : World.alloc w4 _ = v4
  have HF6 := hide (show FS w v4 g s by rw [← hW]; exact HF5.out.alloc _)
  have HX6 := hide (show OdB v4 g6 x0 x2 x4 _ _ _ by rw [← hW]; exact HX5.out.below ((Below.refl _ _).alloc (Nat.le_refl _) _))
  have HN6 := hide (show Bf v4 w4.heap.size y _ by rw [← hW]; exact ⟨Bq.mk0 _ y rfl, HO4.out.alloc _⟩)
  obtain ⟨bx8, hb8⟩ : ∃ g, g = w4.heap.size := ⟨_, rfl⟩
  rw [← hb8] at HN6 ⊢
  obtain ⟨m0, m1, m2, m3, m4, m5, m6⟩ := HX6.out.ca
  have HFIT := hide (fun j hj => sum3_fits (d := decQ lo hi al be) HO5.out.2 HK.out.m2 j hj)
  have HSUM := hide (sum3_one (decQ_range lo hi al be) r5 M)
  clear hW hb8 b0 b1 b2 b3 b4 b5 b6 b7 b8 b9 q0 q1
  go_upto_region 6 with (go_at_call 39; (refine (fsum_ok _ _ 3 3 [x0, x2, x4] _ (fsl3 HX6.out.o0 HX6.out.o2 HX6.out.o4 _) (by omega) HFIT.out).mono ?_); rintro e w5 ⟨cs, rfl, ho, hb⟩; rw [HSUM.out] at ho; have HO5s := hide ho; have HF7 := hide ((HF6.out.alloc _).below hb); have HN7 := hide ((HN6.out.alloc _).below hb); clear ho hb)
  generalize hW : World.alloc w5 _ = v5
  have HF8 := hide (show FS w v5 g s by rw [← hW]; exact HF7.out.alloc _)
  have HN8 := hide (show Bf v5 bx8 y _ by rw [← hW]; exact HN7.out.alloc _)
  have HS8 := hide (show Bf v5 w5.heap.size cs 1 by rw [← hW]; exact ⟨Bq.mk0 _ cs rfl, HO5s.out.alloc _⟩)
  obtain ⟨bx10, hb10⟩ : ∃ g, g = w5.heap.size := ⟨_, rfl⟩
  rw [← hb10] at HS8 ⊢
  clear hW hb10 m0 m1 m2 m3 m4 m5 m6
  go_upto_region 7 with (go_at_call 40; (with_reducible refine (sm11 _).mono ?_); rintro e w6 ⟨co, rfl, ho, hb⟩; have HO6 := hide ho; have HF9 := hide (HF8.out.below hb); have HN9 := hide (HN8.out.below hb); have HS9 := hide (HS8.out.below hb); clear ho hb)
  generalize hW : World.alloc w6 _ = v6
  have HWH := hide (show WH w v6 g s bx8 y _ bx10 cs w6.heap.size co by rw [← hW]; exact ⟨HF9.out.alloc _, HN9.out.alloc _, HS9.out.alloc _, ⟨Bq.mk0 _ co rfl, HO6.out.alloc _⟩⟩)
  obtain ⟨bx12, hb12⟩ : ∃ g, g = w6.heap.size := ⟨_, rfl⟩
  rw [← hb12] at HWH ⊢
  have hnum := val_num1 (d := decQ lo hi al be) HO5.out.2.h0 HO5.out.2.h1 (dec00 HK.out) HK.out.m1
  obtain ⟨N, hN⟩ : ∃ N, N = val (decQ lo hi al be) r5 gN M 0 0 := ⟨_, rfl⟩
  rw [← hN] at HWH hnum
  have d1 : decide (0 ≤ cmpO (some N) (some 1)) = true := decide_eq_true (cmpQ_ge.2 hnum.1)
  have d2 : decide (cmpO (some N) (some (M : Rat)) ≤ 0) = true := decide_eq_true (cmpQ_le.2 hnum.2)
  have HSM := hide (fun W => smM1 W s M HK.out.m HK.out.m2)
  clear hW hb12 hnum hN
  apply region_seq 33 (44 :: 45 :: 46 :: 47 :: 48 :: 49 :: 50 :: 51 :: 52 :: 53 :: 54 :: 55 :: 56 :: 57 :: 58 :: 59 :: 60 :: 61 :: 62 :: 63 :: 64 :: 65 :: 66 :: 67 :: 68 :: 69 :: 70 :: 71 :: 72 :: 73 :: 74 :: 75 :: 2 :: []) (eqV _ :: eqV _ :: eqV _ :: eqV _ :: eqV _ :: eqV _ :: eqV _ :: eqV _ :: eqV _ :: eqV _ :: eqV _ :: eqV _ :: eqV _ :: eqV _ :: eqV _ :: eqV _ :: eqV _ :: eqV _ :: eqV _ :: eqV _ :: eqV _ :: eqV _ :: eqV _ :: eqV _ :: eqV _ :: (fun x w => ∃ c : Fa, x = .agg #[.slice c.A c.n c.c, .slice c.B c.m c.d] ∧ Fo w c (some (M : Rat))) :: eqV _ :: eqV _ :: eqV _ :: eqV _ :: eqV _ :: eqV _ :: eqV _ :: []) (false :: false :: false :: false :: false :: false :: false :: false :: false :: false :: false :: false :: false :: false :: false :: false :: false :: false :: false :: false :: false :: false :: false :: false :: false :: false :: false :: false :: false :: false :: false :: false :: false :: []) (by kernel_rfl) (by decide) rfl rfl rfl (by decide) (by kernel_rfl) (by kernel_rfl) ?stb2 ?steps2 ?fin2
  case stb2 => repeat' (first | exact trivial | apply stb_eq | (exact fun x w w' ⟨c, h1, h2⟩ hb => ⟨c, h1, h2.below hb⟩) | apply And.intro)
  case steps2 =>
    repeat' (first | exact trivial | apply And.intro)
    all_goals
      intro a' w' hbw hdf hoff hdep K hK
      (have o3 := hoff 4 rfl; have o8 := hoff 8 rfl; have o10 := hoff 10 rfl; have o12 := hoff 12 rfl; have o7 := hoff 7 rfl; have o9 := hoff 9 rfl; have o11 := hoff 11 rfl)
      (have HG := hide (HWH.out.below hbw); have y0 := HG.out.n.b.c0; have y1 := HG.out.n.b.c1; have y2 := HG.out.s.b.c0; have y3 := HG.out.s.b.c1; have y4 := HG.out.o.b.c0; have y5 := HG.out.o.b.c1; have y6 := HG.out.f.cb.cell 8 _ rfl)
      replace hdep := hdep _ rfl
      simp only [List.getElem_toArray, List.getElem_cons_succ, List.getElem_cons_zero, List.toList_toArray, depAll, binds_data, binds_chain, binds_guard, binds_phase, binds_text, binds_gc, cond_true, cond_false, true_and, getR, eqV, List.getD_cons_succ, List.getD_cons_zero, and_true] at hdep
      simp only [Nat.zero_add, Nat.reduceAdd, getR, eqV, List.getD_cons_succ, List.getD_cons_zero] at hK
      clear hoff hdf
      (try (obtain ⟨h66, ⟨c69, h69, HO69⟩, hdep⟩ := hdep))
      first
        | (refine rg_unwanted rfl rfl rfl (b' := false) (by first | (simp [hdep]; done) | assumption) (by decide) ?_; exact hK _ _ rfl (Below.refl _ _) (by simp))
        | (refine rg_unwanted rfl rfl rfl (b' := true) (by first | (simp [hdep]; done) | assumption) (by decide) ?_; exact hK _ _ rfl (Below.refl _ _) (by simp))
        | (refine rg_wanted rfl rfl rfl (b' := true) (by first | (simp [hdep]; done) | assumption) rfl (fun K' hKK => ?_); go_wp2_with (first | (go_at_call 28; (with_reducible refine (samefrac_eq _ cs co _ HG.out.s.o HG.out.o.o).mono ?_); rintro e y1 ⟨rfl, hb⟩) | (go_at_call 37; (with_reducible refine (fcmp_o _ y co (some N) (some 1) HG.out.n.o HG.out.o.o).mono ?_); rintro e y1 ⟨rfl, hb⟩) | (go_at_call 37; (with_reducible refine (fcmp_o _ y c69 (some N) (some (M : Rat)) HG.out.n.o HO69).mono ?_); rintro e y1 ⟨rfl, hb⟩) | (go_at_call 40; (with_reducible refine (HSM.out _).mono ?_); rintro e y1 ⟨c, rfl, ho, hb⟩) | (go_at_call 24; (with_reducible refine (yknown_any _).mono ?_); rintro e y1 ⟨rfl, hb⟩)); first | exact hK _ _ rfl (Below.refl _ _) (by simp) | (first | exact hK _ _ rfl hb (by simp) | exact hK _ _ ⟨c, rfl, ho⟩ hb (by simp)))
        | (refine rg_wanted rfl rfl rfl (b' := false) (by first | (simp [hdep]; done) | assumption) rfl (fun K' hKK => ?_); go_wp2_with (first | (go_at_call 28; (with_reducible refine (samefrac_eq _ cs co _ HG.out.s.o HG.out.o.o).mono ?_); rintro e y1 ⟨rfl, hb⟩) | (go_at_call 37; (with_reducible refine (fcmp_o _ y co (some N) (some 1) HG.out.n.o HG.out.o.o).mono ?_); rintro e y1 ⟨rfl, hb⟩) | (go_at_call 37; (with_reducible refine (fcmp_o _ y c69 (some N) (some (M : Rat)) HG.out.n.o HO69).mono ?_); rintro e y1 ⟨rfl, hb⟩) | (go_at_call 40; (with_reducible refine (HSM.out _).mono ?_); rintro e y1 ⟨c, rfl, ho, hb⟩) | (go_at_call 24; (with_reducible refine (yknown_any _).mono ?_); rintro e y1 ⟨rfl, hb⟩)); first | exact hK _ _ rfl (Below.refl _ _) (by simp) | (first | exact hK _ _ rfl hb (by simp) | exact hK _ _ ⟨c, rfl, ho⟩ hb (by simp)))
        | (refine rg_free rfl rfl (fun K' hKK => ?_); fail)
        | (refine rg_free rfl rfl (fun K' hKK => ?_); go_wp2_with (first | (go_at_call 28; (with_reducible refine (samefrac_eq _ cs co _ HG.out.s.o HG.out.o.o).mono ?_); rintro e y1 ⟨rfl, hb⟩) | (go_at_call 37; (with_reducible refine (fcmp_o _ y co (some N) (some 1) HG.out.n.o HG.out.o.o).mono ?_); rintro e y1 ⟨rfl, hb⟩) | (go_at_call 37; (with_reducible refine (fcmp_o _ y c69 (some N) (some (M : Rat)) HG.out.n.o HO69).mono ?_); rintro e y1 ⟨rfl, hb⟩) | (go_at_call 40; (with_reducible refine (HSM.out _).mono ?_); rintro e y1 ⟨c, rfl, ho, hb⟩) | (go_at_call 24; (with_reducible refine (yknown_any _).mono ?_); rintro e y1 ⟨rfl, hb⟩)); first | exact hK _ _ rfl (Below.refl _ _) (by simp) | (first | exact hK _ _ rfl hb (by simp) | exact hK _ _ ⟨c, rfl, ho⟩ hb (by simp)))
  intro w' hbw
  repeat (refine fin_eq ?_)
  refine fin_any (fun x hx => ?_)
  repeat (refine fin_eq ?_)
  refine fin_nil ?_
  have HBE := hide (HWH.out.f.bw.trans (hbw.mono HWH.out.f.bw.size))
  (simp only [List.setIfInBounds_toArray, List.set_cons_succ, List.set_cons_zero]; refine wpAny_done (by kernel_rfl) ?_ _)
  go_wp2_with fail
  go_ret
  exact ⟨rfl, HBE.out⟩
end Go.Proofs.Ytnokfhkcfebimaa
