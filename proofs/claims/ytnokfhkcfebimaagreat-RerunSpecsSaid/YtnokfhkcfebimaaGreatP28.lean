/- Contracts of the functions that these laws reach: part 28: Plain facts: the value of a run keeps within the sizes; Contract: the reference's play of sequences, all of it. -/
import Derived.Test.YtnokfhkcfebimaaGreatP27
set_option linter.unusedVariables false
set_option linter.unusedSimpArgs false

/- Plain facts: the value of a run keeps within the sizes. -/
namespace Go.Proofs.YtnokfhkcfebimaaGreat
open Go.RowKit

theorem indN (c : Prop) [Decidable c] : ∃ m : Nat, (if c then (1 : Rat) else 0) = (m : Rat) := by
  by_cases h : c
  · exact ⟨1, by rw [if_pos h]; rfl⟩
  · exact ⟨0, by rw [if_neg h]; rfl⟩
theorem val_dvB {d : Nat → Nat → Int} {x : Rat} (hx : Chn x) {g : Int → Nat → Rat} (hg : ∀ D n, ∃ m : Nat, g D n = (m : Rat)) (h1 : ∀ D n, g D n ≤ 1) (k p f : Nat) : Dv x.den k 1 (val d x g k p f) := by
  obtain ⟨B, hB⟩ := val_dv (d := d) hx hg k p f
  exact hB.le (C := 1) (val_le_one hx.h0 hx.h1 h1 k p f)
theorem val_dvN {d : Nat → Nat → Int} {x : Rat} (hx : Chn x) (k p f : Nat) : Dv x.den k (p + f + k) (val d x gN k p f) := by
  obtain ⟨B, hB⟩ := val_dv (d := d) hx (g := gN) (fun _ n => ⟨n, rfl⟩) k p f
  exact hB.le (val_num hx.h0 hx.h1 k p f).2
/-- What is summed up fits. -/
theorem play_fit {d : Nat → Nat → Int} {x wt : Rat} (hx : Chn x) {k p f : Nat} (hw : Dv x.den (p + f) 1 wt) (hM : p + f + k ≤ 32) :
    fitsR (wt * val d x gF k p f) = true ∧ fitsR (wt * val d x gS k p f) = true ∧ fitsR (wt * val d x gO k p f) = true ∧ fitsR (wt * val d x gN k p f) = true := by
  have e : ∀ {B : Nat} {r : Rat}, Dv x.den k B r → B ≤ 64 → fitsR (wt * r) = true := fun h hB => (hw.mul h).fits x.den_pos hx.hd (by omega) (by omega)
  exact ⟨e (val_dvB hx (fun _ _ => indN _) gF_le k p f) (by omega), e (val_dvB hx (fun _ _ => indN _) gS_le k p f) (by omega), e (val_dvB hx (fun _ _ => indN _) gO_le k p f) (by omega), e (val_dvN hx k p f) (by omega)⟩
theorem wt_up {x wt : Rat} (hx : Chn x) {n : Nat} (hw : Dv x.den n 1 wt) : Dv x.den (n + 1) 1 (wt * x) ∧ Dv x.den (n + 1) 1 (wt * (1 - x)) := by
  have h1 := hw.mul hx.dv
  have h2 := hw.mul hx.dvq
  exact ⟨h1, h2⟩
theorem Dv.fit1 {D n : Nat} {r : Rat} (h : Dv D n 1 r) (hD : 0 < D) (hD2 : D ≤ 1000) (hn : n ≤ 66) : fitsR r = true := h.fits hD hD2 hn (by omega)
theorem val_split {d : Nat → Nat → Int} {x wt : Rat} {g : Int → Nat → Rat} {k p f : Nat} (h : d p f = 0) : wt * x * val d x g k p (f + 1) + wt * (1 - x) * val d x g k (p + 1) f = wt * val d x g (k + 1) p f := by
  rw [val_open h]; grind
end Go.Proofs.YtnokfhkcfebimaaGreat

/- Contract: the reference's play of sequences, all of it. -/
namespace Go.Proofs.YtnokfhkcfebimaaGreat
open Go.RowKit

/-- What two calls of play returned, and the box of their sum. -/
structure PD (w0 v : World) (s : Sv) (fp : Fa) (x : Rat) (fw : Fa) (wt : Rat) (b21 : Nat) (f0 f2 f4 : Fa) (r0 r2 r4 : Rat) (b22 : Nat) (fn1 : Fa) (n1 : Rat) (b23 : Nat) (g0 g2 g4 : Fa) (q0 q2 q4 : Rat) (b24 : Nat) (fn2 : Fa) (n2 : Rat) (b25 : Nat) (cs : List Value) : Prop where
  y : PY w0 v s fp x fw wt
  o1 : OdC v b21 f0 f2 f4 r0 r2 r4
  n1 : Bf v b22 fn1 n1
  o2 : OdC v b23 g0 g2 g4 q0 q2 q4
  n2 : Bf v b24 fn2 n2
  c : Cb v b25 cs
  h : w0.heap.size + 4 < b21 ∧ b21 < b22 ∧ b22 < b23 ∧ b23 < b24 ∧ b24 < b25
section
variable {w0 v v' : World} {s : Sv} {fp : Fa} {x : Rat} {fw : Fa} {wt : Rat} {b21 : Nat} {f0 f2 f4 : Fa} {r0 r2 r4 : Rat} {b22 : Nat} {fn1 : Fa} {n1 : Rat} {b23 : Nat} {g0 g2 g4 : Fa} {q0 q2 q4 : Rat} {b24 : Nat} {fn2 : Fa} {n2 : Rat} {b25 : Nat} {cs : List Value}
theorem PD.below (h : PD w0 v s fp x fw wt b21 f0 f2 f4 r0 r2 r4 b22 fn1 n1 b23 g0 g2 g4 q0 q2 q4 b24 fn2 n2 b25 cs) (hb : Below v.heap.size v v') : PD w0 v' s fp x fw wt b21 f0 f2 f4 r0 r2 r4 b22 fn1 n1 b23 g0 g2 g4 q0 q2 q4 b24 fn2 n2 b25 cs :=
  ⟨h.y.below hb, h.o1.below hb, h.n1.below hb, h.o2.below hb, h.n2.below hb, h.c.below hb, h.h⟩
theorem PD.put (h : PD w0 v s fp x fw wt b21 f0 f2 f4 r0 r2 r4 b22 fn1 n1 b23 g0 g2 g4 q0 q2 q4 b24 fn2 n2 b25 cs) (i j : Nat) (c : Fa) (hi : i < cs.length) (hj : j < cs.length) :
    PD w0 ((v.setCell ⟨b25, i, none⟩ (.slice c.A c.n c.c)).setCell ⟨b25, j, none⟩ (.slice c.B c.m c.d)) s fp x fw wt b21 f0 f2 f4 r0 r2 r4 b22 fn1 n1 b23 g0 g2 g4 q0 q2 q4 b24 fn2 n2 b25 ((cs.set i (.slice c.A c.n c.c)).set j (.slice c.B c.m c.d)) := by
  have hf := fr2 (w := v) (g := b25) i j (.slice c.A c.n c.c) (.slice c.B c.m c.d)
  obtain ⟨h1, h2, h3, h4, h5⟩ := h.h
  exact ⟨h.y.one hf h.c.nb (by omega), h.o1.one hf h.c.nb (by omega), h.n1.one hf h.c.nb (by omega), h.o2.one hf h.c.nb (by omega), h.n2.one hf h.c.nb (by omega), (h.c.put i _ hi (by simp)).put j _ (by rw [List.length_set]; exact hj) (by simp), h.h⟩
theorem Fo.put25 {a : Fa} {o : Option Rat} (ha : Fo v a o) (h : PD w0 v s fp x fw wt b21 f0 f2 f4 r0 r2 r4 b22 fn1 n1 b23 g0 g2 g4 q0 q2 q4 b24 fn2 n2 b25 cs) (i j : Nat) (c : Fa) : Fo ((v.setCell ⟨b25, i, none⟩ (.slice c.A c.n c.c)).setCell ⟨b25, j, none⟩ (.slice c.B c.m c.d)) a o :=
  ha.one (fr2 (w := v) (g := b25) i j (.slice c.A c.n c.c) (.slice c.B c.m c.d)) h.c.nb
end
set_option maxRecDepth 100000 in
set_option maxHeartbeats 32000000 in
theorem play_open (w : World) (s : Sv) (l h a b : Rat) (M p f k : Nat) (fp fw : Fa) (x wt : Rat) (hq : SQ w s) (hk : OKs s l h a b M) (hp : Fo w fp (some x)) (ht : Fo w fw (some wt)) (hpf : p + f ≤ M) (hkM : p + f + (k + 1) = M) (hx : Chn x) (hwt : Dv x.den (p + f) 1 wt) (hd : decQ l h a b p f = 0)
    (ih1 : ∀ (W : World) (fu : Fa) (u : Rat), SQ W s → Fo W fp (some x) → Fo W fu (some u) → Dv x.den (p + f + 1) 1 u → Calls Tryz.prog 47 #[.agg #[.slice s.l.A s.l.n s.l.c, .slice s.l.B s.l.m s.l.d, .slice s.h.A s.h.n s.h.c, .slice s.h.B s.h.m s.h.d, .slice s.a.A s.a.n s.a.c, .slice s.a.B s.a.m s.a.d, .slice s.b.A s.b.n s.b.c, .slice s.b.B s.b.m s.b.d, .int .i64 s.m], .agg #[.slice fp.A fp.n fp.c, .slice fp.B fp.m fp.d], .int .i64 (p : Int), .int .i64 ((f : Int) + 1), .agg #[.slice fu.A fu.n fu.c, .slice fu.B fu.m fu.d]] W fun e w' => PlV (decQ l h a b) x k p (f + 1) u W e w')
    (ih2 : ∀ (W : World) (fu : Fa) (u : Rat), SQ W s → Fo W fp (some x) → Fo W fu (some u) → Dv x.den (p + f + 1) 1 u → Calls Tryz.prog 47 #[.agg #[.slice s.l.A s.l.n s.l.c, .slice s.l.B s.l.m s.l.d, .slice s.h.A s.h.n s.h.c, .slice s.h.B s.h.m s.h.d, .slice s.a.A s.a.n s.a.c, .slice s.a.B s.a.m s.a.d, .slice s.b.A s.b.n s.b.c, .slice s.b.B s.b.m s.b.d, .int .i64 s.m], .agg #[.slice fp.A fp.n fp.c, .slice fp.B fp.m fp.d], .int .i64 ((p : Int) + 1), .int .i64 (f : Int), .agg #[.slice fu.A fu.n fu.c, .slice fu.B fu.m fu.d]] W fun e w' => PlV (decQ l h a b) x k (p + 1) f u W e w') :
    Calls Tryz.prog 47 #[.agg #[.slice s.l.A s.l.n s.l.c, .slice s.l.B s.l.m s.l.d, .slice s.h.A s.h.n s.h.c, .slice s.h.B s.h.m s.h.d, .slice s.a.A s.a.n s.a.c, .slice s.a.B s.a.m s.a.d, .slice s.b.A s.b.n s.b.c, .slice s.b.B s.b.m s.b.d, .int .i64 s.m], .agg #[.slice fp.A fp.n fp.c, .slice fp.B fp.m fp.d], .int .i64 (p : Int), .int .i64 (f : Int), .agg #[.slice fw.A fw.n fw.c, .slice fw.B fw.m fw.d]] w fun e w' => PlV (decQ l h a b) x (k + 1) p f wt w e w' := by
  have hM := hk.m2
  have HI1 := hide ih1
  have HI2 := hide ih2
  have HW := hide (wt_up hx hwt)
  have HFU := hide (show fitsR (wt * x) = true from HW.out.1.fit1 x.den_pos hx.hd (by omega))
  have HFD := hide (show fitsR (wt * (1 - x)) = true from HW.out.2.fit1 x.den_pos hx.hd (by omega))
  have HFQ := hide (And.intro hx.h1 hx.fq)
  have HPF64 := hide (show p + f ≤ 64 by omega)
  have hp40 : p ≤ 40 := by omega
  have hf40 : f ≤ 40 := by omega
  have HK := hide hk
  have HPF := hide hpf
  have HD := hide hd
  have HFIT := hide (show fitsR (wt * ((p + f : Nat) : Rat)) = true from (hwt.mul (Dv.nat x.den (p + f))).fits x.den_pos hx.hd (by omega) (by omega))
  have HSP := hide (show (wt * x * val (decQ l h a b) x gF k p (f + 1) + wt * (1 - x) * val (decQ l h a b) x gF k (p + 1) f = wt * val (decQ l h a b) x gF (k + 1) p f) ∧ (wt * x * val (decQ l h a b) x gS k p (f + 1) + wt * (1 - x) * val (decQ l h a b) x gS k (p + 1) f = wt * val (decQ l h a b) x gS (k + 1) p f) ∧ (wt * x * val (decQ l h a b) x gO k p (f + 1) + wt * (1 - x) * val (decQ l h a b) x gO k (p + 1) f = wt * val (decQ l h a b) x gO (k + 1) p f) ∧ (wt * x * val (decQ l h a b) x gN k p (f + 1) + wt * (1 - x) * val (decQ l h a b) x gN k (p + 1) f = wt * val (decQ l h a b) x gN (k + 1) p f) from ⟨val_split hd, val_split hd, val_split hd, val_split hd⟩)
  have HFT := hide (play_fit (d := decQ l h a b) (k := k + 1) hx hwt (by omega))
  have e1 : ¬ ((p : Int) + (f : Int) = s.m) := by have := HK.out.m; omega
  have e2 : ((p : Int) + (f : Int) == s.m) = false := by simp [e1]
  have e3 : decide ((p : Int) + (f : Int) = s.m) = false := decide_eq_false e1
  have HE := hide (And.intro e1 (And.intro e2 e3))
  clear e1 e2 e3 ih1 ih2 hkM hwt hx hM
  have hw : wrap64 ((p : Int) + (f : Int)) = (p : Int) + (f : Int) := IntWalk.wrap64_in _ ⟨by omega, by omega⟩
  clear hk hpf hd
  go_enter Tryz.func47, Tryz.ntmps47
  go_upto_region 1 with (fail)
  generalize hW : World.alloc (World.alloc (World.alloc (World.alloc (World.alloc w _) _) _) _) _ = v
  have HY0 := hide (show PY w v s fp x fw wt by rw [← hW]; exact PY.mk0 hq hp ht _ _ _ _ _)
  have hvz := HY0.out.n.sz
  clear hW hq hp ht
  go_upto_region 2 with (go_at_call 48; (with_reducible refine (rzof_zero _).mono ?_); rintro e w1 ⟨f12, rfl, ho, hb⟩; have HO12 := hide ho; have HY1 := hide (HY0.out.below hb); have hsz := hb.size; clear ho hb)
  generalize hW : World.alloc w1 _ = v1
  have HY2 := hide (show PY w v1 s fp x fw wt by rw [← hW]; exact HY1.out.below ((Below.refl _ _).alloc (Nat.le_refl _) _))
  have HZ2 := hide (show Bf v1 w1.heap.size f12 0 by rw [← hW]; exact ⟨Bq.mk0 _ f12 rfl, HO12.out.alloc _⟩)
  have h12 : w.heap.size + 4 < w1.heap.size := HY1.out.n.sz
  obtain ⟨b12, hb12⟩ : ∃ b, b = w1.heap.size := ⟨_, rfl⟩
  rw [← hb12] at HZ2 h12 ⊢
  have HFA := hide HY2.out.f
  obtain ⟨a0, a1, a2, a3, a4, a5, a6, a7, a8, a9⟩ := HFA.out.ca
  clear hW hb12 hsz
  go_upto_region 3 with (go_at_call 87; (with_reducible refine (qdecide_ok _ s l h a b M p f HY2.out.f.q HK.out HPF.out).mono ?_); rintro e w2 ⟨rfl, hb⟩; rw [HD.out]; have HY3 := hide (HY2.out.below hb); have HZ3 := hide (HZ2.out.below hb); clear hb)
  clear a0 a1 a2 a3 a4 a5 a6 a7 a8 a9
  go_cut [15] from 15 to 140 (fun s15 wx => ∃ (g : Nat) (c : Fa), s15 = .pointer (some ⟨g, 0, none⟩) ∧ Hid (Bq wx g c) ∧ Hid (Fo wx c (some (wt * ((p + f : Nat) : Rat)))) ∧ Hid (Below w2.heap.size w2 wx) ∧ Hid (w2.heap.size ≤ g))
  case first =>
    apply region_seqo 8 10 [37, 38, 39, 40, 41, 42, 36, 43, 44, 15] [eqV _, eqV _, eqV _, eqV _, (fun x w => ∃ c : Fa, x = .agg #[.slice c.A c.n c.c, .slice c.B c.m c.d] ∧ Fo w c (some ((p + f : Nat) : Rat))), (fun x w => ∃ c : Fa, x = .tuple #[.agg #[.slice c.A c.n c.c, .slice c.B c.m c.d], .int .i64 0] ∧ Fo w c (some (wt * ((p + f : Nat) : Rat)))), (fun x w => ∃ c : Fa, x = .tuple #[.agg #[.slice c.A c.n c.c, .slice c.B c.m c.d], .int .i64 0] ∧ Fo w c (some (wt * ((p + f : Nat) : Rat)))), (fun x w => ∃ c : Fa, x = .agg #[.slice c.A c.n c.c, .slice c.B c.m c.d] ∧ Fo w c (some (wt * ((p + f : Nat) : Rat)))), eqV _, (fun x w => ∃ b : Nat, x = .pointer (some ⟨b, 0, none⟩) ∧ w2.heap.size ≤ b ∧ Bq w b fa0)] [false, false, false, false, false, false, false, false, false, false] (by kernel_rfl) (by decide) (by decide) rfl rfl rfl (by decide) (by kernel_rfl) (by kernel_rfl) rfl ?stb18 ?steps18 ?fina18 ?finb18
    case stb18 => repeat' (first | exact trivial | apply stb_eq | (first | exact fun x w w' ⟨c, h1, h2⟩ hb => ⟨c, h1, h2.below hb⟩ | exact fun x w w' ⟨c, h1, h2, h3⟩ hb => ⟨c, h1, h2, h3.below hb⟩) | apply And.intro)
    case steps18 =>
      repeat' (first | exact trivial | apply And.intro)
      all_goals
        intro a' w' hbw hdf hoff hdep K hK
        (have o2 := hoff 2 rfl; have o3 := hoff 3 rfl; have o9 := hoff 9 rfl)
        (have HG := hide (HY3.out.below hbw); have y0 := HG.out.t.b.c0; have y1 := HG.out.t.b.c1; have hvz2 := hbw.size)
        replace hdep := hdep _ rfl
        simp only [List.getElem_toArray, List.getElem_cons_succ, List.getElem_cons_zero, List.toList_toArray, depAll, binds_data, binds_chain, binds_guard, binds_phase, binds_text, binds_gc, cond_true, cond_false, true_and, getR, eqV, List.getD_cons_succ, List.getD_cons_zero, and_true] at hdep
        simp only [Nat.zero_add, Nat.reduceAdd, getR, eqV, List.getD_cons_succ, List.getD_cons_zero] at hK
        clear hoff hdf
        (first | (obtain ⟨e37, ⟨c1, e41, HO1⟩, hdep⟩ : (_ = _) ∧ (∃ c : Fa, _) ∧ _ := hdep) | (obtain ⟨e37, c1, e41, HO1⟩ : (_ = _) ∧ ∃ c : Fa, _ := hdep) | (obtain ⟨c1, e24, HO1⟩ : ∃ c : Fa, _ := hdep) | skip)
        first
          | (refine rg_unwanted rfl rfl rfl (b' := false) (by first | (simp [hdep]; done) | assumption) (by decide) ?_; exact hK _ _ rfl (Below.refl _ _) (by simp))
          | (refine rg_unwanted rfl rfl rfl (b' := true) (by first | (simp [hdep]; done) | assumption) (by decide) ?_; exact hK _ _ rfl (Below.refl _ _) (by simp))
          | (refine rg_wanted rfl rfl rfl (b' := true) (by first | (simp [hdep]; done) | assumption) rfl (fun K' hKK => ?_); go_wp2_with (first | (go_at_call 88; (with_reducible refine (r2mul_ok _ fw c1 wt _ HG.out.t.o HO1 HFIT.out).mono ?_); rintro e w1 ⟨c, rfl, ho, hb⟩) | (go_at_call 48; (with_reducible refine (rzof_nat _ p f HPF64.out).mono ?_); rintro e w1 ⟨c, rfl, ho, hb⟩)); first | exact hK _ _ rfl (Below.refl _ _) (by simp) | (first | exact hK _ _ ⟨c, rfl, ho⟩ hb (by simp) | exact hK _ _ ⟨c1, rfl, HO1⟩ (Below.refl _ _) (by simp) | exact hK _ _ ⟨_, rfl, hvz2, Bq.mk0 _ fa0 rfl⟩ ((Below.refl _ _).alloc (Nat.le_refl _) _) (by simp)))
          | (refine rg_wanted rfl rfl rfl (b' := false) (by first | (simp [hdep]; done) | assumption) rfl (fun K' hKK => ?_); go_wp2_with (first | (go_at_call 88; (with_reducible refine (r2mul_ok _ fw c1 wt _ HG.out.t.o HO1 HFIT.out).mono ?_); rintro e w1 ⟨c, rfl, ho, hb⟩) | (go_at_call 48; (with_reducible refine (rzof_nat _ p f HPF64.out).mono ?_); rintro e w1 ⟨c, rfl, ho, hb⟩)); first | exact hK _ _ rfl (Below.refl _ _) (by simp) | (first | exact hK _ _ ⟨c, rfl, ho⟩ hb (by simp) | exact hK _ _ ⟨c1, rfl, HO1⟩ (Below.refl _ _) (by simp) | exact hK _ _ ⟨_, rfl, hvz2, Bq.mk0 _ fa0 rfl⟩ ((Below.refl _ _).alloc (Nat.le_refl _) _) (by simp)))
          | (refine rg_free rfl rfl (fun K' hKK => ?_); fail)
          | (refine rg_free rfl rfl (fun K' hKK => ?_); go_wp2_with (first | (go_at_call 88; (with_reducible refine (r2mul_ok _ fw c1 wt _ HG.out.t.o HO1 HFIT.out).mono ?_); rintro e w1 ⟨c, rfl, ho, hb⟩) | (go_at_call 48; (with_reducible refine (rzof_nat _ p f HPF64.out).mono ?_); rintro e w1 ⟨c, rfl, ho, hb⟩)); first | exact hK _ _ rfl (Below.refl _ _) (by simp) | (first | exact hK _ _ ⟨c, rfl, ho⟩ hb (by simp) | exact hK _ _ ⟨c1, rfl, HO1⟩ (Below.refl _ _) (by simp) | exact hK _ _ ⟨_, rfl, hvz2, Bq.mk0 _ fa0 rfl⟩ ((Below.refl _ _).alloc (Nat.le_refl _) _) (by simp)))
    all_goals
      intro w' hbw
      repeat (first | refine fin_eq ?_ | refine fin_any (fun x hx => ?_))
      rename_i x1 h1 x2 h2 x3 h3 x4 h4
      obtain ⟨c5, rfl, -⟩ := h3
      obtain ⟨q, rfl, ho⟩ := h4
      obtain ⟨g, rfl, hg, hq⟩ := hx
      have HO := hide ho
      have HQ := hide hq
      have HBW := hide hbw
      have hrel := hide (show ∃ (g' : Nat) (c' : Fa), Value.pointer (some ⟨g, 0, none⟩) = .pointer (some ⟨g', 0, none⟩) ∧ Hid (Bq ((w'.setCell ⟨g, 0, none⟩ (.slice q.A q.n q.c)).setCell ⟨g, 1, none⟩ (.slice q.B q.m q.d)) g' c') ∧ Hid (Fo ((w'.setCell ⟨g, 0, none⟩ (.slice q.A q.n q.c)).setCell ⟨g, 1, none⟩ (.slice q.B q.m q.d)) c' (some (wt * ((p + f : Nat) : Rat)))) ∧ Hid (Below w2.heap.size w2 ((w'.setCell ⟨g, 0, none⟩ (.slice q.A q.n q.c)).setCell ⟨g, 1, none⟩ (.slice q.B q.m q.d))) ∧ Hid (w2.heap.size ≤ g') from
        ⟨g, q, rfl, hide (HQ.out.fill q), hide (HO.out.fill HQ.out q), hide (Rb.end0 HBW.out hg _ _), hide hg⟩)
      obtain ⟨c0, c1, cf, cz, -⟩ := HQ.out
      clear ho hq hbw
      refine fin_nil ?_
      simp only [List.setIfInBounds_toArray, List.set_cons_succ, List.set_cons_zero]
    · skip
      refine wpAny_one (i := 10) (by kernel_rfl) ?_
      refine rg_free rfl rfl (fun K' hKK => ?_)
      go_wp2_with fail
      refine wpAny_one (i := 11) (by kernel_rfl) ?_
      refine rg_free rfl rfl (fun K' hKK => ?_)
      go_wp2_with fail
      refine wpAny_done (by kernel_rfl) ?_ _
      go_wp2_with fail
      go_meet
      case rel => exact hrel.out
    · skip
      refine wpAny_two (i := 8) (j := 10) (by kernel_rfl) ?_ ?_
      · skip
        refine rg_free rfl rfl (fun K' hKK => ?_)
        go_wp2_with fail
        refine wpAny_one (i := 10) (by kernel_rfl) ?_
        refine rg_free rfl rfl (fun K' hKK => ?_)
        go_wp2_with fail
        refine wpAny_one (i := 11) (by kernel_rfl) ?_
        refine rg_free rfl rfl (fun K' hKK => ?_)
        go_wp2_with fail
        refine wpAny_done (by kernel_rfl) ?_ _
        go_wp2_with fail
        go_meet
        case rel => exact hrel.out
      · skip
        refine rg_free rfl rfl (fun K' hKK => ?_)
        go_wp2_with fail
        refine wpAny_one (i := 8) (by kernel_rfl) ?_
        refine rg_free rfl rfl (fun K' hKK => ?_)
        go_wp2_with fail
        refine wpAny_one (i := 11) (by kernel_rfl) ?_
        refine rg_free rfl rfl (fun K' hKK => ?_)
        go_wp2_with fail
        refine wpAny_done (by kernel_rfl) ?_ _
        go_wp2_with fail
        go_meet
        case rel => exact hrel.out
  obtain ⟨b15, fn, rfl, HQ15, HO15, HB15, HG15⟩ := hcut
  have HY4 := hide (HY3.out.below HB15.out)
  have HZ4 := hide (HZ3.out.below HB15.out)
  have hb15 : w.heap.size + 4 < b15 := Nat.lt_of_lt_of_le HY3.out.n.sz HG15.out
  obtain ⟨e1, e2, e3⟩ := HE.out
  have m8 := HY4.out.f.cb.cell 8 _ rfl
  have m9 := HY4.out.f.cb.sz
  have t0 := HY4.out.t.b.c0
  have t1 := HY4.out.t.b.c1
  have p0 := HY4.out.p.b.c0
  have p1 := HY4.out.p.b.c1
  clear HQ15 HO15 HZ4
  go_upto_region 11 with (go_at_call 88; (with_reducible refine (r2mul_ok _ fw fp wt x HY4.out.t.o HY4.out.p.o HFU.out).mono ?_); rintro e w5 ⟨fu, rfl, ho, hb⟩; have HO5 := hide ho; have HY5 := hide (HY4.out.below hb); clear ho hb)
  clear m8 m9 t0 t1 p0 p1 e1 e2 e3 hw
  generalize hW : World.alloc w5 _ = v5
  have HY6 := hide (show PY w v5 s fp x fw wt by rw [← hW]; exact HY5.out.below ((Below.refl _ _).alloc (Nat.le_refl _) _))
  have HU6 := hide (show Bf v5 w5.heap.size fu (wt * x) by rw [← hW]; exact ⟨Bq.mk0 _ fu rfl, HO5.out.alloc _⟩)
  have h17 : w.heap.size + 4 < w5.heap.size := HY5.out.n.sz
  obtain ⟨b17, hb17⟩ : ∃ b, b = w5.heap.size := ⟨_, rfl⟩
  rw [← hb17] at HU6 h17 ⊢
  clear hW hb17
  go_cut [19] from 19 to 140 (fun s19 wx => ∃ (g : Nat) (c : Fa), s19 = .pointer (some ⟨g, 0, none⟩) ∧ Hid (Bq wx g c) ∧ Hid (Fo wx c (some (wt * (1 - x)))) ∧ Hid (Below v5.heap.size v5 wx))
  case first =>
    apply region_seqo 6 8 [80, 81, 82, 83, 79, 84, 85, 19] [eqV _, eqV _, (fun x' w => ∃ c : Fa, x' = .agg #[.slice c.A c.n c.c, .slice c.B c.m c.d] ∧ Fo w c (some (1 - x))), (fun x' w => ∃ c : Fa, x' = .tuple #[.agg #[.slice c.A c.n c.c, .slice c.B c.m c.d], .int .i64 0] ∧ Fo w c (some (wt * (1 - x)))), (fun x' w => ∃ c : Fa, x' = .tuple #[.agg #[.slice c.A c.n c.c, .slice c.B c.m c.d], .int .i64 0] ∧ Fo w c (some (wt * (1 - x)))), (fun x' w => ∃ c : Fa, x' = .agg #[.slice c.A c.n c.c, .slice c.B c.m c.d] ∧ Fo w c (some (wt * (1 - x)))), eqV _, (fun x' w => ∃ b : Nat, x' = .pointer (some ⟨b, 0, none⟩) ∧ v5.heap.size ≤ b ∧ Bq w b fa0)] [false, false, false, false, false, false, false, false] (by kernel_rfl) (by decide) (by decide) rfl rfl rfl (by decide) (by kernel_rfl) (by kernel_rfl) rfl ?stb2 ?steps2 ?fina2 ?finb2
    case stb2 => repeat' (first | exact trivial | apply stb_eq | (first | exact fun x w w' ⟨c, h1, h2⟩ hb => ⟨c, h1, h2.below hb⟩ | exact fun x w w' ⟨c, h1, h2, h3⟩ hb => ⟨c, h1, h2, h3.below hb⟩) | apply And.intro)
    case steps2 =>
      repeat' (first | exact trivial | apply And.intro)
      all_goals
        intro a' w' hbw hdf hoff hdep K hK
        (have o6 := hoff 6 rfl; have o9 := hoff 9 rfl)
        (have HG := hide (HY6.out.below hbw); have y0 := HG.out.t.b.c0; have y1 := HG.out.t.b.c1; have y2 := HG.out.p.b.c0; have y3 := HG.out.p.b.c1; have hvz2 := hbw.size)
        replace hdep := hdep _ rfl
        simp only [List.getElem_toArray, List.getElem_cons_succ, List.getElem_cons_zero, List.toList_toArray, depAll, binds_data, binds_chain, binds_guard, binds_phase, binds_text, binds_gc, cond_true, cond_false, true_and, getR, eqV, List.getD_cons_succ, List.getD_cons_zero, and_true] at hdep
        simp only [Nat.zero_add, Nat.reduceAdd, getR, eqV, List.getD_cons_succ, List.getD_cons_zero] at hK
        clear hoff hdf
        (first | (obtain ⟨e37, ⟨c1, e41, HO1⟩, hdep⟩ : (_ = _) ∧ (∃ c : Fa, _) ∧ _ := hdep) | (obtain ⟨e37, c1, e41, HO1⟩ : (_ = _) ∧ ∃ c : Fa, _ := hdep) | (obtain ⟨c1, e24, HO1⟩ : ∃ c : Fa, _ := hdep) | skip)
        first
          | (refine rg_unwanted rfl rfl rfl (b' := false) (by first | (simp [hdep]; done) | assumption) (by decide) ?_; exact hK _ _ rfl (Below.refl _ _) (by simp))
          | (refine rg_unwanted rfl rfl rfl (b' := true) (by first | (simp [hdep]; done) | assumption) (by decide) ?_; exact hK _ _ rfl (Below.refl _ _) (by simp))
          | (refine rg_wanted rfl rfl rfl (b' := true) (by first | (simp [hdep]; done) | assumption) rfl (fun K' hKK => ?_); go_wp2_with (first | (go_at_call 88; (with_reducible refine (r2mul_ok _ fw c1 wt _ HG.out.t.o HO1 HFD.out).mono ?_); rintro e w1 ⟨c, rfl, ho, hb⟩) | (go_at_call 89; (with_reducible refine (rzrest_any _ fp x HG.out.p.o HFQ.out.1 HFQ.out.2).mono ?_); rintro e w1 ⟨c, rfl, ho, hb⟩)); first | exact hK _ _ rfl (Below.refl _ _) (by simp) | (first | exact hK _ _ ⟨c, rfl, ho⟩ hb (by simp) | exact hK _ _ ⟨c1, rfl, HO1⟩ (Below.refl _ _) (by simp) | exact hK _ _ ⟨_, rfl, hvz2, Bq.mk0 _ fa0 rfl⟩ ((Below.refl _ _).alloc (Nat.le_refl _) _) (by simp)))
          | (refine rg_wanted rfl rfl rfl (b' := false) (by first | (simp [hdep]; done) | assumption) rfl (fun K' hKK => ?_); go_wp2_with (first | (go_at_call 88; (with_reducible refine (r2mul_ok _ fw c1 wt _ HG.out.t.o HO1 HFD.out).mono ?_); rintro e w1 ⟨c, rfl, ho, hb⟩) | (go_at_call 89; (with_reducible refine (rzrest_any _ fp x HG.out.p.o HFQ.out.1 HFQ.out.2).mono ?_); rintro e w1 ⟨c, rfl, ho, hb⟩)); first | exact hK _ _ rfl (Below.refl _ _) (by simp) | (first | exact hK _ _ ⟨c, rfl, ho⟩ hb (by simp) | exact hK _ _ ⟨c1, rfl, HO1⟩ (Below.refl _ _) (by simp) | exact hK _ _ ⟨_, rfl, hvz2, Bq.mk0 _ fa0 rfl⟩ ((Below.refl _ _).alloc (Nat.le_refl _) _) (by simp)))
          | (refine rg_free rfl rfl (fun K' hKK => ?_); fail)
          | (refine rg_free rfl rfl (fun K' hKK => ?_); go_wp2_with (first | (go_at_call 88; (with_reducible refine (r2mul_ok _ fw c1 wt _ HG.out.t.o HO1 HFD.out).mono ?_); rintro e w1 ⟨c, rfl, ho, hb⟩) | (go_at_call 89; (with_reducible refine (rzrest_any _ fp x HG.out.p.o HFQ.out.1 HFQ.out.2).mono ?_); rintro e w1 ⟨c, rfl, ho, hb⟩)); first | exact hK _ _ rfl (Below.refl _ _) (by simp) | (first | exact hK _ _ ⟨c, rfl, ho⟩ hb (by simp) | exact hK _ _ ⟨c1, rfl, HO1⟩ (Below.refl _ _) (by simp) | exact hK _ _ ⟨_, rfl, hvz2, Bq.mk0 _ fa0 rfl⟩ ((Below.refl _ _).alloc (Nat.le_refl _) _) (by simp)))
    all_goals
      intro w' hbw
      repeat (first | refine fin_eq ?_ | refine fin_any (fun x hx => ?_))
      rename_i x1 h1 x2 h2 x3 h3 x4 h4
      obtain ⟨c5, rfl, -⟩ := h3
      obtain ⟨q, rfl, ho⟩ := h4
      obtain ⟨g, rfl, hg, hq⟩ := hx
      have HO := hide ho
      have HQ := hide hq
      have HBW := hide hbw
      have hrel := hide (show ∃ (g' : Nat) (c' : Fa), Value.pointer (some ⟨g, 0, none⟩) = .pointer (some ⟨g', 0, none⟩) ∧ Hid (Bq ((w'.setCell ⟨g, 0, none⟩ (.slice q.A q.n q.c)).setCell ⟨g, 1, none⟩ (.slice q.B q.m q.d)) g' c') ∧ Hid (Fo ((w'.setCell ⟨g, 0, none⟩ (.slice q.A q.n q.c)).setCell ⟨g, 1, none⟩ (.slice q.B q.m q.d)) c' (some (wt * (1 - x)))) ∧ Hid (Below v5.heap.size v5 ((w'.setCell ⟨g, 0, none⟩ (.slice q.A q.n q.c)).setCell ⟨g, 1, none⟩ (.slice q.B q.m q.d))) from
        ⟨g, q, rfl, hide (HQ.out.fill q), hide (HO.out.fill HQ.out q), hide (Rb.end0 HBW.out hg _ _)⟩)
      obtain ⟨c0, c1, cf, cz, -⟩ := HQ.out
      clear ho hq hbw
      refine fin_nil ?_
      simp only [List.setIfInBounds_toArray, List.set_cons_succ, List.set_cons_zero]
    · skip
      refine wpAny_one (i := 8) (by kernel_rfl) ?_
      refine rg_free rfl rfl (fun K' hKK => ?_)
      go_wp2_with fail
      refine wpAny_one (i := 9) (by kernel_rfl) ?_
      refine rg_free rfl rfl (fun K' hKK => ?_)
      go_wp2_with fail
      refine wpAny_done (by kernel_rfl) ?_ _
      go_wp2_with fail
      go_meet
      case rel => exact hrel.out
    · skip
      refine wpAny_two (i := 6) (j := 8) (by kernel_rfl) ?_ ?_
      · skip
        refine rg_free rfl rfl (fun K' hKK => ?_)
        go_wp2_with fail
        refine wpAny_one (i := 8) (by kernel_rfl) ?_
        refine rg_free rfl rfl (fun K' hKK => ?_)
        go_wp2_with fail
        refine wpAny_one (i := 9) (by kernel_rfl) ?_
        refine rg_free rfl rfl (fun K' hKK => ?_)
        go_wp2_with fail
        refine wpAny_done (by kernel_rfl) ?_ _
        go_wp2_with fail
        go_meet
        case rel => exact hrel.out
      · skip
        refine rg_free rfl rfl (fun K' hKK => ?_)
        go_wp2_with fail
        refine wpAny_one (i := 6) (by kernel_rfl) ?_
        refine rg_free rfl rfl (fun K' hKK => ?_)
        go_wp2_with fail
        refine wpAny_one (i := 9) (by kernel_rfl) ?_
        refine rg_free rfl rfl (fun K' hKK => ?_)
        go_wp2_with fail
        refine wpAny_done (by kernel_rfl) ?_ _
        go_wp2_with fail
        go_meet
        case rel => exact hrel.out
  obtain ⟨b19, fd, rfl, HQ19, HO19, HB19⟩ := hcut
  have HY7 := hide (HY6.out.below HB19.out)
  have HU7 := hide (HU6.out.below HB19.out)
  have HFA := hide HY7.out.f
  obtain ⟨a0, a1, a2, a3, a4, a5, a6, a7, a8, a9⟩ := HFA.out.ca
  have p0 := HY7.out.p.b.c0
  have p1 := HY7.out.p.b.c1
  have u0 := HU7.out.b.c0
  have u1 := HU7.out.b.c1
  go_upto_region 13 with (go_at_call 47; (with_reducible refine (HI1.out _ fu _ HY7.out.f.q HY7.out.p.o HU7.out.o HW.out.1).mono ?_); rintro e w8 ⟨f0, f2, f4, fn1, rfl, h0, h2, h4, hn, hb⟩; have HO8 := hide (And.intro h0 (And.intro h2 (And.intro h4 hn))); have HY8 := hide (HY7.out.below hb); have HQ8 := hide (HQ19.out.below hb); have HD8 := hide (HO19.out.below hb); clear h0 h2 h4 hn hb)
  generalize hW : World.alloc (World.alloc w8 _) _ = v8
  have HY9 := hide (show PY w v8 s fp x fw wt by rw [← hW]; exact HY8.out.below (((Below.refl _ _).alloc (Nat.le_refl _) _).alloc (by simp) _))
  have HQ9 := hide (show Bq v8 b19 fd by rw [← hW]; exact HQ8.out.below (((Below.refl _ _).alloc (Nat.le_refl _) _).alloc (by simp) _))
  have HD9 := hide (show Fo v8 fd _ by rw [← hW]; exact HD8.out.below (((Below.refl _ _).alloc (Nat.le_refl _) _).alloc (by simp) _))
  have HX9 := hide (show OdC v8 w8.heap.size f0 f2 f4 _ _ _ by rw [← hW]; exact (OdC.mk0 HO8.out.1 HO8.out.2.1 HO8.out.2.2.1 _).below ((Below.refl _ _).alloc (Nat.le_refl _) _))
  have HN9 := hide (show Bf v8 (w8.heap.size + 1) fn1 _ by rw [← hW]; exact ⟨Bq.mk0 _ fn1 (by simp), (HO8.out.2.2.2.alloc _).alloc _⟩)
  have h21 : w.heap.size + 4 < w8.heap.size := HY8.out.n.sz
  have h22 : w8.heap.size + 1 < v8.heap.size := HN9.out.b.sz
  obtain ⟨b22, hb22⟩ : ∃ b, b = w8.heap.size + 1 := ⟨_, rfl⟩
  have h2122 : w8.heap.size < b22 := by omega
  rw [← hb22] at HN9 h22 ⊢
  obtain ⟨b21, hb21⟩ : ∃ b, b = w8.heap.size := ⟨_, rfl⟩
  rw [← hb21] at HX9 h21 h2122 ⊢
  clear hW hb21 hb22 a0 a1 a2 a3 a4 a5 a6 a7 a8 a9 p0 p1 u0 u1
  have HFA2 := hide HY9.out.f
  obtain ⟨a0, a1, a2, a3, a4, a5, a6, a7, a8, a9⟩ := HFA2.out.ca
  have p0 := HY9.out.p.b.c0
  have p1 := HY9.out.p.b.c1
  have u0 := HQ9.out.c0
  have u1 := HQ9.out.c1
  go_upto_region 14 with (go_at_call 47; (with_reducible refine (HI2.out _ fd _ HY9.out.f.q HY9.out.p.o HD9.out HW.out.2).mono ?_); rintro e w9 ⟨g0, g2, g4, fn2, rfl, h0, h2, h4, hn, hb⟩; have HO10 := hide (And.intro h0 (And.intro h2 (And.intro h4 hn))); have HY10 := hide (HY9.out.below hb); have HX10 := hide (HX9.out.below hb); have HN10 := hide (HN9.out.below hb); have hsz9 := hb.size; clear h0 h2 h4 hn hb)
  generalize hW : World.alloc (World.alloc w9 _) _ = v9
  have HY11 := hide (show PY w v9 s fp x fw wt by rw [← hW]; exact HY10.out.below (((Below.refl _ _).alloc (Nat.le_refl _) _).alloc (by simp) _))
  have HX11 := hide (show OdC v9 b21 f0 f2 f4 _ _ _ by rw [← hW]; exact HX10.out.below (((Below.refl _ _).alloc (Nat.le_refl _) _).alloc (by simp) _))
  have HN11 := hide (show Bf v9 b22 fn1 _ by rw [← hW]; exact HN10.out.below (((Below.refl _ _).alloc (Nat.le_refl _) _).alloc (by simp) _))
  have HV11 := hide (show OdC v9 w9.heap.size g0 g2 g4 _ _ _ by rw [← hW]; exact (OdC.mk0 HO10.out.1 HO10.out.2.1 HO10.out.2.2.1 _).below ((Below.refl _ _).alloc (Nat.le_refl _) _))
  have HM11 := hide (show Bf v9 (w9.heap.size + 1) fn2 _ by rw [← hW]; exact ⟨Bq.mk0 _ fn2 (by simp), (HO10.out.2.2.2.alloc _).alloc _⟩)
  have h24 : w9.heap.size + 1 < v9.heap.size := HM11.out.b.sz
  have h23 : b22 < w9.heap.size := by omega
  obtain ⟨b24, hb24⟩ : ∃ b, b = w9.heap.size + 1 := ⟨_, rfl⟩
  have h2324 : w9.heap.size < b24 := by omega
  rw [← hb24] at HM11 h24 ⊢
  obtain ⟨b23, hb23⟩ : ∃ b, b = w9.heap.size := ⟨_, rfl⟩
  rw [← hb23] at HV11 h23 h2324 ⊢
  clear hW hb23 hb24 a0 a1 a2 a3 a4 a5 a6 a7 a8 a9 p0 p1 u0 u1
  go_upto_region 15 with (fail)
  generalize hW : World.alloc v9 _ = v10
  have HDD := hide (show PD w v10 s fp x fw wt b21 f0 f2 f4 _ _ _ b22 fn1 _ b23 g0 g2 g4 _ _ _ b24 fn2 _ v9.heap.size z6 by
    rw [← hW]
    exact ⟨HY11.out.below ((Below.refl _ _).alloc (Nat.le_refl _) _), HX11.out.below ((Below.refl _ _).alloc (Nat.le_refl _) _), HN11.out.alloc _, HV11.out.below ((Below.refl _ _).alloc (Nat.le_refl _) _), HM11.out.alloc _, Cb.mk0 z6 (by simp [z6]) _ rfl, ⟨h21, h2122, h23, h2324, h24⟩⟩)
  obtain ⟨b25, hb25⟩ : ∃ b, b = v9.heap.size := ⟨_, rfl⟩
  rw [← hb25] at HDD h24 ⊢
  clear hW hb25 HY7 HU7 HY8 HQ8 HD8 HY9 HQ9 HD9 HX9 HN9 HY10 HX10 HN10 HY11 HX11 HN11 HV11 HM11
  have HC0 := hide (show fitsR (wt * x * val (decQ l h a b) x gF k p (f + 1) + wt * (1 - x) * val (decQ l h a b) x gF k (p + 1) f) = true by rw [HSP.out.1]; exact HFT.out.1)
  have HC2 := hide (show fitsR (wt * x * val (decQ l h a b) x gS k p (f + 1) + wt * (1 - x) * val (decQ l h a b) x gS k (p + 1) f) = true by rw [HSP.out.2.1]; exact HFT.out.2.1)
  have HC4 := hide (show fitsR (wt * x * val (decQ l h a b) x gO k p (f + 1) + wt * (1 - x) * val (decQ l h a b) x gO k (p + 1) f) = true by rw [HSP.out.2.2.1]; exact HFT.out.2.2.1)
  have HCN := hide (show fitsR (wt * x * val (decQ l h a b) x gN k p (f + 1) + wt * (1 - x) * val (decQ l h a b) x gN k (p + 1) f) = true by rw [HSP.out.2.2.2]; exact HFT.out.2.2.2)
  have x0 := HDD.out.o1.cb.cell 0 _ rfl
  have x1 := HDD.out.o1.cb.cell 1 _ rfl
  have y0 := HDD.out.o2.cb.cell 0 _ rfl
  have y1 := HDD.out.o2.cb.cell 1 _ rfl
  go_upto_region 16 with (go_at_call 90; (with_reducible refine (r2add_ok _ f0 g0 _ _ HDD.out.o1.o0 HDD.out.o2.o0 HC0.out).mono ?_); rintro e wa ⟨s0, rfl, ho, hb⟩; have HS0 := hide ho; have HDa := hide (HDD.out.below hb); have z0 := HDa.out.c.cell 0 _ rfl; have z1 := HDa.out.c.cell 1 _ rfl; have zf := HDa.out.c.fz; have zz := HDa.out.c.sz; skip; clear ho hb)
  generalize hW : World.setCell (World.setCell wa _ _) _ _ = va
  have HDE := hide (show PD w va s fp x fw wt b21 f0 f2 f4 _ _ _ b22 fn1 _ b23 g0 g2 g4 _ _ _ b24 fn2 _ b25 [.slice s0.A s0.n s0.c, .slice s0.B s0.m s0.d, .slice none 0 0, .slice none 0 0, .slice none 0 0, .slice none 0 0] by rw [← hW]; exact HDa.out.put 0 1 s0 (by simp [z6]) (by simp [z6]))
  have HS0b := hide (show Fo va s0 _ by rw [← hW]; exact HS0.out.put25 HDa.out 0 1 s0)
  clear hW x0 x1 y0 y1 z0 z1 zf zz HDa HDD HS0
  have HDD := HDE
  clear HDE
  have x0 := HDD.out.o1.cb.cell 2 _ rfl
  have x1 := HDD.out.o1.cb.cell 3 _ rfl
  have y0 := HDD.out.o2.cb.cell 2 _ rfl
  have y1 := HDD.out.o2.cb.cell 3 _ rfl
  go_upto_region 17 with (go_at_call 90; (with_reducible refine (r2add_ok _ f2 g2 _ _ HDD.out.o1.o2 HDD.out.o2.o2 HC2.out).mono ?_); rintro e wa ⟨s2, rfl, ho, hb⟩; have HS2 := hide ho; have HDa := hide (HDD.out.below hb); have z0 := HDa.out.c.cell 2 _ rfl; have z1 := HDa.out.c.cell 3 _ rfl; have zf := HDa.out.c.fz; have zz := HDa.out.c.sz; have HT0 := hide (HS0b.out.below hb); clear ho hb)
  generalize hW : World.setCell (World.setCell wa _ _) _ _ = va
  have HDE := hide (show PD w va s fp x fw wt b21 f0 f2 f4 _ _ _ b22 fn1 _ b23 g0 g2 g4 _ _ _ b24 fn2 _ b25 [.slice s0.A s0.n s0.c, .slice s0.B s0.m s0.d, .slice s2.A s2.n s2.c, .slice s2.B s2.m s2.d, .slice none 0 0, .slice none 0 0] by rw [← hW]; exact HDa.out.put 2 3 s2 (by simp) (by simp))
  have HT0b := hide (show Fo va s0 _ by rw [← hW]; exact HT0.out.put25 HDa.out 2 3 s2)
  have HS2b := hide (show Fo va s2 _ by rw [← hW]; exact HS2.out.put25 HDa.out 2 3 s2)
  clear hW x0 x1 y0 y1 z0 z1 zf zz HDa HDD HS2 HT0 HS0b
  have HDD := HDE
  clear HDE
  have x0 := HDD.out.o1.cb.cell 4 _ rfl
  have x1 := HDD.out.o1.cb.cell 5 _ rfl
  have y0 := HDD.out.o2.cb.cell 4 _ rfl
  have y1 := HDD.out.o2.cb.cell 5 _ rfl
  go_upto_region 18 with (go_at_call 90; (with_reducible refine (r2add_ok _ f4 g4 _ _ HDD.out.o1.o4 HDD.out.o2.o4 HC4.out).mono ?_); rintro e wa ⟨s4, rfl, ho, hb⟩; have HS4 := hide ho; have HDa := hide (HDD.out.below hb); have z0 := HDa.out.c.cell 4 _ rfl; have z1 := HDa.out.c.cell 5 _ rfl; have zf := HDa.out.c.fz; have zz := HDa.out.c.sz; have HT0 := hide (HT0b.out.below hb); have HT2 := hide (HS2b.out.below hb); clear ho hb)
  generalize hW : World.setCell (World.setCell wa _ _) _ _ = va
  have HDE := hide (show PD w va s fp x fw wt b21 f0 f2 f4 _ _ _ b22 fn1 _ b23 g0 g2 g4 _ _ _ b24 fn2 _ b25 [.slice s0.A s0.n s0.c, .slice s0.B s0.m s0.d, .slice s2.A s2.n s2.c, .slice s2.B s2.m s2.d, .slice s4.A s4.n s4.c, .slice s4.B s4.m s4.d] by rw [← hW]; exact HDa.out.put 4 5 s4 (by simp) (by simp))
  have HT0c := hide (show Fo va s0 _ by rw [← hW]; exact HT0.out.put25 HDa.out 4 5 s4)
  have HT2c := hide (show Fo va s2 _ by rw [← hW]; exact HT2.out.put25 HDa.out 4 5 s4)
  have HS4b := hide (show Fo va s4 _ by rw [← hW]; exact HS4.out.put25 HDa.out 4 5 s4)
  clear hW x0 x1 y0 y1 z0 z1 zf zz HDa HDD HS4 HT0 HT2 HT0b HS2b
  have HDD := HDE
  clear HDE
  have x0 := HDD.out.n1.b.c0
  have x1 := HDD.out.n1.b.c1
  have y0 := HDD.out.n2.b.c0
  have y1 := HDD.out.n2.b.c1
  go_upto_region 19 with (go_at_call 90; (with_reducible refine (r2add_ok _ fn1 fn2 _ _ HDD.out.n1.o HDD.out.n2.o HCN.out).mono ?_); rintro e wd ⟨sn, rfl, ho, hb⟩; have HSN := hide ho; have HDa := hide (HDD.out.below hb); have HT0 := hide (HT0c.out.below hb); have HT2 := hide (HT2c.out.below hb); have HT4 := hide (HS4b.out.below hb); clear ho hb)
  generalize hW : World.alloc wd _ = vd
  have HDF := hide (show PD w vd s fp x fw wt b21 f0 f2 f4 _ _ _ b22 fn1 _ b23 g0 g2 g4 _ _ _ b24 fn2 _ b25 _ by rw [← hW]; exact HDa.out.below ((Below.refl _ _).alloc (Nat.le_refl _) _))
  have HO0 := hide (show Fo vd s0 _ by rw [← hW]; exact HT0.out.alloc _)
  have HO2 := hide (show Fo vd s2 _ by rw [← hW]; exact HT2.out.alloc _)
  have HO4 := hide (show Fo vd s4 _ by rw [← hW]; exact HT4.out.alloc _)
  have HN := hide (show Bf vd wd.heap.size sn _ by rw [← hW]; exact ⟨Bq.mk0 _ sn rfl, HSN.out.alloc _⟩)
  have h26 : w.heap.size + 4 < wd.heap.size := HDa.out.y.n.sz
  obtain ⟨b26, hb26⟩ : ∃ b, b = wd.heap.size := ⟨_, rfl⟩
  rw [← hb26] at HN h26 ⊢
  have h25 : w.heap.size + 4 < b25 := by omega
  clear hW hb26 x0 x1 y0 y1 HDa HDD HT0 HT2 HT4 HT0c HT2c HS4b
  have n0 := HN.out.b.c0
  have n1 := HN.out.b.c1
  have z0 := HDF.out.c.cell 0 _ rfl
  have z1 := HDF.out.c.cell 1 _ rfl
  have z2 := HDF.out.c.cell 2 _ rfl
  have z3 := HDF.out.c.cell 3 _ rfl
  have z4 := HDF.out.c.cell 4 _ rfl
  have z5 := HDF.out.c.cell 5 _ rfl
  have r0 := HDF.out.y.r.cell 0 _ rfl
  have r1 := HDF.out.y.r.cell 1 _ rfl
  have r2 := HDF.out.y.r.cell 2 _ rfl
  have r3 := HDF.out.y.r.cell 3 _ rfl
  have r4 := HDF.out.y.r.cell 4 _ rfl
  have r5 := HDF.out.y.r.cell 5 _ rfl
  have rf := HDF.out.y.r.fz
  have rz := HDF.out.y.r.sz
  obtain ⟨q0, q1, qf, qz, -⟩ := HDF.out.y.n
  go_region
  go_wp2_with fail
  generalize hW : World.setCell (World.setCell (World.setCell (World.setCell (World.setCell (World.setCell (World.setCell (World.setCell _ _ _) _ _) _ _) _ _) _ _) _ _) _ _) _ _ = v5
  have HF8 := hide (show F8 w v5 s0 s2 s4 sn _ _ _ _ by rw [← hW]; exact F8.mk0 HDF.out.y HO0.out HO2.out HO4.out HN.out.o)
  clear hW n0 n1 z0 z1 z2 z3 z4 z5 r0 r1 r2 r3 r4 r5 rf rz q0 q1 qf qz
  have k0 := HF8.out.r.cell 0 _ rfl
  have k1 := HF8.out.r.cell 1 _ rfl
  have k2 := HF8.out.r.cell 2 _ rfl
  have k3 := HF8.out.r.cell 3 _ rfl
  have k4 := HF8.out.r.cell 4 _ rfl
  have k5 := HF8.out.r.cell 5 _ rfl
  have d0 := HF8.out.n.c0
  have d1 := HF8.out.n.c1
  refine bodyPost_ret (v := .tuple #[.agg #[.slice s0.A s0.n s0.c, .slice s0.B s0.m s0.d, .slice s2.A s2.n s2.c, .slice s2.B s2.m s2.d, .slice s4.A s4.n s4.c, .slice s4.B s4.m s4.d], .agg #[.slice sn.A sn.n sn.c, .slice sn.B sn.m sn.d]]) (by simp [results, Tryz.results47, go_sem, *]) rfl ⟨s0, s2, s4, sn, rfl, by rw [← HSP.out.1]; exact HF8.out.o0.drew, by rw [← HSP.out.2.1]; exact HF8.out.o2.drew, by rw [← HSP.out.2.2.1]; exact HF8.out.o4.drew, by rw [← HSP.out.2.2.2]; exact HF8.out.on.drew, HF8.out.bw.drew⟩
theorem play_ok (s : Sv) (l h a b : Rat) (M : Nat) (hk : OKs s l h a b M) (fp : Fa) (x : Rat) (hx : Chn x) : ∀ (k p f : Nat), p + f + k = M → ∀ (W : World) (fw : Fa) (wt : Rat), SQ W s → Fo W fp (some x) → Fo W fw (some wt) → Dv x.den (p + f) 1 wt →
    Calls Tryz.prog 47 #[.agg #[.slice s.l.A s.l.n s.l.c, .slice s.l.B s.l.m s.l.d, .slice s.h.A s.h.n s.h.c, .slice s.h.B s.h.m s.h.d, .slice s.a.A s.a.n s.a.c, .slice s.a.B s.a.m s.a.d, .slice s.b.A s.b.n s.b.c, .slice s.b.B s.b.m s.b.d, .int .i64 s.m], .agg #[.slice fp.A fp.n fp.c, .slice fp.B fp.m fp.d], .int .i64 (p : Int), .int .i64 (f : Int), .agg #[.slice fw.A fw.n fw.c, .slice fw.B fw.m fw.d]] W fun e w' => PlV (decQ l h a b) x k p f wt W e w' := by
  intro k
  induction k with
  | zero =>
    intro p f hM W fw wt hq hp hw hdv
    have hm := hk.m2
    have hfit : fitsR (wt * ((p + f : Nat) : Rat)) = true := (hdv.mul (Dv.nat x.den (p + f))).fits x.den_pos hx.hd (by omega) (by omega)
    rcases decQ_range l h a b p f with hd | hd | hd
    · exact play_last W s l h a b M p f fp fw x wt hq hk hp hw (by omega) (by omega) hfit hd
    · exact play_stable W s l h a b M p f 0 fp fw x wt hq hk hp hw (by omega) hfit hd
    · exact play_flaky W s l h a b M p f 0 fp fw x wt hq hk hp hw (by omega) hfit hd
  | succ k ih =>
    intro p f hM W fw wt hq hp hw hdv
    have hm := hk.m2
    have hfit : fitsR (wt * ((p + f : Nat) : Rat)) = true := (hdv.mul (Dv.nat x.den (p + f))).fits x.den_pos hx.hd (by omega) (by omega)
    rcases decQ_range l h a b p f with hd | hd | hd
    · refine play_open W s l h a b M p f k fp fw x wt hq hk hp hw (by omega) (by omega) hx hdv hd (fun W fu u h1 h2 h3 h4 => ?_) (fun W fu u h1 h2 h3 h4 => ?_)
      · have := ih p (f + 1) (by omega) W fu u h1 h2 h3 (by rw [← Nat.add_assoc]; exact h4)
        rwa [Int.natCast_add] at this
      · have := ih (p + 1) f (by omega) W fu u h1 h2 h3 (by rw [show p + 1 + f = p + f + 1 by omega]; exact h4)
        rwa [Int.natCast_add] at this
    · exact play_stable W s l h a b M p f (k + 1) fp fw x wt hq hk hp hw (by omega) hfit hd
    · exact play_flaky W s l h a b M p f (k + 1) fp fw x wt hq hk hp hw (by omega) hfit hd
end Go.Proofs.YtnokfhkcfebimaaGreat
