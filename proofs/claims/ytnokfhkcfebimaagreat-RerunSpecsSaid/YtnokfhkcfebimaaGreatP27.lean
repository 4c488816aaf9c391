/- Contracts of the functions that these laws reach: part 27: Contract: the reference's play of sequences. -/
import Derived.Test.YtnokfhkcfebimaaGreatP21
import Derived.Test.YtnokfhkcfebimaaGreatP25
import Derived.Test.YtnokfhkcfebimaaGreatP26
set_option linter.unusedVariables false
set_option linter.unusedSimpArgs false

/- Contract: the reference's play of sequences. -/
namespace Go.Proofs.YtnokfhkcfebimaaGreat
open Go.RowKit

/-- What play returns. -/
def PlV (d : Nat → Nat → Int) (x : Rat) (k p f : Nat) (wt : Rat) (w : World) (e : Ending) (w' : World) : Prop :=
  ∃ f0 f2 f4 fn : Fa, e = .returned (.tuple #[.agg #[.slice f0.A f0.n f0.c, .slice f0.B f0.m f0.d, .slice f2.A f2.n f2.c, .slice f2.B f2.m f2.d, .slice f4.A f4.n f4.c, .slice f4.B f4.m f4.d], .agg #[.slice fn.A fn.n fn.c, .slice fn.B fn.m fn.d]]) ∧
    Fo w' f0 (some (wt * val d x gF k p f)) ∧ Fo w' f2 (some (wt * val d x gS k p f)) ∧ Fo w' f4 (some (wt * val d x gO k p f)) ∧ Fo w' fn (some (wt * val d x gN k p f)) ∧ Below w.heap.size w w'
/-- A box with odds. -/
structure OdC (v : World) (g : Nat) (f0 f2 f4 : Fa) (r0 r2 r4 : Rat) : Prop where
  cb : Cb v g [.slice f0.A f0.n f0.c, .slice f0.B f0.m f0.d, .slice f2.A f2.n f2.c, .slice f2.B f2.m f2.d, .slice f4.A f4.n f4.c, .slice f4.B f4.m f4.d]
  o0 : Fo v f0 (some r0)
  o2 : Fo v f2 (some r2)
  o4 : Fo v f4 (some r4)
section
variable {v v' w : World} {g : Nat} {f0 f2 f4 : Fa} {r0 r2 r4 : Rat}
theorem OdC.below (h : OdC v g f0 f2 f4 r0 r2 r4) (hb : Below v.heap.size v v') : OdC v' g f0 f2 f4 r0 r2 r4 := ⟨h.cb.below hb, h.o0.below hb, h.o2.below hb, h.o4.below hb⟩
theorem OdC.one (h : OdC v g f0 f2 f4 r0 r2 r4) {b : Nat} (hf : Fr v v' (fun x => x = b)) (hn : NB v b) (hg : g ≠ b) : OdC v' g f0 f2 f4 r0 r2 r4 := ⟨h.cb.one hf hg, h.o0.one hf hn, h.o2.one hf hn, h.o4.one hf hn⟩
theorem OdC.mk0 (h0 : Fo w f0 (some r0)) (h2 : Fo w f2 (some r2)) (h4 : Fo w f4 (some r4)) (t : TypeId) : OdC (w.alloc (.cells #[.slice f0.A f0.n f0.c, .slice f0.B f0.m f0.d, .slice f2.A f2.n f2.c, .slice f2.B f2.m f2.d, .slice f4.A f4.n f4.c, .slice f4.B f4.m f4.d] t)) w.heap.size f0 f2 f4 r0 r2 r4 :=
  ⟨Cb.mk0 _ (by simp) _ rfl, h0.alloc _, h2.alloc _, h4.alloc _⟩
end
/-- The boxes of a call of play. -/
structure PY (w0 v : World) (s : Sv) (fp : Fa) (x : Rat) (fw : Fa) (wt : Rat) : Prop where
  f : FS w0 v w0.heap.size s
  p : Bf v (w0.heap.size + 1) fp x
  t : Bf v (w0.heap.size + 2) fw wt
  r : Cb v (w0.heap.size + 3) z6
  n : Rb v (w0.heap.size + 4)
section
variable {w0 v v' : World} {s : Sv} {fp fw : Fa} {x wt : Rat}
theorem PY.below (h : PY w0 v s fp x fw wt) (hb : Below v.heap.size v v') : PY w0 v' s fp x fw wt := ⟨h.f.below hb, h.p.below hb, h.t.below hb, h.r.below hb, h.n.below hb⟩
theorem PY.one (h : PY w0 v s fp x fw wt) {b : Nat} (hf : Fr v v' (fun i => i = b)) (hn : NB v b) (hg : w0.heap.size + 4 < b) : PY w0 v' s fp x fw wt :=
  ⟨⟨((Fr.of_below (fun i => i = b) h.f.bw).trans hf).below (Nat.le_refl _) (fun k hk e => by omega), h.f.cb.one hf (by omega), h.f.q.one hf hn⟩, h.p.one hf hn (by omega), h.t.one hf hn (by omega), h.r.one hf (by omega), (h.n.bq.one hf (by omega)).rb⟩
theorem PY.mk0 (hq : SQ w0 s) (hp : Fo w0 fp (some x)) (ht : Fo w0 fw (some wt)) (t1 t2 t3 t4 t5 : TypeId) :
    PY w0 (((((w0.alloc (.cells #[.slice s.l.A s.l.n s.l.c, .slice s.l.B s.l.m s.l.d, .slice s.h.A s.h.n s.h.c, .slice s.h.B s.h.m s.h.d, .slice s.a.A s.a.n s.a.c, .slice s.a.B s.a.m s.a.d, .slice s.b.A s.b.n s.b.c, .slice s.b.B s.b.m s.b.d, .int .i64 s.m] t1)).alloc (.cells #[.slice fp.A fp.n fp.c, .slice fp.B fp.m fp.d] t2)).alloc (.cells #[.slice fw.A fw.n fw.c, .slice fw.B fw.m fw.d] t3)).alloc (.cells #[.slice none 0 0, .slice none 0 0, .slice none 0 0, .slice none 0 0, .slice none 0 0, .slice none 0 0] t4)).alloc (.cells #[.slice none 0 0, .slice none 0 0] t5)) s fp x fw wt := by
  refine ⟨((((FS.mk0 hq _).alloc _).alloc _).alloc _).alloc _, ⟨(((Bq.mk0 (w := w0.alloc _) _ fp (by simp)).alloc _).alloc _).alloc _, ((((hp.alloc _).alloc _).alloc _).alloc _).alloc _⟩, ⟨((Bq.mk0 (w := (w0.alloc _).alloc _) _ fw (by simp)).alloc _).alloc _, ((((ht.alloc _).alloc _).alloc _).alloc _).alloc _⟩, (Cb.mk0 (w := ((w0.alloc _).alloc _).alloc _) z6 (by simp [z6]) _ (by simp)).alloc _, Rb.mk0 _ (by simp)⟩
end
theorem fr2 {w : World} {g : Nat} (i j : Nat) (a b : Value) : Fr w ((w.setCell ⟨g, i, none⟩ a).setCell ⟨g, j, none⟩ b) (fun x => x = g) := by
  refine Fr.setCell (Fr.setCell (Fr.refl _ _) ?_ _) ?_ _ <;> exact Or.inr (by rfl)
/-- The results are laid down. -/
structure F8 (w0 v5 : World) (f0 f2 f4 fn : Fa) (r0 r2 r4 rn' : Rat) : Prop where
  r : Cb v5 (w0.heap.size + 3) [.slice f0.A f0.n f0.c, .slice f0.B f0.m f0.d, .slice f2.A f2.n f2.c, .slice f2.B f2.m f2.d, .slice f4.A f4.n f4.c, .slice f4.B f4.m f4.d]
  n : Bq v5 (w0.heap.size + 4) fn
  o0 : Fo v5 f0 (some r0)
  o2 : Fo v5 f2 (some r2)
  o4 : Fo v5 f4 (some r4)
  on : Fo v5 fn (some rn')
  bw : Below w0.heap.size w0 v5
theorem F8.mk0 {w0 v : World} {s : Sv} {fp fw : Fa} {x wt : Rat} (h : PY w0 v s fp x fw wt) {f0 f2 f4 fn : Fa} {r0 r2 r4 rn' : Rat} (h0 : Fo v f0 (some r0)) (h2 : Fo v f2 (some r2)) (h4 : Fo v f4 (some r4)) (hn : Fo v fn (some rn')) :
    F8 w0 (((((((((v.setCell ⟨w0.heap.size + 3, 0, none⟩ (.slice f0.A f0.n f0.c)).setCell ⟨w0.heap.size + 3, 1, none⟩ (.slice f0.B f0.m f0.d)).setCell ⟨w0.heap.size + 3, 2, none⟩ (.slice f2.A f2.n f2.c)).setCell ⟨w0.heap.size + 3, 3, none⟩ (.slice f2.B f2.m f2.d)).setCell ⟨w0.heap.size + 3, 4, none⟩ (.slice f4.A f4.n f4.c)).setCell ⟨w0.heap.size + 3, 5, none⟩ (.slice f4.B f4.m f4.d)).setCell ⟨w0.heap.size + 4, 0, none⟩ (.slice fn.A fn.n fn.c)).setCell ⟨w0.heap.size + 4, 1, none⟩ (.slice fn.B fn.m fn.d))) f0 f2 f4 fn r0 r2 r4 rn' := by
  have hf := fr6 (w := v) (g := w0.heap.size + 3) (.slice f0.A f0.n f0.c) (.slice f0.B f0.m f0.d) (.slice f2.A f2.n f2.c) (.slice f2.B f2.m f2.d) (.slice f4.A f4.n f4.c) (.slice f4.B f4.m f4.d)
  have hc := ((((((h.r.put 0 (.slice f0.A f0.n f0.c) (by simp [z6]) (by simp)).put 1 (.slice f0.B f0.m f0.d) (by simp [z6]) (by simp)).put 2 (.slice f2.A f2.n f2.c) (by simp [z6]) (by simp)).put 3 (.slice f2.B f2.m f2.d) (by simp [z6]) (by simp)).put 4 (.slice f4.A f4.n f4.c) (by simp [z6]) (by simp)).put 5 (.slice f4.B f4.m f4.d) (by simp [z6]) (by simp))
  have hb := ((Fr.of_below (fun i => i = w0.heap.size + 3) h.f.bw).trans hf).below (Nat.le_refl _) (fun k hk e => by omega)
  have hn1 := h.n.bq.one hf (by omega)
  have k0 := h0.one hf h.r.nb
  have k2 := h2.one hf h.r.nb
  have k4 := h4.one hf h.r.nb
  have kn := hn.one hf h.r.nb
  generalize (((((v.setCell ⟨w0.heap.size + 3, 0, none⟩ (.slice f0.A f0.n f0.c)).setCell ⟨w0.heap.size + 3, 1, none⟩ (.slice f0.B f0.m f0.d)).setCell ⟨w0.heap.size + 3, 2, none⟩ (.slice f2.A f2.n f2.c)).setCell ⟨w0.heap.size + 3, 3, none⟩ (.slice f2.B f2.m f2.d)).setCell ⟨w0.heap.size + 3, 4, none⟩ (.slice f4.A f4.n f4.c)).setCell ⟨w0.heap.size + 3, 5, none⟩ (.slice f4.B f4.m f4.d) = v2 at hc hb hn1 k0 k2 k4 kn ⊢
  exact ⟨Cb.one (show Cb v2 (w0.heap.size + 3) [.slice f0.A f0.n f0.c, .slice f0.B f0.m f0.d, .slice f2.A f2.n f2.c, .slice f2.B f2.m f2.d, .slice f4.A f4.n f4.c, .slice f4.B f4.m f4.d] from hc) (fr_fill (g := w0.heap.size + 4) (.slice fn.A fn.n fn.c) (.slice fn.B fn.m fn.d)) (by omega), hn1.fill fn, k0.fill hn1 fn, k2.fill hn1 fn, k4.fill hn1 fn, kn.fill hn1 fn, Rb.end0 hb (by omega) _ _⟩
theorem rzof_nat (W : World) (p f : Nat) (h : p + f ≤ 64) : Calls Tryz.prog 48 #[.int .i64 ((p : Int) + (f : Int)), .int .i64 1] W fun e w' => Ret1 W (some ((p + f : Nat) : Rat)) e w' := by
  have := rzof_any W ((p : Int) + (f : Int)) 1 (p + f) 1 (by omega) rfl (by omega) (by omega) (by omega)
  rwa [mk_one] at this

theorem v_dec {d : Nat → Nat → Int} {x wt : Rat} {k p f : Nat} {D : Int} (h : d p f = D) (hD : D ≠ 0) {u v o : Rat} (h1 : ∀ n, gF D n = u) (h2 : ∀ n, gS D n = v) (h3 : ∀ n, gO D n = o) :
    wt * val d x gF k p f = wt * u ∧ wt * val d x gS k p f = wt * v ∧ wt * val d x gO k p f = wt * o ∧ wt * val d x gN k p f = wt * ((p + f : Nat) : Rat) := by
  have hd : d p f ≠ 0 := by rw [h]; exact hD
  rw [val_dec hd, val_dec hd, val_dec hd, val_dec hd, h, h1, h2, h3]
  exact ⟨rfl, rfl, rfl, rfl⟩
set_option maxRecDepth 100000 in
set_option maxHeartbeats 16000000 in
theorem play_flaky (w : World) (s : Sv) (l h a b : Rat) (M p f k : Nat) (fp fw : Fa) (x wt : Rat) (hq : SQ w s) (hk : OKs s l h a b M) (hp : Fo w fp (some x)) (ht : Fo w fw (some wt)) (hpf : p + f ≤ M) (hfit : fitsR (wt * ((p + f : Nat) : Rat)) = true) (hd : decQ l h a b p f = 2) :
    Calls Tryz.prog 47 #[.agg #[.slice s.l.A s.l.n s.l.c, .slice s.l.B s.l.m s.l.d, .slice s.h.A s.h.n s.h.c, .slice s.h.B s.h.m s.h.d, .slice s.a.A s.a.n s.a.c, .slice s.a.B s.a.m s.a.d, .slice s.b.A s.b.n s.b.c, .slice s.b.B s.b.m s.b.d, .int .i64 s.m], .agg #[.slice fp.A fp.n fp.c, .slice fp.B fp.m fp.d], .int .i64 (p : Int), .int .i64 (f : Int), .agg #[.slice fw.A fw.n fw.c, .slice fw.B fw.m fw.d]] w fun e w' => PlV (decQ l h a b) x k p f wt w e w' := by
  have HV := hide (show wt * val (decQ l h a b) x gF k p f = wt ∧ wt * val (decQ l h a b) x gS k p f = 0 ∧ wt * val (decQ l h a b) x gO k p f = 0 ∧ wt * val (decQ l h a b) x gN k p f = wt * ((p + f : Nat) : Rat) by
    have := v_dec (x := x) (wt := wt) (k := k) hd (by decide) (u := 1) (v := 0) (o := 0) (fun _ => rfl) (fun _ => rfl) (fun _ => rfl)
    rwa [Rat.mul_one, Rat.mul_zero] at this)
  have HPF64 := hide (show p + f ≤ 64 by have := hk.m2; omega)
  have hp40 : p ≤ 40 := by have := hk.m2; omega
  have hf40 : f ≤ 40 := by have := hk.m2; omega
  have HK := hide hk
  have HPF := hide hpf
  have HD := hide hd
  have HFIT := hide hfit
  have hw : wrap64 ((p : Int) + (f : Int)) = (p : Int) + (f : Int) := IntWalk.wrap64_in _ ⟨by omega, by omega⟩
  clear hk hpf hd hfit
  go_enter Tryz.func47, Tryz.ntmps47
  go_upto_region 1 with (fail)
  generalize hW : World.alloc (World.alloc (World.alloc (World.alloc (World.alloc w _) _) _) _) _ = v
  have HY0 := hide (show PY w v s fp x fw wt by rw [← hW]; exact PY.mk0 hq hp ht _ _ _ _ _)
  have hvz := HY0.out.n.sz
  clear hW hq hp ht
  go_upto_region 2 with (go_at_call 48; (with_reducible refine (rzof_zero _).mono ?_); rintro e w1 ⟨f12, rfl, ho, hb⟩; have HO12 := hide ho; have HY1 := hide (HY0.out.below hb); have hsz := hb.size; clear ho hb)
  generalize hW : World.alloc w1 _ = v1
  have HY2 := hide (show PY w v1 s fp x fw wt by rw [← hW]; exact HY1.out.below ((Below.refl _ _).alloc (Nat.le_refl _) _))
  have HZ2 := hide (show Bf v1 w1.heap.size f12 0 by rw [← hW]; exact ⟨Bq.mk0 _ f12 rfl, HO12.out.alloc _⟩)
  have h12 : w.heap.size + 4 < w1.heap.size := HY1.out.n.sz
  obtain ⟨b12, hb12⟩ : ∃ b, b = w1.heap.size := ⟨_, rfl⟩
  rw [← hb12] at HZ2 h12 ⊢
  have HFA := hide HY2.out.f
  obtain ⟨a0, a1, a2, a3, a4, a5, a6, a7, a8, a9⟩ := HFA.out.ca
  clear hW hb12 hsz
  go_upto_region 3 with (go_at_call 87; (with_reducible refine (qdecide_ok _ s l h a b M p f HY2.out.f.q HK.out HPF.out).mono ?_); rintro e w2 ⟨rfl, hb⟩; rw [HD.out]; have HY3 := hide (HY2.out.below hb); have HZ3 := hide (HZ2.out.below hb); clear hb)
  clear a0 a1 a2 a3 a4 a5 a6 a7 a8 a9
  go_cut [15] from 15 to 140 (fun s15 wx => ∃ (g : Nat) (c : Fa), s15 = .pointer (some ⟨g, 0, none⟩) ∧ Hid (Bq wx g c) ∧ Hid (Fo wx c (some (wt * ((p + f : Nat) : Rat)))) ∧ Hid (Below w2.heap.size w2 wx) ∧ Hid (w2.heap.size ≤ g))
  case first =>
    apply region_seqo 8 10 [37, 38, 39, 40, 41, 42, 36, 43, 44, 15] [eqV _, eqV _, eqV _, eqV _, (fun x w => ∃ c : Fa, x = .agg #[.slice c.A c.n c.c, .slice c.B c.m c.d] ∧ Fo w c (some ((p + f : Nat) : Rat))), (fun x w => ∃ c : Fa, x = .tuple #[.agg #[.slice c.A c.n c.c, .slice c.B c.m c.d], .int .i64 0] ∧ Fo w c (some (wt * ((p + f : Nat) : Rat)))), (fun x w => ∃ c : Fa, x = .tuple #[.agg #[.slice c.A c.n c.c, .slice c.B c.m c.d], .int .i64 0] ∧ Fo w c (some (wt * ((p + f : Nat) : Rat)))), (fun x w => ∃ c : Fa, x = .agg #[.slice c.A c.n c.c, .slice c.B c.m c.d] ∧ Fo w c (some (wt * ((p + f : Nat) : Rat)))), eqV _, (fun x w => ∃ b : Nat, x = .pointer (some ⟨b, 0, none⟩) ∧ w2.heap.size ≤ b ∧ Bq w b fa0)] [false, false, false, false, false, false, false, false, false, false] (by kernel_rfl) (by decide) (by decide) rfl rfl rfl (by decide) (by kernel_rfl) (by kernel_rfl) rfl ?stb10 ?steps10 ?fina10 ?finb10
    case stb10 => repeat' (first | exact trivial | apply stb_eq | (first | exact fun x w w' ⟨c, h1, h2⟩ hb => ⟨c, h1, h2.below hb⟩ | exact fun x w w' ⟨c, h1, h2, h3⟩ hb => ⟨c, h1, h2, h3.below hb⟩) | apply And.intro)
    case steps10 =>
      repeat' (first | exact trivial | apply And.intro)
      all_goals
        intro a' w' hbw hdf hoff hdep K hK
        (have o2 := hoff 2 rfl; have o3 := hoff 3 rfl; have o9 := hoff 9 rfl)
        (have HG := hide (HY3.out.below hbw); have y0 := HG.out.t.b.c0; have y1 := HG.out.t.b.c1; have hvz2 := hbw.size)
        replace hdep := hdep _ rfl
        simp only [List.getElem_toArray, List.getElem_cons_succ, List.getElem_cons_zero, List.toList_toArray, depAll, binds_data, binds_chain, binds_guard, binds_phase, binds_text, binds_gc, cond_true, cond_false, true_and, getR, eqV, List.getD_cons_succ, List.getD_cons_zero, and_true] at hdep
        simp only [Nat.zero_add, Nat.reduceAdd, getR, eqV, List.getD_cons_succ, List.getD_cons_zero] at hK
        clear hoff hdf
        (first | (obtain ⟨e37, ⟨c1, e41, HO1⟩, hdep⟩ : (_ = _) ∧ (∃ c : Fa, _) ∧ _ := hdep) | (obtain ⟨e37, c1, e41, HO1⟩ : (_ = _) ∧ ∃ c : Fa, _ := hdep) | (obtain ⟨c1, e24, HO1⟩ : ∃ c : Fa, _ := hdep) | skip)
        first
          | (refine rg_unwanted rfl rfl rfl (b' := false) (by first | (simp [hdep]; done) | assumption) (by decide) ?_; exact hK _ _ rfl (Below.refl _ _) (by simp))
          | (refine rg_unwanted rfl rfl rfl (b' := true) (by first | (simp [hdep]; done) | assumption) (by decide) ?_; exact hK _ _ rfl (Below.refl _ _) (by simp))
          | (refine rg_wanted rfl rfl rfl (b' := true) (by first | (simp [hdep]; done) | assumption) rfl (fun K' hKK => ?_); go_wp2_with (first | (go_at_call 88; (with_reducible refine (r2mul_ok _ fw c1 wt _ HG.out.t.o HO1 HFIT.out).mono ?_); rintro e w1 ⟨c, rfl, ho, hb⟩) | (go_at_call 48; (with_reducible refine (rzof_nat _ p f HPF64.out).mono ?_); rintro e w1 ⟨c, rfl, ho, hb⟩)); first | exact hK _ _ rfl (Below.refl _ _) (by simp) | (first | exact hK _ _ ⟨c, rfl, ho⟩ hb (by simp) | exact hK _ _ ⟨c1, rfl, HO1⟩ (Below.refl _ _) (by simp) | exact hK _ _ ⟨_, rfl, hvz2, Bq.mk0 _ fa0 rfl⟩ ((Below.refl _ _).alloc (Nat.le_refl _) _) (by simp)))
          | (refine rg_wanted rfl rfl rfl (b' := false) (by first | (simp [hdep]; done) | assumption) rfl (fun K' hKK => ?_); go_wp2_with (first | (go_at_call 88; (with_reducible refine (r2mul_ok _ fw c1 wt _ HG.out.t.o HO1 HFIT.out).mono ?_); rintro e w1 ⟨c, rfl, ho, hb⟩) | (go_at_call 48; (with_reducible refine (rzof_nat _ p f HPF64.out).mono ?_); rintro e w1 ⟨c, rfl, ho, hb⟩)); first | exact hK _ _ rfl (Below.refl _ _) (by simp) | (first | exact hK _ _ ⟨c, rfl, ho⟩ hb (by simp) | exact hK _ _ ⟨c1, rfl, HO1⟩ (Below.refl _ _) (by simp) | exact hK _ _ ⟨_, rfl, hvz2, Bq.mk0 _ fa0 rfl⟩ ((Below.refl _ _).alloc (Nat.le_refl _) _) (by simp)))
          | (refine rg_free rfl rfl (fun K' hKK => ?_); fail)
          | (refine rg_free rfl rfl (fun K' hKK => ?_); go_wp2_with (first | (go_at_call 88; (with_reducible refine (r2mul_ok _ fw c1 wt _ HG.out.t.o HO1 HFIT.out).mono ?_); rintro e w1 ⟨c, rfl, ho, hb⟩) | (go_at_call 48; (with_reducible refine (rzof_nat _ p f HPF64.out).mono ?_); rintro e w1 ⟨c, rfl, ho, hb⟩)); first | exact hK _ _ rfl (Below.refl _ _) (by simp) | (first | exact hK _ _ ⟨c, rfl, ho⟩ hb (by simp) | exact hK _ _ ⟨c1, rfl, HO1⟩ (Below.refl _ _) (by simp) | exact hK _ _ ⟨_, rfl, hvz2, Bq.mk0 _ fa0 rfl⟩ ((Below.refl _ _).alloc (Nat.le_refl _) _) (by simp)))
    all_goals
      intro w' hbw
      repeat (first | refine fin_eq ?_ | refine fin_any (fun x hx => ?_))
      rename_i x1 h1 x2 h2 x3 h3 x4 h4
      obtain ⟨c5, rfl, -⟩ := h3
      obtain ⟨q, rfl, ho⟩ := h4
      obtain ⟨g, rfl, hg, hq⟩ := hx
      have HO := hide ho
      have HQ := hide hq
      have HBW := hide hbw
      have hrel := hide (show ∃ (g' : Nat) (c' : Fa), Value.pointer (some ⟨g, 0, none⟩) = .pointer (some ⟨g', 0, none⟩) ∧ Hid (Bq ((w'.setCell ⟨g, 0, none⟩ (.slice q.A q.n q.c)).setCell ⟨g, 1, none⟩ (.slice q.B q.m q.d)) g' c') ∧ Hid (Fo ((w'.setCell ⟨g, 0, none⟩ (.slice q.A q.n q.c)).setCell ⟨g, 1, none⟩ (.slice q.B q.m q.d)) c' (some (wt * ((p + f : Nat) : Rat)))) ∧ Hid (Below w2.heap.size w2 ((w'.setCell ⟨g, 0, none⟩ (.slice q.A q.n q.c)).setCell ⟨g, 1, none⟩ (.slice q.B q.m q.d))) ∧ Hid (w2.heap.size ≤ g') from
        ⟨g, q, rfl, hide (HQ.out.fill q), hide (HO.out.fill HQ.out q), hide (Rb.end0 HBW.out hg _ _), hide hg⟩)
      obtain ⟨c0, c1, cf, cz, -⟩ := HQ.out
      clear ho hq hbw
      refine fin_nil ?_
      simp only [List.setIfInBounds_toArray, List.set_cons_succ, List.set_cons_zero]
    · skip
      refine wpAny_one (i := 10) (by kernel_rfl) ?_
      refine rg_free rfl rfl (fun K' hKK => ?_)
      go_wp2_with fail
      refine wpAny_one (i := 11) (by kernel_rfl) ?_
      refine rg_free rfl rfl (fun K' hKK => ?_)
      go_wp2_with fail
      refine wpAny_done (by kernel_rfl) ?_ _
      go_wp2_with fail
      go_meet
      case rel => exact hrel.out
    · skip
      refine wpAny_two (i := 8) (j := 10) (by kernel_rfl) ?_ ?_
      · skip
        refine rg_free rfl rfl (fun K' hKK => ?_)
        go_wp2_with fail
        refine wpAny_one (i := 10) (by kernel_rfl) ?_
        refine rg_free rfl rfl (fun K' hKK => ?_)
        go_wp2_with fail
        refine wpAny_one (i := 11) (by kernel_rfl) ?_
        refine rg_free rfl rfl (fun K' hKK => ?_)
        go_wp2_with fail
        refine wpAny_done (by kernel_rfl) ?_ _
        go_wp2_with fail
        go_meet
        case rel => exact hrel.out
      · skip
        refine rg_free rfl rfl (fun K' hKK => ?_)
        go_wp2_with fail
        refine wpAny_one (i := 8) (by kernel_rfl) ?_
        refine rg_free rfl rfl (fun K' hKK => ?_)
        go_wp2_with fail
        refine wpAny_one (i := 11) (by kernel_rfl) ?_
        refine rg_free rfl rfl (fun K' hKK => ?_)
        go_wp2_with fail
        refine wpAny_done (by kernel_rfl) ?_ _
        go_wp2_with fail
        go_meet
        case rel => exact hrel.out
  obtain ⟨b15, fn, rfl, HQ15, HO15, HB15, HG15⟩ := hcut
  have HY4 := hide (HY3.out.below HB15.out)
  have HZ4 := hide (HZ3.out.below HB15.out)
  have hb15 : w.heap.size + 4 < b15 := Nat.lt_of_lt_of_le HY3.out.n.sz HG15.out
  have n0 := HQ15.out.c0
  have n1 := HQ15.out.c1
  have t0 := HY4.out.t.b.c0
  have t1 := HY4.out.t.b.c1
  have z0 := HZ4.out.b.c0
  have z1 := HZ4.out.b.c1
  have r0 := HY4.out.r.cell 0 _ rfl
  have r1 := HY4.out.r.cell 1 _ rfl
  have r2 := HY4.out.r.cell 2 _ rfl
  have r3 := HY4.out.r.cell 3 _ rfl
  have r4 := HY4.out.r.cell 4 _ rfl
  have r5 := HY4.out.r.cell 5 _ rfl
  have rf := HY4.out.r.fz
  have rz := HY4.out.r.sz
  obtain ⟨q0, q1, qf, qz, -⟩ := HY4.out.n
  go_upto_region 5 with (fail)
  go_region
  go_wp2_with fail
  generalize hW : World.setCell (World.setCell (World.setCell (World.setCell (World.setCell (World.setCell (World.setCell (World.setCell _ _ _) _ _) _ _) _ _) _ _) _ _) _ _) _ _ = v5
  have HF8 := hide (show F8 w v5 fw f12 f12 fn _ _ _ _ by rw [← hW]; exact F8.mk0 HY4.out HY4.out.t.o HZ4.out.o HZ4.out.o HO15.out)
  clear hW n0 n1 t0 t1 z0 z1 r0 r1 r2 r3 r4 r5 rf rz q0 q1 qf qz
  have k0 := HF8.out.r.cell 0 _ rfl
  have k1 := HF8.out.r.cell 1 _ rfl
  have k2 := HF8.out.r.cell 2 _ rfl
  have k3 := HF8.out.r.cell 3 _ rfl
  have k4 := HF8.out.r.cell 4 _ rfl
  have k5 := HF8.out.r.cell 5 _ rfl
  have d0 := HF8.out.n.c0
  have d1 := HF8.out.n.c1
  refine bodyPost_ret (v := .tuple #[.agg #[.slice fw.A fw.n fw.c, .slice fw.B fw.m fw.d, .slice f12.A f12.n f12.c, .slice f12.B f12.m f12.d, .slice f12.A f12.n f12.c, .slice f12.B f12.m f12.d], .agg #[.slice fn.A fn.n fn.c, .slice fn.B fn.m fn.d]]) (by simp [results, Tryz.results47, go_sem, *]) rfl ⟨fw, f12, f12, fn, rfl, by rw [HV.out.1]; exact HF8.out.o0.drew, by rw [HV.out.2.1]; exact HF8.out.o2.drew, by rw [HV.out.2.2.1]; exact HF8.out.o4.drew, by rw [HV.out.2.2.2]; exact HF8.out.on.drew, HF8.out.bw.drew⟩
set_option maxRecDepth 100000 in
set_option maxHeartbeats 16000000 in
theorem play_stable (w : World) (s : Sv) (l h a b : Rat) (M p f k : Nat) (fp fw : Fa) (x wt : Rat) (hq : SQ w s) (hk : OKs s l h a b M) (hp : Fo w fp (some x)) (ht : Fo w fw (some wt)) (hpf : p + f ≤ M) (hfit : fitsR (wt * ((p + f : Nat) : Rat)) = true) (hd : decQ l h a b p f = 1) :
    Calls Tryz.prog 47 #[.agg #[.slice s.l.A s.l.n s.l.c, .slice s.l.B s.l.m s.l.d, .slice s.h.A s.h.n s.h.c, .slice s.h.B s.h.m s.h.d, .slice s.a.A s.a.n s.a.c, .slice s.a.B s.a.m s.a.d, .slice s.b.A s.b.n s.b.c, .slice s.b.B s.b.m s.b.d, .int .i64 s.m], .agg #[.slice fp.A fp.n fp.c, .slice fp.B fp.m fp.d], .int .i64 (p : Int), .int .i64 (f : Int), .agg #[.slice fw.A fw.n fw.c, .slice fw.B fw.m fw.d]] w fun e w' => PlV (decQ l h a b) x k p f wt w e w' := by
  have HV := hide (show wt * val (decQ l h a b) x gF k p f = 0 ∧ wt * val (decQ l h a b) x gS k p f = wt ∧ wt * val (decQ l h a b) x gO k p f = 0 ∧ wt * val (decQ l h a b) x gN k p f = wt * ((p + f : Nat) : Rat) by
    have := v_dec (x := x) (wt := wt) (k := k) hd (by decide) (u := 0) (v := 1) (o := 0) (fun _ => rfl) (fun _ => rfl) (fun _ => rfl)
    rwa [Rat.mul_one, Rat.mul_zero] at this)
  have HPF64 := hide (show p + f ≤ 64 by have := hk.m2; omega)
  have hp40 : p ≤ 40 := by have := hk.m2; omega
  have hf40 : f ≤ 40 := by have := hk.m2; omega
  have HK := hide hk
  have HPF := hide hpf
  have HD := hide hd
  have HFIT := hide hfit
  have hw : wrap64 ((p : Int) + (f : Int)) = (p : Int) + (f : Int) := IntWalk.wrap64_in _ ⟨by omega, by omega⟩
  clear hk hpf hd hfit
  go_enter Tryz.func47, Tryz.ntmps47
  go_upto_region 1 with (fail)
  generalize hW : World.alloc (World.alloc (World.alloc (World.alloc (World.alloc w _) _) _) _) _ = v
  have HY0 := hide (show PY w v s fp x fw wt by rw [← hW]; exact PY.mk0 hq hp ht _ _ _ _ _)
  have hvz := HY0.out.n.sz
  clear hW hq hp ht
  go_upto_region 2 with (go_at_call 48; (with_reducible refine (rzof_zero _).mono ?_); rintro e w1 ⟨f12, rfl, ho, hb⟩; have HO12 := hide ho; have HY1 := hide (HY0.out.below hb); have hsz := hb.size; clear ho hb)
  generalize hW : World.alloc w1 _ = v1
  have HY2 := hide (show PY w v1 s fp x fw wt by rw [← hW]; exact HY1.out.below ((Below.refl _ _).alloc (Nat.le_refl _) _))
  have HZ2 := hide (show Bf v1 w1.heap.size f12 0 by rw [← hW]; exact ⟨Bq.mk0 _ f12 rfl, HO12.out.alloc _⟩)
  have h12 : w.heap.size + 4 < w1.heap.size := HY1.out.n.sz
  obtain ⟨b12, hb12⟩ : ∃ b, b = w1.heap.size := ⟨_, rfl⟩
  rw [← hb12] at HZ2 h12 ⊢
  have HFA := hide HY2.out.f
  obtain ⟨a0, a1, a2, a3, a4, a5, a6, a7, a8, a9⟩ := HFA.out.ca
  clear hW hb12 hsz
  go_upto_region 3 with (go_at_call 87; (with_reducible refine (qdecide_ok _ s l h a b M p f HY2.out.f.q HK.out HPF.out).mono ?_); rintro e w2 ⟨rfl, hb⟩; rw [HD.out]; have HY3 := hide (HY2.out.below hb); have HZ3 := hide (HZ2.out.below hb); clear hb)
  clear a0 a1 a2 a3 a4 a5 a6 a7 a8 a9
  go_cut [15] from 15 to 140 (fun s15 wx => ∃ (g : Nat) (c : Fa), s15 = .pointer (some ⟨g, 0, none⟩) ∧ Hid (Bq wx g c) ∧ Hid (Fo wx c (some (wt * ((p + f : Nat) : Rat)))) ∧ Hid (Below w2.heap.size w2 wx) ∧ Hid (w2.heap.size ≤ g))
  case first =>
    apply region_seqo 8 10 [37, 38, 39, 40, 41, 42, 36, 43, 44, 15] [eqV _, eqV _, eqV _, eqV _, (fun x w => ∃ c : Fa, x = .agg #[.slice c.A c.n c.c, .slice c.B c.m c.d] ∧ Fo w c (some ((p + f : Nat) : Rat))), (fun x w => ∃ c : Fa, x = .tuple #[.agg #[.slice c.A c.n c.c, .slice c.B c.m c.d], .int .i64 0] ∧ Fo w c (some (wt * ((p + f : Nat) : Rat)))), (fun x w => ∃ c : Fa, x = .tuple #[.agg #[.slice c.A c.n c.c, .slice c.B c.m c.d], .int .i64 0] ∧ Fo w c (some (wt * ((p + f : Nat) : Rat)))), (fun x w => ∃ c : Fa, x = .agg #[.slice c.A c.n c.c, .slice c.B c.m c.d] ∧ Fo w c (some (wt * ((p + f : Nat) : Rat)))), eqV _, (fun x w => ∃ b : Nat, x = .pointer (some ⟨b, 0, none⟩) ∧ w2.heap.size ≤ b ∧ Bq w b fa0)] [false, false, false, false, false, false, false, false, false, false] (by kernel_rfl) (by decide) (by decide) rfl rfl rfl (by decide) (by kernel_rfl) (by kernel_rfl) rfl ?stb23 ?steps23 ?fina23 ?finb23
    case stb23 => repeat' (first | exact trivial | apply stb_eq | (first | exact fun x w w' ⟨c, h1, h2⟩ hb => ⟨c, h1, h2.below hb⟩ | exact fun x w w' ⟨c, h1, h2, h3⟩ hb => ⟨c, h1, h2, h3.below hb⟩) | apply And.intro)
    case steps23 =>
      repeat' (first | exact trivial | apply And.intro)
      all_goals
        intro a' w' hbw hdf hoff hdep K hK
        (have o2 := hoff 2 rfl; have o3 := hoff 3 rfl; have o9 := hoff 9 rfl)
        (have HG := hide (HY3.out.below hbw); have y0 := HG.out.t.b.c0; have y1 := HG.out.t.b.c1; have hvz2 := hbw.size)
        replace hdep := hdep _ rfl
        simp only [List.getElem_toArray, List.getElem_cons_succ, List.getElem_cons_zero, List.toList_toArray, depAll, binds_data, binds_chain, binds_guard, binds_phase, binds_text, binds_gc, cond_true, cond_false, true_and, getR, eqV, List.getD_cons_succ, List.getD_cons_zero, and_true] at hdep
        simp only [Nat.zero_add, Nat.reduceAdd, getR, eqV, List.getD_cons_succ, List.getD_cons_zero] at hK
        clear hoff hdf
        (first | (obtain ⟨e37, ⟨c1, e41, HO1⟩, hdep⟩ : (_ = _) ∧ (∃ c : Fa, _) ∧ _ := hdep) | (obtain ⟨e37, c1, e41, HO1⟩ : (_ = _) ∧ ∃ c : Fa, _ := hdep) | (obtain ⟨c1, e24, HO1⟩ : ∃ c : Fa, _ := hdep) | skip)
        first
          | (refine rg_unwanted rfl rfl rfl (b' := false) (by first | (simp [hdep]; done) | assumption) (by decide) ?_; exact hK _ _ rfl (Below.refl _ _) (by simp))
          | (refine rg_unwanted rfl rfl rfl (b' := true) (by first | (simp [hdep]; done) | assumption) (by decide) ?_; exact hK _ _ rfl (Below.refl _ _) (by simp))
          | (refine rg_wanted rfl rfl rfl (b' := true) (by first | (simp [hdep]; done) | assumption) rfl (fun K' hKK => ?_); go_wp2_with (first | (go_at_call 88; (with_reducible refine (r2mul_ok _ fw c1 wt _ HG.out.t.o HO1 HFIT.out).mono ?_); rintro e w1 ⟨c, rfl, ho, hb⟩) | (go_at_call 48; (with_reducible refine (rzof_nat _ p f HPF64.out).mono ?_); rintro e w1 ⟨c, rfl, ho, hb⟩)); first | exact hK _ _ rfl (Below.refl _ _) (by simp) | (first | exact hK _ _ ⟨c, rfl, ho⟩ hb (by simp) | exact hK _ _ ⟨c1, rfl, HO1⟩ (Below.refl _ _) (by simp) | exact hK _ _ ⟨_, rfl, hvz2, Bq.mk0 _ fa0 rfl⟩ ((Below.refl _ _).alloc (Nat.le_refl _) _) (by simp)))
          | (refine rg_wanted rfl rfl rfl (b' := false) (by first | (simp [hdep]; done) | assumption) rfl (fun K' hKK => ?_); go_wp2_with (first | (go_at_call 88; (with_reducible refine (r2mul_ok _ fw c1 wt _ HG.out.t.o HO1 HFIT.out).mono ?_); rintro e w1 ⟨c, rfl, ho, hb⟩) | (go_at_call 48; (with_reducible refine (rzof_nat _ p f HPF64.out).mono ?_); rintro e w1 ⟨c, rfl, ho, hb⟩)); first | exact hK _ _ rfl (Below.refl _ _) (by simp) | (first | exact hK _ _ ⟨c, rfl, ho⟩ hb (by simp) | exact hK _ _ ⟨c1, rfl, HO1⟩ (Below.refl _ _) (by simp) | exact hK _ _ ⟨_, rfl, hvz2, Bq.mk0 _ fa0 rfl⟩ ((Below.refl _ _).alloc (Nat.le_refl _) _) (by simp)))
          | (refine rg_free rfl rfl (fun K' hKK => ?_); fail)
          | (refine rg_free rfl rfl (fun K' hKK => ?_); go_wp2_with (first | (go_at_call 88; (with_reducible refine (r2mul_ok _ fw c1 wt _ HG.out.t.o HO1 HFIT.out).mono ?_); rintro e w1 ⟨c, rfl, ho, hb⟩) | (go_at_call 48; (with_reducible refine (rzof_nat _ p f HPF64.out).mono ?_); rintro e w1 ⟨c, rfl, ho, hb⟩)); first | exact hK _ _ rfl (Below.refl _ _) (by simp) | (first | exact hK _ _ ⟨c, rfl, ho⟩ hb (by simp) | exact hK _ _ ⟨c1, rfl, HO1⟩ (Below.refl _ _) (by simp) | exact hK _ _ ⟨_, rfl, hvz2, Bq.mk0 _ fa0 rfl⟩ ((Below.refl _ _).alloc (Nat.le_refl _) _) (by simp)))
    all_goals
      intro w' hbw
      repeat (first | refine fin_eq ?_ | refine fin_any (fun x hx => ?_))
      rename_i x1 h1 x2 h2 x3 h3 x4 h4
      obtain ⟨c5, rfl, -⟩ := h3
      obtain ⟨q, rfl, ho⟩ := h4
      obtain ⟨g, rfl, hg, hq⟩ := hx
      have HO := hide ho
      have HQ := hide hq
      have HBW := hide hbw
      have hrel := hide (show ∃ (g' : Nat) (c' : Fa), Value.pointer (some ⟨g, 0, none⟩) = .pointer (some ⟨g', 0, none⟩) ∧ Hid (Bq ((w'.setCell ⟨g, 0, none⟩ (.slice q.A q.n q.c)).setCell ⟨g, 1, none⟩ (.slice q.B q.m q.d)) g' c') ∧ Hid (Fo ((w'.setCell ⟨g, 0, none⟩ (.slice q.A q.n q.c)).setCell ⟨g, 1, none⟩ (.slice q.B q.m q.d)) c' (some (wt * ((p + f : Nat) : Rat)))) ∧ Hid (Below w2.heap.size w2 ((w'.setCell ⟨g, 0, none⟩ (.slice q.A q.n q.c)).setCell ⟨g, 1, none⟩ (.slice q.B q.m q.d))) ∧ Hid (w2.heap.size ≤ g') from
        ⟨g, q, rfl, hide (HQ.out.fill q), hide (HO.out.fill HQ.out q), hide (Rb.end0 HBW.out hg _ _), hide hg⟩)
      obtain ⟨c0, c1, cf, cz, -⟩ := HQ.out
      clear ho hq hbw
      refine fin_nil ?_
      simp only [List.setIfInBounds_toArray, List.set_cons_succ, List.set_cons_zero]
    · skip
      refine wpAny_one (i := 10) (by kernel_rfl) ?_
      refine rg_free rfl rfl (fun K' hKK => ?_)
      go_wp2_with fail
      refine wpAny_one (i := 11) (by kernel_rfl) ?_
      refine rg_free rfl rfl (fun K' hKK => ?_)
      go_wp2_with fail
      refine wpAny_done (by kernel_rfl) ?_ _
      go_wp2_with fail
      go_meet
      case rel => exact hrel.out
    · skip
      refine wpAny_two (i := 8) (j := 10) (by kernel_rfl) ?_ ?_
      · skip
        refine rg_free rfl rfl (fun K' hKK => ?_)
        go_wp2_with fail
        refine wpAny_one (i := 10) (by kernel_rfl) ?_
        refine rg_free rfl rfl (fun K' hKK => ?_)
        go_wp2_with fail
        refine wpAny_one (i := 11) (by kernel_rfl) ?_
        refine rg_free rfl rfl (fun K' hKK => ?_)
        go_wp2_with fail
        refine wpAny_done (by kernel_rfl) ?_ _
        go_wp2_with fail
        go_meet
        case rel => exact hrel.out
      · skip
        refine rg_free rfl rfl (fun K' hKK => ?_)
        go_wp2_with fail
        refine wpAny_one (i := 8) (by kernel_rfl) ?_
        refine rg_free rfl rfl (fun K' hKK => ?_)
        go_wp2_with fail
        refine wpAny_one (i := 11) (by kernel_rfl) ?_
        refine rg_free rfl rfl (fun K' hKK => ?_)
        go_wp2_with fail
        refine wpAny_done (by kernel_rfl) ?_ _
        go_wp2_with fail
        go_meet
        case rel => exact hrel.out
  obtain ⟨b15, fn, rfl, HQ15, HO15, HB15, HG15⟩ := hcut
  have HY4 := hide (HY3.out.below HB15.out)
  have HZ4 := hide (HZ3.out.below HB15.out)
  have hb15 : w.heap.size + 4 < b15 := Nat.lt_of_lt_of_le HY3.out.n.sz HG15.out
  have n0 := HQ15.out.c0
  have n1 := HQ15.out.c1
  have t0 := HY4.out.t.b.c0
  have t1 := HY4.out.t.b.c1
  have z0 := HZ4.out.b.c0
  have z1 := HZ4.out.b.c1
  have r0 := HY4.out.r.cell 0 _ rfl
  have r1 := HY4.out.r.cell 1 _ rfl
  have r2 := HY4.out.r.cell 2 _ rfl
  have r3 := HY4.out.r.cell 3 _ rfl
  have r4 := HY4.out.r.cell 4 _ rfl
  have r5 := HY4.out.r.cell 5 _ rfl
  have rf := HY4.out.r.fz
  have rz := HY4.out.r.sz
  obtain ⟨q0, q1, qf, qz, -⟩ := HY4.out.n
  go_upto_region 7 with (fail)
  go_region
  go_wp2_with fail
  generalize hW : World.setCell (World.setCell (World.setCell (World.setCell (World.setCell (World.setCell (World.setCell (World.setCell _ _ _) _ _) _ _) _ _) _ _) _ _) _ _) _ _ = v5
  have HF8 := hide (show F8 w v5 f12 fw f12 fn _ _ _ _ by rw [← hW]; exact F8.mk0 HY4.out HZ4.out.o HY4.out.t.o HZ4.out.o HO15.out)
  clear hW n0 n1 t0 t1 z0 z1 r0 r1 r2 r3 r4 r5 rf rz q0 q1 qf qz
  have k0 := HF8.out.r.cell 0 _ rfl
  have k1 := HF8.out.r.cell 1 _ rfl
  have k2 := HF8.out.r.cell 2 _ rfl
  have k3 := HF8.out.r.cell 3 _ rfl
  have k4 := HF8.out.r.cell 4 _ rfl
  have k5 := HF8.out.r.cell 5 _ rfl
  have d0 := HF8.out.n.c0
  have d1 := HF8.out.n.c1
  refine bodyPost_ret (v := .tuple #[.agg #[.slice f12.A f12.n f12.c, .slice f12.B f12.m f12.d, .slice fw.A fw.n fw.c, .slice fw.B fw.m fw.d, .slice f12.A f12.n f12.c, .slice f12.B f12.m f12.d], .agg #[.slice fn.A fn.n fn.c, .slice fn.B fn.m fn.d]]) (by simp [results, Tryz.results47, go_sem, *]) rfl ⟨f12, fw, f12, fn, rfl, by rw [HV.out.1]; exact HF8.out.o0.drew, by rw [HV.out.2.1]; exact HF8.out.o2.drew, by rw [HV.out.2.2.1]; exact HF8.out.o4.drew, by rw [HV.out.2.2.2]; exact HF8.out.on.drew, HF8.out.bw.drew⟩
set_option maxRecDepth 100000 in
set_option maxHeartbeats 16000000 in
theorem play_last (w : World) (s : Sv) (l h a b : Rat) (M p f : Nat) (fp fw : Fa) (x wt : Rat) (hq : SQ w s) (hk : OKs s l h a b M) (hp : Fo w fp (some x)) (ht : Fo w fw (some wt)) (hpf : p + f ≤ M) (hpm : p + f = M) (hfit : fitsR (wt * ((p + f : Nat) : Rat)) = true) (hd : decQ l h a b p f = 0) :
    Calls Tryz.prog 47 #[.agg #[.slice s.l.A s.l.n s.l.c, .slice s.l.B s.l.m s.l.d, .slice s.h.A s.h.n s.h.c, .slice s.h.B s.h.m s.h.d, .slice s.a.A s.a.n s.a.c, .slice s.a.B s.a.m s.a.d, .slice s.b.A s.b.n s.b.c, .slice s.b.B s.b.m s.b.d, .int .i64 s.m], .agg #[.slice fp.A fp.n fp.c, .slice fp.B fp.m fp.d], .int .i64 (p : Int), .int .i64 (f : Int), .agg #[.slice fw.A fw.n fw.c, .slice fw.B fw.m fw.d]] w fun e w' => PlV (decQ l h a b) x 0 p f wt w e w' := by
  have HV := hide (show wt * val (decQ l h a b) x gF 0 p f = 0 ∧ wt * val (decQ l h a b) x gS 0 p f = 0 ∧ wt * val (decQ l h a b) x gO 0 p f = wt ∧ wt * val (decQ l h a b) x gN 0 p f = wt * ((p + f : Nat) : Rat) by
    rw [val_zero, val_zero, val_zero, val_zero, hd]
    exact ⟨Rat.mul_zero _, Rat.mul_zero _, Rat.mul_one _, rfl⟩)
  have HPF64 := hide (show p + f ≤ 64 by have := hk.m2; omega)
  have hp40 : p ≤ 40 := by have := hk.m2; omega
  have hf40 : f ≤ 40 := by have := hk.m2; omega
  have HK := hide hk
  have HPF := hide hpf
  have HD := hide hd
  have HFIT := hide hfit
  have e1 : (p : Int) + (f : Int) = s.m := by have := HK.out.m; omega
  have e2 : ((p : Int) + (f : Int) == s.m) = true := by rw [e1]; simp
  have e3 : decide ((p : Int) + (f : Int) = s.m) = true := decide_eq_true e1
  have HE := hide (And.intro e1 (And.intro e2 e3))
  clear e1 e2 e3 hpm
  have hw : wrap64 ((p : Int) + (f : Int)) = (p : Int) + (f : Int) := IntWalk.wrap64_in _ ⟨by omega, by omega⟩
  clear hk hpf hd hfit
  go_enter Tryz.func47, Tryz.ntmps47
  go_upto_region 1 with (fail)
  generalize hW : World.alloc (World.alloc (World.alloc (World.alloc (World.alloc w _) _) _) _) _ = v
  have HY0 := hide (show PY w v s fp x fw wt by rw [← hW]; exact PY.mk0 hq hp ht _ _ _ _ _)
  have hvz := HY0.out.n.sz
  clear hW hq hp ht
  go_upto_region 2 with (go_at_call 48; (with_reducible refine (rzof_zero _).mono ?_); rintro e w1 ⟨f12, rfl, ho, hb⟩; have HO12 := hide ho; have HY1 := hide (HY0.out.below hb); have hsz := hb.size; clear ho hb)
  generalize hW : World.alloc w1 _ = v1
  have HY2 := hide (show PY w v1 s fp x fw wt by rw [← hW]; exact HY1.out.below ((Below.refl _ _).alloc (Nat.le_refl _) _))
  have HZ2 := hide (show Bf v1 w1.heap.size f12 0 by rw [← hW]; exact ⟨Bq.mk0 _ f12 rfl, HO12.out.alloc _⟩)
  have h12 : w.heap.size + 4 < w1.heap.size := HY1.out.n.sz
  obtain ⟨b12, hb12⟩ : ∃ b, b = w1.heap.size := ⟨_, rfl⟩
  rw [← hb12] at HZ2 h12 ⊢
  have HFA := hide HY2.out.f
  obtain ⟨a0, a1, a2, a3, a4, a5, a6, a7, a8, a9⟩ := HFA.out.ca
  clear hW hb12 hsz
  go_upto_region 3 with (go_at_call 87; (with_reducible refine (qdecide_ok _ s l h a b M p f HY2.out.f.q HK.out HPF.out).mono ?_); rintro e w2 ⟨rfl, hb⟩; rw [HD.out]; have HY3 := hide (HY2.out.below hb); have HZ3 := hide (HZ2.out.below hb); clear hb)
  clear a0 a1 a2 a3 a4 a5 a6 a7 a8 a9
  go_cut [15] from 15 to 140 (fun s15 wx => ∃ (g : Nat) (c : Fa), s15 = .pointer (some ⟨g, 0, none⟩) ∧ Hid (Bq wx g c) ∧ Hid (Fo wx c (some (wt * ((p + f : Nat) : Rat)))) ∧ Hid (Below w2.heap.size w2 wx) ∧ Hid (w2.heap.size ≤ g))
  case first =>
    apply region_seqo 8 10 [37, 38, 39, 40, 41, 42, 36, 43, 44, 15] [eqV _, eqV _, eqV _, eqV _, (fun x w => ∃ c : Fa, x = .agg #[.slice c.A c.n c.c, .slice c.B c.m c.d] ∧ Fo w c (some ((p + f : Nat) : Rat))), (fun x w => ∃ c : Fa, x = .tuple #[.agg #[.slice c.A c.n c.c, .slice c.B c.m c.d], .int .i64 0] ∧ Fo w c (some (wt * ((p + f : Nat) : Rat)))), (fun x w => ∃ c : Fa, x = .tuple #[.agg #[.slice c.A c.n c.c, .slice c.B c.m c.d], .int .i64 0] ∧ Fo w c (some (wt * ((p + f : Nat) : Rat)))), (fun x w => ∃ c : Fa, x = .agg #[.slice c.A c.n c.c, .slice c.B c.m c.d] ∧ Fo w c (some (wt * ((p + f : Nat) : Rat)))), eqV _, (fun x w => ∃ b : Nat, x = .pointer (some ⟨b, 0, none⟩) ∧ w2.heap.size ≤ b ∧ Bq w b fa0)] [false, false, false, false, false, false, false, false, false, false] (by kernel_rfl) (by decide) (by decide) rfl rfl rfl (by decide) (by kernel_rfl) (by kernel_rfl) rfl ?stb36 ?steps36 ?fina36 ?finb36
    case stb36 => repeat' (first | exact trivial | apply stb_eq | (first | exact fun x w w' ⟨c, h1, h2⟩ hb => ⟨c, h1, h2.below hb⟩ | exact fun x w w' ⟨c, h1, h2, h3⟩ hb => ⟨c, h1, h2, h3.below hb⟩) | apply And.intro)
    case steps36 =>
      repeat' (first | exact trivial | apply And.intro)
      all_goals
        intro a' w' hbw hdf hoff hdep K hK
        (have o2 := hoff 2 rfl; have o3 := hoff 3 rfl; have o9 := hoff 9 rfl)
        (have HG := hide (HY3.out.below hbw); have y0 := HG.out.t.b.c0; have y1 := HG.out.t.b.c1; have hvz2 := hbw.size)
        replace hdep := hdep _ rfl
        simp only [List.getElem_toArray, List.getElem_cons_succ, List.getElem_cons_zero, List.toList_toArray, depAll, binds_data, binds_chain, binds_guard, binds_phase, binds_text, binds_gc, cond_true, cond_false, true_and, getR, eqV, List.getD_cons_succ, List.getD_cons_zero, and_true] at hdep
        simp only [Nat.zero_add, Nat.reduceAdd, getR, eqV, List.getD_cons_succ, List.getD_cons_zero] at hK
        clear hoff hdf
        (first | (obtain ⟨e37, ⟨c1, e41, HO1⟩, hdep⟩ : (_ = _) ∧ (∃ c : Fa, _) ∧ _ := hdep) | (obtain ⟨e37, c1, e41, HO1⟩ : (_ = _) ∧ ∃ c : Fa, _ := hdep) | (obtain ⟨c1, e24, HO1⟩ : ∃ c : Fa, _ := hdep) | skip)
        first
          | (refine rg_unwanted rfl rfl rfl (b' := false) (by first | (simp [hdep]; done) | assumption) (by decide) ?_; exact hK _ _ rfl (Below.refl _ _) (by simp))
          | (refine rg_unwanted rfl rfl rfl (b' := true) (by first | (simp [hdep]; done) | assumption) (by decide) ?_; exact hK _ _ rfl (Below.refl _ _) (by simp))
          | (refine rg_wanted rfl rfl rfl (b' := true) (by first | (simp [hdep]; done) | assumption) rfl (fun K' hKK => ?_); go_wp2_with (first | (go_at_call 88; (with_reducible refine (r2mul_ok _ fw c1 wt _ HG.out.t.o HO1 HFIT.out).mono ?_); rintro e w1 ⟨c, rfl, ho, hb⟩) | (go_at_call 48; (with_reducible refine (rzof_nat _ p f HPF64.out).mono ?_); rintro e w1 ⟨c, rfl, ho, hb⟩)); first | exact hK _ _ rfl (Below.refl _ _) (by simp) | (first | exact hK _ _ ⟨c, rfl, ho⟩ hb (by simp) | exact hK _ _ ⟨c1, rfl, HO1⟩ (Below.refl _ _) (by simp) | exact hK _ _ ⟨_, rfl, hvz2, Bq.mk0 _ fa0 rfl⟩ ((Below.refl _ _).alloc (Nat.le_refl _) _) (by simp)))
          | (refine rg_wanted rfl rfl rfl (b' := false) (by first | (simp [hdep]; done) | assumption) rfl (fun K' hKK => ?_); go_wp2_with (first | (go_at_call 88; (with_reducible refine (r2mul_ok _ fw c1 wt _ HG.out.t.o HO1 HFIT.out).mono ?_); rintro e w1 ⟨c, rfl, ho, hb⟩) | (go_at_call 48; (with_reducible refine (rzof_nat _ p f HPF64.out).mono ?_); rintro e w1 ⟨c, rfl, ho, hb⟩)); first | exact hK _ _ rfl (Below.refl _ _) (by simp) | (first | exact hK _ _ ⟨c, rfl, ho⟩ hb (by simp) | exact hK _ _ ⟨c1, rfl, HO1⟩ (Below.refl _ _) (by simp) | exact hK _ _ ⟨_, rfl, hvz2, Bq.mk0 _ fa0 rfl⟩ ((Below.refl _ _).alloc (Nat.le_refl _) _) (by simp)))
          | (refine rg_free rfl rfl (fun K' hKK => ?_); fail)
          | (refine rg_free rfl rfl (fun K' hKK => ?_); go_wp2_with (first | (go_at_call 88; (with_reducible refine (r2mul_ok _ fw c1 wt _ HG.out.t.o HO1 HFIT.out).mono ?_); rintro e w1 ⟨c, rfl, ho, hb⟩) | (go_at_call 48; (with_reducible refine (rzof_nat _ p f HPF64.out).mono ?_); rintro e w1 ⟨c, rfl, ho, hb⟩)); first | exact hK _ _ rfl (Below.refl _ _) (by simp) | (first | exact hK _ _ ⟨c, rfl, ho⟩ hb (by simp) | exact hK _ _ ⟨c1, rfl, HO1⟩ (Below.refl _ _) (by simp) | exact hK _ _ ⟨_, rfl, hvz2, Bq.mk0 _ fa0 rfl⟩ ((Below.refl _ _).alloc (Nat.le_refl _) _) (by simp)))
    all_goals
      intro w' hbw
      repeat (first | refine fin_eq ?_ | refine fin_any (fun x hx => ?_))
      rename_i x1 h1 x2 h2 x3 h3 x4 h4
      obtain ⟨c5, rfl, -⟩ := h3
      obtain ⟨q, rfl, ho⟩ := h4
      obtain ⟨g, rfl, hg, hq⟩ := hx
      have HO := hide ho
      have HQ := hide hq
      have HBW := hide hbw
      have hrel := hide (show ∃ (g' : Nat) (c' : Fa), Value.pointer (some ⟨g, 0, none⟩) = .pointer (some ⟨g', 0, none⟩) ∧ Hid (Bq ((w'.setCell ⟨g, 0, none⟩ (.slice q.A q.n q.c)).setCell ⟨g, 1, none⟩ (.slice q.B q.m q.d)) g' c') ∧ Hid (Fo ((w'.setCell ⟨g, 0, none⟩ (.slice q.A q.n q.c)).setCell ⟨g, 1, none⟩ (.slice q.B q.m q.d)) c' (some (wt * ((p + f : Nat) : Rat)))) ∧ Hid (Below w2.heap.size w2 ((w'.setCell ⟨g, 0, none⟩ (.slice q.A q.n q.c)).setCell ⟨g, 1, none⟩ (.slice q.B q.m q.d))) ∧ Hid (w2.heap.size ≤ g') from
        ⟨g, q, rfl, hide (HQ.out.fill q), hide (HO.out.fill HQ.out q), hide (Rb.end0 HBW.out hg _ _), hide hg⟩)
      obtain ⟨c0, c1, cf, cz, -⟩ := HQ.out
      clear ho hq hbw
      refine fin_nil ?_
      simp only [List.setIfInBounds_toArray, List.set_cons_succ, List.set_cons_zero]
    · skip
      refine wpAny_one (i := 10) (by kernel_rfl) ?_
      refine rg_free rfl rfl (fun K' hKK => ?_)
      go_wp2_with fail
      refine wpAny_one (i := 11) (by kernel_rfl) ?_
      refine rg_free rfl rfl (fun K' hKK => ?_)
      go_wp2_with fail
      refine wpAny_done (by kernel_rfl) ?_ _
      go_wp2_with fail
      go_meet
      case rel => exact hrel.out
    · skip
      refine wpAny_two (i := 8) (j := 10) (by kernel_rfl) ?_ ?_
      · skip
        refine rg_free rfl rfl (fun K' hKK => ?_)
        go_wp2_with fail
        refine wpAny_one (i := 10) (by kernel_rfl) ?_
        refine rg_free rfl rfl (fun K' hKK => ?_)
        go_wp2_with fail
        refine wpAny_one (i := 11) (by kernel_rfl) ?_
        refine rg_free rfl rfl (fun K' hKK => ?_)
        go_wp2_with fail
        refine wpAny_done (by kernel_rfl) ?_ _
        go_wp2_with fail
        go_meet
        case rel => exact hrel.out
      · skip
        refine rg_free rfl rfl (fun K' hKK => ?_)
        go_wp2_with fail
        refine wpAny_one (i := 8) (by kernel_rfl) ?_
        refine rg_free rfl rfl (fun K' hKK => ?_)
        go_wp2_with fail
        refine wpAny_one (i := 11) (by kernel_rfl) ?_
        refine rg_free rfl rfl (fun K' hKK => ?_)
        go_wp2_with fail
        refine wpAny_done (by kernel_rfl) ?_ _
        go_wp2_with fail
        go_meet
        case rel => exact hrel.out
  obtain ⟨b15, fn, rfl, HQ15, HO15, HB15, HG15⟩ := hcut
  have HY4 := hide (HY3.out.below HB15.out)
  have HZ4 := hide (HZ3.out.below HB15.out)
  have hb15 : w.heap.size + 4 < b15 := Nat.lt_of_lt_of_le HY3.out.n.sz HG15.out
  obtain ⟨e1, e2, e3⟩ := HE.out
  have m8 := HY4.out.f.cb.cell 8 _ rfl
  have m9 := HY4.out.f.cb.sz
  have n0 := HQ15.out.c0
  have n1 := HQ15.out.c1
  have t0 := HY4.out.t.b.c0
  have t1 := HY4.out.t.b.c1
  have z0 := HZ4.out.b.c0
  have z1 := HZ4.out.b.c1
  have r0 := HY4.out.r.cell 0 _ rfl
  have r1 := HY4.out.r.cell 1 _ rfl
  have r2 := HY4.out.r.cell 2 _ rfl
  have r3 := HY4.out.r.cell 3 _ rfl
  have r4 := HY4.out.r.cell 4 _ rfl
  have r5 := HY4.out.r.cell 5 _ rfl
  have rf := HY4.out.r.fz
  have rz := HY4.out.r.sz
  obtain ⟨q0, q1, qf, qz, -⟩ := HY4.out.n
  go_upto_region 9 with (fail)
  go_region
  go_wp2_with fail
  generalize hW : World.setCell (World.setCell (World.setCell (World.setCell (World.setCell (World.setCell (World.setCell (World.setCell _ _ _) _ _) _ _) _ _) _ _) _ _) _ _) _ _ = v5
  have HF8 := hide (show F8 w v5 f12 f12 fw fn _ _ _ _ by rw [← hW]; exact F8.mk0 HY4.out HZ4.out.o HZ4.out.o HY4.out.t.o HO15.out)
  clear hW n0 n1 t0 t1 z0 z1 r0 r1 r2 r3 r4 r5 rf rz q0 q1 qf qz
  have k0 := HF8.out.r.cell 0 _ rfl
  have k1 := HF8.out.r.cell 1 _ rfl
  have k2 := HF8.out.r.cell 2 _ rfl
  have k3 := HF8.out.r.cell 3 _ rfl
  have k4 := HF8.out.r.cell 4 _ rfl
  have k5 := HF8.out.r.cell 5 _ rfl
  have d0 := HF8.out.n.c0
  have d1 := HF8.out.n.c1
  refine bodyPost_ret (v := .tuple #[.agg #[.slice f12.A f12.n f12.c, .slice f12.B f12.m f12.d, .slice f12.A f12.n f12.c, .slice f12.B f12.m f12.d, .slice fw.A fw.n fw.c, .slice fw.B fw.m fw.d], .agg #[.slice fn.A fn.n fn.c, .slice fn.B fn.m fn.d]]) (by simp [results, Tryz.results47, go_sem, *]) rfl ⟨f12, f12, fw, fn, rfl, by rw [HV.out.1]; exact HF8.out.o0.drew, by rw [HV.out.2.1]; exact HF8.out.o2.drew, by rw [HV.out.2.2.1]; exact HF8.out.o4.drew, by rw [HV.out.2.2.2]; exact HF8.out.on.drew, HF8.out.bw.drew⟩
end Go.Proofs.YtnokfhkcfebimaaGreat
