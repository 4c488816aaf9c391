/- The walk of the law SequentialErrors. -/
import Derived.Test.YtnokfhkcfebimaaGreatG34
import Derived.Test.YtnokfhkcfebimaaGreatG23
import Derived.Test.YtnokfhkcfebimaaGreatG29
import Derived.Test.YtnokfhkcfebimaaGreatG30
set_option linter.unusedVariables false
set_option linter.unusedSimpArgs false

/- The walk of the law SequentialErrors. -/
namespace Go.Proofs.YtnokfhkcfebimaaGreat
open Go.RowKit

set_option maxRecDepth 100000 in
set_option maxHeartbeats 8000000 in
theorem sameodds_eq (w : World) (x0 x2 x4 y0 y2 y4 : Fa) (o0 o2 o4 : Option Rat) (h0 : Fo w x0 o0) (h2 : Fo w x2 o2) (h4 : Fo w x4 o4) (k0 : Fo w y0 o0) (k2 : Fo w y2 o2) (k4 : Fo w y4 o4) :
    Calls Tryz.prog 15 #[.agg #[.slice x0.A x0.n x0.c, .slice x0.B x0.m x0.d, .slice x2.A x2.n x2.c, .slice x2.B x2.m x2.d, .slice x4.A x4.n x4.c, .slice x4.B x4.m x4.d], .agg #[.slice y0.A y0.n y0.c, .slice y0.B y0.m y0.d, .slice y2.A y2.n y2.c, .slice y2.B y2.m y2.d, .slice y4.A y4.n y4.c, .slice y4.B y4.m y4.d]] w fun e w' => e = .returned (.bool true) ∧ Below w.heap.size w w' := by
  have H0 := hide (And.intro h0 k0)
  have H2 := hide (And.intro h2 k2)
  have H4 := hide (And.intro h4 k4)
  clear h0 h2 h4 k0 k2 k4
  go_enter Tryz.func15, Tryz.ntmps15
  go_upto_region 1 with (fail)
  generalize hW : World.alloc (World.alloc w _) _ = v
  have HV := hide (show Below w.heap.size w v by rw [← hW]; exact ((Below.refl _ _).alloc (Nat.le_refl _) _).alloc (by simp) _)
  have HX := hide (show Cb v w.heap.size [.slice x0.A x0.n x0.c, .slice x0.B x0.m x0.d, .slice x2.A x2.n x2.c, .slice x2.B x2.m x2.d, .slice x4.A x4.n x4.c, .slice x4.B x4.m x4.d] by rw [← hW]; exact (Cb.mk0 [.slice x0.A x0.n x0.c, .slice x0.B x0.m x0.d, .slice x2.A x2.n x2.c, .slice x2.B x2.m x2.d, .slice x4.A x4.n x4.c, .slice x4.B x4.m x4.d] (by simp) _ rfl).below ((Below.refl _ _).alloc (Nat.le_refl _) _))
  have HY := hide (show Cb v (w.heap.size + 1) [.slice y0.A y0.n y0.c, .slice y0.B y0.m y0.d, .slice y2.A y2.n y2.c, .slice y2.B y2.m y2.d, .slice y4.A y4.n y4.c, .slice y4.B y4.m y4.d] by rw [← hW]; exact Cb.mk0 [.slice y0.A y0.n y0.c, .slice y0.B y0.m y0.d, .slice y2.A y2.n y2.c, .slice y2.B y2.m y2.d, .slice y4.A y4.n y4.c, .slice y4.B y4.m y4.d] (by simp) _ (by simp))
  clear hW
  have a0 := HX.out.cell 0 _ rfl
  have a1 := HX.out.cell 1 _ rfl
  have b0 := HY.out.cell 0 _ rfl
  have b1 := HY.out.cell 1 _ rfl
  go_wp2_with (first
    | (go_at_call 16; (with_reducible refine (samefrac_eq _ x4 y4 _ (H4.out.1.below HV2.out) (H4.out.2.below HV2.out)).mono ?_); rintro e w3 ⟨rfl, hb⟩; have HV3 := hide (HV2.out.trans (hb.mono HV2.out.size)); clear hb)
    | (go_at_call 16; (with_reducible refine (samefrac_eq _ x2 y2 _ (H2.out.1.below HV1.out) (H2.out.2.below HV1.out)).mono ?_); rintro e w2 ⟨rfl, hb⟩; have HV2 := hide (HV1.out.trans (hb.mono HV1.out.size)); have HX2 := hide (HX1.out.below hb); have HY2 := hide (HY1.out.below hb); have e4 := HX2.out.cell 4 _ rfl; have e5 := HX2.out.cell 5 _ rfl; have f4 := HY2.out.cell 4 _ rfl; have f5 := HY2.out.cell 5 _ rfl; clear hb)
    | (go_at_call 16; (with_reducible refine (samefrac_eq _ x0 y0 _ (H0.out.1.below HV.out) (H0.out.2.below HV.out)).mono ?_); rintro e w1 ⟨rfl, hb⟩; have HV1 := hide (HV.out.trans (hb.mono HV.out.size)); have HX1 := hide (HX.out.below hb); have HY1 := hide (HY.out.below hb); have c2 := HX1.out.cell 2 _ rfl; have c3 := HX1.out.cell 3 _ rfl; have d2 := HY1.out.cell 2 _ rfl; have d3 := HY1.out.cell 3 _ rfl; clear hb))
  go_ret
  exact ⟨rfl, HV3.out⟩
/-- Program and reference say the same of every chance. -/
theorem errs_both {s : Sv} (q : Fa) (lq kq : List Nat) : ∃ (o0 o2 o4 oN : Option Rat) (E : Int), (∀ W, SQ W s → Fq W q lq kq → Calls Tryz.prog 11 #[.agg #[.slice s.l.A s.l.n s.l.c, .slice s.l.B s.l.m s.l.d, .slice s.h.A s.h.n s.h.c, .slice s.h.B s.h.m s.h.d, .slice s.a.A s.a.n s.a.c, .slice s.a.B s.a.m s.a.d, .slice s.b.A s.b.n s.b.c, .slice s.b.B s.b.m s.b.d, .int .i64 s.m], .agg #[.slice q.A q.n q.c, .slice q.B q.m q.d]] W fun e w' => ∃ f0 f2 f4 : Fa, e = .returned (.tuple #[.agg #[.slice f0.A f0.n f0.c, .slice f0.B f0.m f0.d, .slice f2.A f2.n f2.c, .slice f2.B f2.m f2.d, .slice f4.A f4.n f4.c, .slice f4.B f4.m f4.d], .int .i64 E]) ∧ Fo w' f0 o0 ∧ Fo w' f2 o2 ∧ Fo w' f4 o4 ∧ Below W.heap.size W w') ∧ (∀ W, SQ W s → Fq W q lq kq → Calls Tryz.prog 12 #[.agg #[.slice s.l.A s.l.n s.l.c, .slice s.l.B s.l.m s.l.d, .slice s.h.A s.h.n s.h.c, .slice s.h.B s.h.m s.h.d, .slice s.a.A s.a.n s.a.c, .slice s.a.B s.a.m s.a.d, .slice s.b.A s.b.n s.b.c, .slice s.b.B s.b.m s.b.d, .int .i64 s.m], .agg #[.slice q.A q.n q.c, .slice q.B q.m q.d]] W fun e w' => ∃ f0 f2 f4 : Fa, e = .returned (.tuple #[.agg #[.slice f0.A f0.n f0.c, .slice f0.B f0.m f0.d, .slice f2.A f2.n f2.c, .slice f2.B f2.m f2.d, .slice f4.A f4.n f4.c, .slice f4.B f4.m f4.d], .int .i64 E]) ∧ Fo w' f0 o0 ∧ Fo w' f2 o2 ∧ Fo w' f4 o4 ∧ Below W.heap.size W w') ∧ (∀ W, SQ W s → Fq W q lq kq → Calls Tryz.prog 13 #[.agg #[.slice s.l.A s.l.n s.l.c, .slice s.l.B s.l.m s.l.d, .slice s.h.A s.h.n s.h.c, .slice s.h.B s.h.m s.h.d, .slice s.a.A s.a.n s.a.c, .slice s.a.B s.a.m s.a.d, .slice s.b.A s.b.n s.b.c, .slice s.b.B s.b.m s.b.d, .int .i64 s.m], .agg #[.slice q.A q.n q.c, .slice q.B q.m q.d]] W fun e w' => ∃ c : Fa, e = .returned (.tuple #[.agg #[.slice c.A c.n c.c, .slice c.B c.m c.d], .int .i64 E]) ∧ Fo w' c oN ∧ Below W.heap.size W w') ∧ (∀ W, SQ W s → Fq W q lq kq → Calls Tryz.prog 14 #[.agg #[.slice s.l.A s.l.n s.l.c, .slice s.l.B s.l.m s.l.d, .slice s.h.A s.h.n s.h.c, .slice s.h.B s.h.m s.h.d, .slice s.a.A s.a.n s.a.c, .slice s.a.B s.a.m s.a.d, .slice s.b.A s.b.n s.b.c, .slice s.b.B s.b.m s.b.d, .int .i64 s.m], .agg #[.slice q.A q.n q.c, .slice q.B q.m q.d]] W fun e w' => ∃ c : Fa, e = .returned (.tuple #[.agg #[.slice c.A c.n c.c, .slice c.B c.m c.d], .int .i64 E]) ∧ Fo w' c oN ∧ Below W.heap.size W w') := by
  by_cases hbad : s.ok = false ∨ chO (fracOf lq kq) = false
  · refine ⟨none, none, none, none, errE s (fracOf lq kq), fun W h1 h2 => ?_, fun W h1 h2 => ?_, fun W h1 h2 => ?_, fun W h1 h2 => ?_⟩
    · exact (serrors_bad W s q lq kq h1 h2 hbad).mono fun e w' h => ⟨fa0, fa0, fa0, h.1, Fo.nil _, Fo.nil _, Fo.nil _, h.2⟩
    · exact (qerrors_bad W s q lq kq h1 h2 hbad).mono fun e w' h => ⟨fa0, fa0, fa0, h.1, Fo.nil _, Fo.nil _, Fo.nil _, h.2⟩
    · exact (sexpected_bad W s q lq kq h1 h2 hbad).mono fun e w' h => ⟨fa0, h.1, Fo.nil _, h.2⟩
    · exact (qexpected_bad W s q lq kq h1 h2 hbad).mono fun e w' h => ⟨fa0, h.1, Fo.nil _, h.2⟩
  · have hs : s.ok = true := by cases h : s.ok with | true => rfl | false => exact absurd (.inl h) hbad
    have hc : chO (fracOf lq kq) = true := by cases h : chO (fracOf lq kq) with | true => rfl | false => exact absurd (.inr h) hbad
    obtain ⟨lo, h, a, b, M, hk⟩ := Sv.ok_some hs
    cases hf : fracOf lq kq with
    | none => rw [hf] at hc; simp [chO] at hc
    | some y =>
      rw [hf] at hc
      obtain ⟨x, hx, hch⟩ := chO_chnE hc (fracOf_some hf).2.2
      obtain rfl : y = x := by injection hx
      refine ⟨some (val (decQ lo h a b) y gF M 0 0), some (val (decQ lo h a b) y gS M 0 0), some (val (decQ lo h a b) y gO M 0 0), some (val (decQ lo h a b) y gN M 0 0), 0, fun W h1 h2 => ?_, fun W h1 h2 => ?_, fun W h1 h2 => ?_, fun W h1 h2 => ?_⟩
      · exact serrors_ok W s lo h a b M q y h1 hk (fo_of h2 hf) hch
      · exact qerrors_ok W s lo h a b M q lq kq y h1 hk h2 hf hch
      · exact sexpected_ok W s lo h a b M q y h1 hk (fo_of h2 hf) hch
      · exact qexpected_ok W s lo h a b M q lq kq y h1 hk h2 hf hch
theorem frow_three {w : World} {x0 x1 x2 : Fa × List Nat × List Nat} (h0 : Fq w x0.1 x0.2.1 x0.2.2) (h1 : Fq w x1.1 x1.2.1 x1.2.2) (h2 : Fq w x2.1 x2.2.1 x2.2.2) (t : TypeId) :
    FRow (w.alloc (.cells #[.slice x0.1.A x0.1.n x0.1.c, .slice x0.1.B x0.1.m x0.1.d, .slice x1.1.A x1.1.n x1.1.c, .slice x1.1.B x1.1.m x1.1.d, .slice x2.1.A x2.1.n x2.1.c, .slice x2.1.B x2.1.m x2.1.d] t)) w.heap.size [x0, x1, x2] := by
  refine ⟨by simp, fun i x hx => ?_⟩
  match i with
  | 0 => simp at hx; subst hx; exact ⟨by simp [go_sem], by simp [go_sem], h0.alloc _⟩
  | 1 => simp at hx; subst hx; exact ⟨by simp [go_sem], by simp [go_sem], h1.alloc _⟩
  | 2 => simp at hx; subst hx; exact ⟨by simp [go_sem], by simp [go_sem], h2.alloc _⟩
  | i + 3 => simp at hx
end Go.Proofs.YtnokfhkcfebimaaGreat

/- The walk of the law SequentialErrors. -/
namespace Go.Proofs.YtnokfhkcfebimaaGreat
open Go.RowKit

set_option maxRecDepth 100000 in
set_option maxHeartbeats 16000000 in
theorem yerrors_walk (w : World) (A : Option Addr) (n c : Nat) (l : List Int) (p : Fa) (lp kp : List Nat) (hA : Rs w none 1 iv A l) (hl : l.length = n) (hF : CameF w p lp kp) :
    Calls Tryz.prog 3 #[.slice A n c, .agg #[.slice p.A p.n p.c, .slice p.B p.m p.d]] w fun e w' => e = .returned (.bool true) ∧ Below w.heap.size w w' := by
  by_cases hbig : 100 < wrap64 ((p.n : Int) + (p.m : Int))
  · have d1 : decide ((100 : Int) < wrap64 ((p.n : Int) + (p.m : Int))) = true := decide_eq_true hbig
    clear hF hA
    go_enter Tryz.func3, Tryz.ntmps3
    go_wp2_with (go_at_call 8; (with_reducible refine (yknown_any _).mono ?_); rintro e w9 ⟨rfl, hb⟩; have HB9 := hide (((Below.refl _ _).alloc (Nat.le_refl _) _ : Below w.heap.size w _).trans (hb.mono (by simp))); clear hb)
    go_ret
    exact ⟨rfl, HB9.out⟩
  · have d1 : decide ((100 : Int) < wrap64 ((p.n : Int) + (p.m : Int))) = false := decide_eq_false hbig
    have HQ0 := hide (show Fq w p lp kp from ⟨hF.u, hF.v, hF.c, hF.d, hF.n, hF.m⟩)
    go_enter Tryz.func3, Tryz.ntmps3
    go_upto_region 3 with (fail)
    generalize hW : World.alloc w _ = v
    have HBV := hide (show Below w.heap.size w v by rw [← hW]; exact (Below.refl _ _).alloc (Nat.le_refl _) _)
    have HBX := hide (show Bq v w.heap.size p by rw [← hW]; exact Bq.mk0 _ p rfl)
    have hvz : w.heap.size < v.heap.size := HBX.out.sz
    have HAV := hide (hA.below HBV.out)
    have HL := hide hl
    clear hW hA hl hF hbig
    go_upto_region 5 with (go_at_call 9; refine (yspec_any _ v.heap.size A n c l 0 5 (tp_new HAV.out HL.out _) (by omega) (by omega) (by omega)).mono ?_; rintro e w1 ⟨s, lo, hi, al, be, M, b, rfl, hq, hk, hM, hp, hb, hf⟩; have HB1 := hide (fr_new rfl hf : Below v.heap.size v w1); have HQ1 := hide hq; have HT1 := hide hp; clear hq hf hp)
    generalize hW : World.alloc w1 _ = v1
    have hTw : v.heap.size < w1.heap.size := HT1.out.t.1
    have HF := hide (show FS w v1 w1.heap.size s by rw [← hW]; exact ⟨(HBV.out.trans (HB1.out.mono HBV.out.size)).trans (((Below.refl _ _).alloc (Nat.le_refl _) _ : Below w1.heap.size w1 _).mono (Nat.le_trans HBV.out.size HB1.out.size)), (FS.mk0 HQ1.out _).cb, HQ1.out.alloc _⟩)
    have HT := hide (show Tp v1 v.heap.size A n c l b by rw [← hW]; exact HT1.out.alloc _)
    have HBX1 := hide (show Bq v1 w.heap.size p by rw [← hW]; exact (HBX.out.below HB1.out).alloc _)
    have HP1 := hide (show Fq v1 p lp kp by rw [← hW]; exact ((HQ0.out.below HBV.out).below HB1.out).alloc _)
    obtain ⟨g, hg⟩ : ∃ g, g = w1.heap.size := ⟨_, rfl⟩
    rw [← hg] at HF hTw ⊢
    have k0 := And.intro HBX1.out.c0 (And.intro HBX1.out.c1 (And.intro (HF.out.cb.cell 0 _ rfl) (HF.out.cb.cell 1 _ rfl)))
    have hgz := HF.out.cb.sz
    have hwz := HBX1.out.sz
    clear hW hg
    go_region_held3 (fun W => (W.cell? ⟨w.heap.size, 0, none⟩ = some (.slice p.A p.n p.c) ∧ W.cell? ⟨w.heap.size, 1, none⟩ = some (.slice p.B p.m p.d) ∧ W.cell? ⟨g, 0, none⟩ = some (.slice s.l.A s.l.n s.l.c) ∧ W.cell? ⟨g, 1, none⟩ = some (.slice s.l.B s.l.m s.l.d))) (first | with_reducible exact k0 | with_reducible exact k1 | first | (go_keep; done) | ((try dsimp only); (repeat' apply And.intro) <;> first | (go_keep; done) | ((repeat rw [World.cell?_setCell_other _ _ _ _ (by intro h; injection h; omega)]); go_keep; done))) (first
      | (go_at_call 10; refine (chancem_any _ v.heap.size A n c l b (by first | exact HT.out | exact tp_drew HT.out) (by omega)).mono ?_; rintro e w2 ⟨f, r, rfl, ho, hch, -, hf⟩; have HFR := hide (show Fr v1 w2 (fun b => b = v.heap.size) from (by first | exact hf | exact ((Fr.refl v1 _).drew).trans hf)); have HO2 := hide ho; have HF2 := hide (show FS w w2 g s from ⟨((Fr.of_below (fun b => b = v.heap.size) HF.out.bw).trans HFR.out).below (Nat.le_refl _) (fun k hk e => by omega), HF.out.cb.one HFR.out (by omega), HF.out.q.one HFR.out HT.out.nb⟩); have HP2 := hide (HP1.out.one HFR.out HT.out.nb); have HBX2 := hide (HBX1.out.one HFR.out (by omega)); have k1 := And.intro HBX2.out.c0 (And.intro HBX2.out.c1 (And.intro (HF2.out.cb.cell 0 _ rfl) (HF2.out.cb.cell 1 _ rfl))); have hgz2 := HF2.out.cb.sz; have hwz2 := HBX2.out.sz; clear ho hch hf))
    generalize hW : World.alloc w2 _ = v2
    have HFW := hide (show FRow v2 w2.heap.size [(p, lp, kp), (f, lm (rn r), lm r.den), (s.l, s.ll, s.lk)] by rw [← hW]; exact frow_three (x0 := (p, lp, kp)) (x1 := (f, lm (rn r), lm r.den)) (x2 := (s.l, s.ll, s.lk)) HP2.out HO2.out.1 HF2.out.q.l 26)
    have HF3 := hide (show FS w v2 g s by rw [← hW]; exact HF2.out.alloc _)
    obtain ⟨b2, hb2⟩ : ∃ b, b = w2.heap.size := ⟨_, rfl⟩
    rw [← hb2] at HFW ⊢
    clear hW hb2 k0 k1 hk HF HF2 HP2 HBX2 HBX1 HP1 HT HT1
    go_wp2_with fail
    go_loopw [38] (fun iv wr => ∃ j : Nat, iv = .int .i64 (j : Int) ∧ j ≤ 3 ∧ Hid (Below v2.heap.size v2 wr)) (fun iv _ => 3 - (intOf iv).toNat)
    case atStart => exact ⟨0, rfl, by omega, hide (Below.refl _ _)⟩
    case round =>
      obtain ⟨j, rfl, hj, HBr⟩ := hrel
      have HFr := hide (HF3.out.below HBr.out)
      by_cases hj3 : j = 3
      · subst hj3
        go_wp2_with (go_at_call 8; (with_reducible refine (yknown_any _).mono ?_); rintro e w9 ⟨rfl, hb⟩; have HB9 := hide (HFr.out.bw.trans (hb.mono HFr.out.bw.size)); clear hb)
        go_ret
        exact ⟨rfl, HB9.out⟩
      · have hj0 : (0 : Int) ≤ (j : Int) := by omega
        have hjlt : (j : Int) < 3 := by omega
        obtain ⟨⟨q, lq, kq⟩, hx⟩ : ∃ x, [(p, lp, kp), (f, lm (rn r), lm r.den), (s.l, s.ll, s.lk)][j]? = some x := ⟨_, List.getElem?_eq_getElem (by simp; omega)⟩
        obtain ⟨q0, q1, hq⟩ := (HFW.out.below HBr.out).2 j _ hx
        have HQr := hide hq
        have hbz := (HFW.out.below HBr.out).1
        obtain ⟨o0, o2, o4, oN, E, hc1, hc2, hc3, hc4⟩ := errs_both (s := s) q lq kq
        have HC1 := hide hc1
        have HC2 := hide hc2
        have HC3 := hide hc3
        have HC4 := hide hc4
        have z1 : (E != E) = false := by simp
        clear hx hq hc1 hc2 hc3 hc4
        dsimp only at q0 q1
        go_upto_region 8 with (fail)
        generalize hW : World.alloc wr _ = v8
        have HB8 := hide (show Bq v8 wr.heap.size q by rw [← hW]; exact Bq.mk0 _ q rfl)
        have HQ8 := hide (show Fq v8 q lq kq by rw [← hW]; exact HQr.out.alloc _)
        have HF8 := hide (show FS w v8 g s by rw [← hW]; exact HFr.out.alloc _)
        have HV8 := hide (show Below v2.heap.size v2 v8 by rw [← hW]; exact HBr.out.alloc HBr.out.size _)
        obtain ⟨b8, hb8⟩ : ∃ b, b = wr.heap.size := ⟨_, rfl⟩
        rw [← hb8] at HB8 ⊢
        clear hW hb8 q0 q1 hbz
        obtain ⟨a0, a1, a2, a3, a4, a5, a6, a7, a8, a9⟩ := HF8.out.ca
        have q0 := HB8.out.c0
        have q1 := HB8.out.c1
        go_upto_region 9 with (go_at_call 11; (with_reducible refine (HC1.out _ HF8.out.q HQ8.out).mono ?_); rintro e w9 ⟨x0, x2, x4, rfl, h0, h2, h4, hb⟩; have HO9 := hide (And.intro h0 (And.intro h2 h4)); have HF9 := hide (HF8.out.below hb); have HB9 := hide (HB8.out.below hb); have HQ9 := hide (HQ8.out.below hb); have HV9 := hide (HV8.out.trans (hb.mono HV8.out.size)); clear h0 h2 h4 hb)
        generalize hW : World.alloc w9 _ = v9
        have HF10 := hide (show FS w v9 g s by rw [← hW]; exact HF9.out.alloc _)
        have HB10 := hide (show Bq v9 b8 q by rw [← hW]; exact HB9.out.alloc _)
        have HQ10 := hide (show Fq v9 q lq kq by rw [← hW]; exact HQ9.out.alloc _)
        have HV10 := hide (show Below v2.heap.size v2 v9 by rw [← hW]; exact HV9.out.alloc HV9.out.size _)
        have HX10 := hide (show Cb v9 w9.heap.size [.slice x0.A x0.n x0.c, .slice x0.B x0.m x0.d, .slice x2.A x2.n x2.c, .slice x2.B x2.m x2.d, .slice x4.A x4.n x4.c, .slice x4.B x4.m x4.d] ∧ Fo v9 x0 o0 ∧ Fo v9 x2 o2 ∧ Fo v9 x4 o4 by rw [← hW]; exact ⟨Cb.mk0 [.slice x0.A x0.n x0.c, .slice x0.B x0.m x0.d, .slice x2.A x2.n x2.c, .slice x2.B x2.m x2.d, .slice x4.A x4.n x4.c, .slice x4.B x4.m x4.d] (by simp) _ rfl, HO9.out.1.alloc _, HO9.out.2.1.alloc _, HO9.out.2.2.alloc _⟩)
        obtain ⟨b9, hb9⟩ : ∃ b, b = w9.heap.size := ⟨_, rfl⟩
        rw [← hb9] at HX10 ⊢
        clear hW hb9 a0 a1 a2 a3 a4 a5 a6 a7 a8 a9 q0 q1
        obtain ⟨a0, a1, a2, a3, a4, a5, a6, a7, a8, a9⟩ := HF10.out.ca
        have q0 := HB10.out.c0
        have q1 := HB10.out.c1
        go_upto_region 10 with (go_at_call 12; (with_reducible refine (HC2.out _ HF10.out.q HQ10.out).mono ?_); rintro e w11 ⟨y0, y2, y4, rfl, h0, h2, h4, hb⟩; have HO11 := hide (And.intro h0 (And.intro h2 h4)); have HF11 := hide (HF10.out.below hb); have HB11 := hide (HB10.out.below hb); have HQ11 := hide (HQ10.out.below hb); have HV11 := hide (HV10.out.trans (hb.mono HV10.out.size)); have HX11 := hide (show Cb w11 b9 [.slice x0.A x0.n x0.c, .slice x0.B x0.m x0.d, .slice x2.A x2.n x2.c, .slice x2.B x2.m x2.d, .slice x4.A x4.n x4.c, .slice x4.B x4.m x4.d] ∧ Fo w11 x0 o0 ∧ Fo w11 x2 o2 ∧ Fo w11 x4 o4 from ⟨HX10.out.1.below hb, HX10.out.2.1.below hb, HX10.out.2.2.1.below hb, HX10.out.2.2.2.below hb⟩); clear h0 h2 h4 hb)
        generalize hW : World.alloc w11 _ = v11
        have HF12 := hide (show FS w v11 g s by rw [← hW]; exact HF11.out.alloc _)
        have HB12 := hide (show Bq v11 b8 q by rw [← hW]; exact HB11.out.alloc _)
        have HQ12 := hide (show Fq v11 q lq kq by rw [← hW]; exact HQ11.out.alloc _)
        have HV12 := hide (show Below v2.heap.size v2 v11 by rw [← hW]; exact HV11.out.alloc HV11.out.size _)
        have HX12 := hide (show Cb v11 b9 [.slice x0.A x0.n x0.c, .slice x0.B x0.m x0.d, .slice x2.A x2.n x2.c, .slice x2.B x2.m x2.d, .slice x4.A x4.n x4.c, .slice x4.B x4.m x4.d] ∧ Fo v11 x0 o0 ∧ Fo v11 x2 o2 ∧ Fo v11 x4 o4 by rw [← hW]; exact ⟨HX11.out.1.alloc _, HX11.out.2.1.alloc _, HX11.out.2.2.1.alloc _, HX11.out.2.2.2.alloc _⟩)
        have HY12 := hide (show Cb v11 w11.heap.size [.slice y0.A y0.n y0.c, .slice y0.B y0.m y0.d, .slice y2.A y2.n y2.c, .slice y2.B y2.m y2.d, .slice y4.A y4.n y4.c, .slice y4.B y4.m y4.d] ∧ Fo v11 y0 o0 ∧ Fo v11 y2 o2 ∧ Fo v11 y4 o4 by rw [← hW]; exact ⟨Cb.mk0 [.slice y0.A y0.n y0.c, .slice y0.B y0.m y0.d, .slice y2.A y2.n y2.c, .slice y2.B y2.m y2.d, .slice y4.A y4.n y4.c, .slice y4.B y4.m y4.d] (by simp) _ rfl, HO11.out.1.alloc _, HO11.out.2.1.alloc _, HO11.out.2.2.alloc _⟩)
        obtain ⟨b11, hb11⟩ : ∃ b, b = w11.heap.size := ⟨_, rfl⟩
        rw [← hb11] at HY12 ⊢
        clear hW hb11 a0 a1 a2 a3 a4 a5 a6 a7 a8 a9 q0 q1
        obtain ⟨a0, a1, a2, a3, a4, a5, a6, a7, a8, a9⟩ := HF12.out.ca
        have q0 := HB12.out.c0
        have q1 := HB12.out.c1
        go_upto_region 11 with (go_at_call 13; (with_reducible refine (HC3.out _ HF12.out.q HQ12.out).mono ?_); rintro e w13 ⟨c13, rfl, h0, hb⟩; have HO13 := hide h0; have HF13 := hide (HF12.out.below hb); have HB13 := hide (HB12.out.below hb); have HQ13 := hide (HQ12.out.below hb); have HS13 := hide (hb); clear h0 hb)
        generalize hW : World.alloc w13 _ = v13
        have HS14 := hide (show Below v11.heap.size v11 v13 by rw [← hW]; exact HS13.out.alloc HS13.out.size _)
        have HF14 := hide (show FS w v13 g s by rw [← hW]; exact HF13.out.alloc _)
        have HB14 := hide (show Bq v13 b8 q by rw [← hW]; exact HB13.out.alloc _)
        have HQ14 := hide (show Fq v13 q lq kq by rw [← hW]; exact HQ13.out.alloc _)
        have HN14 := hide (show Bq v13 w13.heap.size c13 ∧ Fo v13 c13 oN by rw [← hW]; exact ⟨Bq.mk0 _ c13 rfl, HO13.out.alloc _⟩)
        obtain ⟨b13, hb13⟩ : ∃ b, b = w13.heap.size := ⟨_, rfl⟩
        rw [← hb13] at HN14 ⊢
        clear hW hb13 a0 a1 a2 a3 a4 a5 a6 a7 a8 a9 q0 q1
        obtain ⟨a0, a1, a2, a3, a4, a5, a6, a7, a8, a9⟩ := HF14.out.ca
        have q0 := HB14.out.c0
        have q1 := HB14.out.c1
        go_upto_region 12 with (go_at_call 14; (with_reducible refine (HC4.out _ HF14.out.q HQ14.out).mono ?_); rintro e w15 ⟨c15, rfl, h0, hb⟩; have HO15 := hide h0; have HS15 := hide (HS14.out.trans (hb.mono HS14.out.size)); have HN15 := hide (show Bq w15 b13 c13 ∧ Fo w15 c13 oN from ⟨HN14.out.1.below hb, HN14.out.2.below hb⟩); clear h0 hb)
        generalize hW : World.alloc w15 _ = v15
        have HS16 := hide (show Below v11.heap.size v11 v15 by rw [← hW]; exact HS15.out.alloc HS15.out.size _)
        have HN16 := hide (show Bq v15 b13 c13 ∧ Fo v15 c13 oN by rw [← hW]; exact ⟨HN15.out.1.alloc _, HN15.out.2.alloc _⟩)
        have HM16 := hide (show Bq v15 w15.heap.size c15 ∧ Fo v15 c15 oN by rw [← hW]; exact ⟨Bq.mk0 _ c15 rfl, HO15.out.alloc _⟩)
        have HV16 := hide (HV12.out.trans (HS16.out.mono HV12.out.size))
        have HX16 := hide (show Cb v15 b9 [.slice x0.A x0.n x0.c, .slice x0.B x0.m x0.d, .slice x2.A x2.n x2.c, .slice x2.B x2.m x2.d, .slice x4.A x4.n x4.c, .slice x4.B x4.m x4.d] ∧ Fo v15 x0 o0 ∧ Fo v15 x2 o2 ∧ Fo v15 x4 o4 from ⟨HX12.out.1.below HS16.out, HX12.out.2.1.below HS16.out, HX12.out.2.2.1.below HS16.out, HX12.out.2.2.2.below HS16.out⟩)
        have HY16 := hide (show Cb v15 b11 [.slice y0.A y0.n y0.c, .slice y0.B y0.m y0.d, .slice y2.A y2.n y2.c, .slice y2.B y2.m y2.d, .slice y4.A y4.n y4.c, .slice y4.B y4.m y4.d] ∧ Fo v15 y0 o0 ∧ Fo v15 y2 o2 ∧ Fo v15 y4 o4 from ⟨HY12.out.1.below HS16.out, HY12.out.2.1.below HS16.out, HY12.out.2.2.1.below HS16.out, HY12.out.2.2.2.below HS16.out⟩)
        obtain ⟨b15, hb15⟩ : ∃ b, b = w15.heap.size := ⟨_, rfl⟩
        rw [← hb15] at HM16 ⊢
        clear hW hb15 a0 a1 a2 a3 a4 a5 a6 a7 a8 a9 q0 q1
        have u0 := HX16.out.1.cell 0 _ rfl
        have u1 := HX16.out.1.cell 1 _ rfl
        have u2 := HX16.out.1.cell 2 _ rfl
        have u3 := HX16.out.1.cell 3 _ rfl
        have u4 := HX16.out.1.cell 4 _ rfl
        have u5 := HX16.out.1.cell 5 _ rfl
        have y0' := HY16.out.1.cell 0 _ rfl
        have y1' := HY16.out.1.cell 1 _ rfl
        have y2' := HY16.out.1.cell 2 _ rfl
        have y3' := HY16.out.1.cell 3 _ rfl
        have y4' := HY16.out.1.cell 4 _ rfl
        have y5' := HY16.out.1.cell 5 _ rfl
        go_wp2_with (first
          | (go_at_call 16; (with_reducible refine (samefrac_eq _ c13 c15 _ HN17.out.2 HM17.out.2).mono ?_); rintro e w18 ⟨rfl, hb⟩; have HV18 := hide (HV17.out.trans (hb.mono HV17.out.size)); clear hb)
          | (go_at_call 15; (with_reducible refine (sameodds_eq _ x0 x2 x4 y0 y2 y4 _ _ _ HX16.out.2.1 HX16.out.2.2.1 HX16.out.2.2.2 HY16.out.2.1 HY16.out.2.2.1 HY16.out.2.2.2).mono ?_); rintro e w17 ⟨rfl, hb⟩; have HV17 := hide (HV16.out.trans (hb.mono HV16.out.size)); have HN17 := hide (show Bq w17 b13 c13 ∧ Fo w17 c13 oN from ⟨HN16.out.1.below hb, HN16.out.2.below hb⟩); have HM17 := hide (show Bq w17 b15 c15 ∧ Fo w17 c15 oN from ⟨HM16.out.1.below hb, HM16.out.2.below hb⟩); have n0 := HN17.out.1.c0; have n1 := HN17.out.1.c1; have m0 := HM17.out.1.c0; have m1 := HM17.out.1.c1; clear hb))
        go_roundw
        case rel => exact ⟨j + 1, by go_num, by omega, HV18⟩
        case measure => simp [intOf] <;> omega
end Go.Proofs.YtnokfhkcfebimaaGreat
