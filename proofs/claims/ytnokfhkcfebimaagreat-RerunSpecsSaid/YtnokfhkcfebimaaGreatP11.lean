/- Contracts of the functions that these laws reach: part 11: Contracts: fraction.Sub; Contracts: fraction.Make, Of, Pow; Plain laws of the chances of a number of failures; Contracts: noise.whole, other, Chance; Contracts: noise.Chance. -/
import Derived.Test.YtnokfhkcfebimaaGreatP10
import Derived.Test.YtnokfhkcfebimaaGreatP5
import Derived.Deep.RegionWith
import Derived.Deep.RegionHeld3
import Derived.Deep.CutRange
set_option linter.unusedVariables false
set_option linter.unusedSimpArgs false

/- Contracts: fraction.Sub. -/
namespace Go.Proofs.YtnokfhkcfebimaaGreat
open Go.RowKit

set_option maxRecDepth 100000 in
set_option maxHeartbeats 8000000 in
theorem fsub_any (w : World) (a b : Fa) (l k l' k' : List Nat) (ha : Fq w a l k) (hb : Fq w b l' k') :
    Calls Tryz.prog 111 #[.agg #[.slice a.A a.n a.c, .slice a.B a.m a.d], .agg #[.slice b.A b.n b.c, .slice b.B b.m b.d]] w fun e w' => Ret w (subR (fracOf l k) (fracOf l' k')) e w' := by
  have hn1 := ha.n
  have hn2 := ha.m
  have hn3 := hb.n
  have hn4 := hb.m
  rcases hA : fracOf l k with _ | r
  · have HA := hide hA
    clear hA
    go_enter Tryz.func111, Tryz.ntmps111
    go_upto_region 1 with (fail)
    generalize hW : World.alloc (World.alloc (World.alloc w _) _) _ = v
    have HFB := hide (show Fb w v a b _ _ _ _ by rw [← hW]; exact (Fb.mk0 ha hb _ _).below ((Below.refl _ _).alloc (Nat.le_refl _) _))
    have HRB := hide (show Rb v (w.heap.size + 2) by rw [← hW]; exact Rb.mk0 _ (by simp))
    obtain ⟨a0, a1, b0, b1⟩ := HFB.out.ca
    obtain ⟨r0, r1, rf, rz, -⟩ := HRB.out
    have hz := HFB.out.sz
    clear hW ha hb
    go_wp2_with (go_at_call 72; (with_reducible refine (fcheck_any _ a l k HFB.out.qa).mono ?_); rintro e w1 ⟨he, hb1⟩; rw [HA.out] at he; subst he; have HF1 := hide (HFB.out.below hb1); have HR1 := hide (HRB.out.below hb1); obtain ⟨c0, c1, c2, c3⟩ := HF1.out.ca; obtain ⟨x0, x1, x2, x3, -⟩ := HR1.out; clear hb1)
    refine bodyPost_ret (v := .tuple #[.agg #[.slice none 0 0, .slice none 0 0], .int .i64 1]) (by simp [results, Tryz.results111, go_sem, *]) rfl ⟨⟨none, 0, 0, none, 0, 0⟩, by rw [subR, opR_none_l], by rw [subR, opR_none_l]; exact Fo.nil _, Rb.end0 HF1.out.bw (by omega) _ _⟩
  · rcases hB : fracOf l' k' with _ | s
    · have HA := hide hA
      have HB := hide hB
      clear hA hB
      go_enter Tryz.func111, Tryz.ntmps111
      go_upto_region 1 with (fail)
      generalize hW : World.alloc (World.alloc (World.alloc w _) _) _ = v
      have HFB := hide (show Fb w v a b _ _ _ _ by rw [← hW]; exact (Fb.mk0 ha hb _ _).below ((Below.refl _ _).alloc (Nat.le_refl _) _))
      have HRB := hide (show Rb v (w.heap.size + 2) by rw [← hW]; exact Rb.mk0 _ (by simp))
      obtain ⟨a0, a1, b0, b1⟩ := HFB.out.ca
      obtain ⟨r0, r1, rf, rz, -⟩ := HRB.out
      have hz := HFB.out.sz
      clear hW ha hb
      go_wp2_with (first | (go_at_call 72; (with_reducible refine (fcheck_any _ a l k HFB.out.qa).mono ?_); rintro e w1 ⟨he, hb1⟩; rw [HA.out] at he; subst he; have HF1 := hide (HFB.out.below hb1); have HR1 := hide (HRB.out.below hb1); obtain ⟨c0, c1, c2, c3⟩ := HF1.out.ca; obtain ⟨x0, x1, x2, x3, -⟩ := HR1.out; clear hb1) | (go_at_call 72; (with_reducible refine (fcheck_any _ b l' k' HF1.out.qb).mono ?_); rintro e w2 ⟨he, hb2⟩; rw [HB.out] at he; subst he; have HF2 := hide (HF1.out.below hb2); have HR2 := hide (HR1.out.below hb2); obtain ⟨e0, e1, e2, e3⟩ := HF2.out.ca; obtain ⟨y0, y1, y2, y3, -⟩ := HR2.out; clear hb2))
      refine bodyPost_ret (v := .tuple #[.agg #[.slice none 0 0, .slice none 0 0], .int .i64 1]) (by simp [results, Tryz.results111, go_sem, *]) rfl ⟨⟨none, 0, 0, none, 0, 0⟩, by rw [subR, opR_none_r], by rw [subR, opR_none_r]; exact Fo.nil _, Rb.end0 HF2.out.bw (by omega) _ _⟩
    · have HA := hide hA
      have HB := hide hB
      obtain ⟨rfl, rfl, hr0, hr⟩ := fracOf_some hA
      obtain ⟨rfl, rfl, hs0, hs⟩ := fracOf_some hB
      obtain ⟨hz1, hz2⟩ := Fq.small ha hr
      obtain ⟨hz3, hz4⟩ := Fq.small hb hs
      clear hA hB
      by_cases hlt : r < s
      · have HX := hide (show subR (some r) (some s) = (none, 5) from if_pos hlt)
        have HC := hide (cmp_eq hr0 hs0)
        have hd0 : decide (cmpQ r s < 0) = true := decide_eq_true (cmpQ_neg.2 hlt)
        clear hlt
        go_enter Tryz.func111, Tryz.ntmps111
        go_upto_region 1 with (fail)
        generalize hW : World.alloc (World.alloc (World.alloc w _) _) _ = v
        have HFB := hide (show Fb w v a b _ _ _ _ by rw [← hW]; exact (Fb.mk0 ha hb _ _).below ((Below.refl _ _).alloc (Nat.le_refl _) _))
        have HRB := hide (show Rb v (w.heap.size + 2) by rw [← hW]; exact Rb.mk0 _ (by simp))
        obtain ⟨a0, a1, b0, b1⟩ := HFB.out.ca
        obtain ⟨r0, r1, rf, rz, -⟩ := HRB.out
        have hz := HFB.out.sz
        clear hW ha hb
        go_wp2_with (first
          | (go_at_call 72; (with_reducible refine (fcheck_any _ a _ _ HFB.out.qa).mono ?_); rintro e w1 ⟨he, hb1⟩; rw [HA.out] at he; subst he; have HF1 := hide (HFB.out.below hb1); have HR1 := hide (HRB.out.below hb1); obtain ⟨c0, c1, c2, c3⟩ := HF1.out.ca; obtain ⟨x0, x1, x2, x3, -⟩ := HR1.out; clear hb1)
          | (go_at_call 72; (with_reducible refine (fcheck_any _ b _ _ HF1.out.qb).mono ?_); rintro e w2 ⟨he, hb2⟩; rw [HB.out] at he; subst he; have HF2 := hide (HF1.out.below hb2); have HR2 := hide (HR1.out.below hb2); obtain ⟨e0, e1, e2, e3⟩ := HF2.out.ca; obtain ⟨y0, y1, y2, y3, -⟩ := HR2.out; clear hb2)
          | (go_at_call 103; (with_reducible refine (fcross_any _ a b r s hr hs HF2.out.qa HF2.out.qb).mono ?_); rintro e w3 ⟨A3, m3, d3, A4, m4, d4, rfl, h1, h2, h3, h4, hu3, hu4, hb3⟩; have HU3 := hide hu3; have HU4 := hide hu4; have HF3 := hide (HF2.out.below hb3); have HR3 := hide (HR2.out.below hb3); obtain ⟨z0, z1, z2, z3, -⟩ := HR3.out; clear hu3 hu4 hb3)
          | (go_at_call 102; refine (lcmp_any _ none none A3 m3 d3 A4 m4 d4 _ _ HU3.out HU4.out (by omega) (by omega)).mono ?_; rintro e w4 ⟨he, hd⟩; rw [HC.out] at he; subst he; have HF4 := hide (HF3.out.below hd.below); have HR4 := hide (HR3.out.below hd.below); obtain ⟨u0, u1, u2, u3, -⟩ := HR4.out; clear hd))
        refine bodyPost_ret (v := .tuple #[.agg #[.slice none 0 0, .slice none 0 0], .int .i64 5]) (by simp [results, Tryz.results111, go_sem, *]) rfl ⟨⟨none, 0, 0, none, 0, 0⟩, by rw [HX.out], by rw [HX.out]; exact Fo.nil _, Rb.end0 HF4.out.bw (by omega) _ _⟩
      · have HX := hide (show subR (some r) (some s) = limR (r - s) from if_neg hlt)
        have HC := hide (cmp_eq hr0 hs0)
        have hd0 : decide (cmpQ r s < 0) = false := decide_eq_false (fun h => hlt (cmpQ_neg.1 h))
        have HM := hide (mk_sub hr0 hs0 (Rat.not_lt.1 hlt))
        have hle := (le_iff_n hs0 hr0).1 (Rat.not_lt.1 hlt)
        have hdp : 0 < r.den * s.den := Nat.mul_pos r.den_pos s.den_pos
        clear hlt
        go_enter Tryz.func111, Tryz.ntmps111
        go_upto_region 1 with (fail)
        generalize hW : World.alloc (World.alloc (World.alloc w _) _) _ = v
        have HFB := hide (show Fb w v a b _ _ _ _ by rw [← hW]; exact (Fb.mk0 ha hb _ _).below ((Below.refl _ _).alloc (Nat.le_refl _) _))
        have HRB := hide (show Rb v (w.heap.size + 2) by rw [← hW]; exact Rb.mk0 _ (by simp))
        obtain ⟨a0, a1, b0, b1⟩ := HFB.out.ca
        obtain ⟨r0, r1, rf, rz, -⟩ := HRB.out
        have hz := HFB.out.sz
        clear hW ha hb
        go_upto_region 6 with (first
          | (go_at_call 72; (with_reducible refine (fcheck_any _ a _ _ HFB.out.qa).mono ?_); rintro e w1 ⟨he, hb1⟩; rw [HA.out] at he; subst he; have HF1 := hide (HFB.out.below hb1); have HR1 := hide (HRB.out.below hb1); obtain ⟨c0, c1, c2, c3⟩ := HF1.out.ca; obtain ⟨x0, x1, x2, x3, -⟩ := HR1.out; clear hb1)
          | (go_at_call 72; (with_reducible refine (fcheck_any _ b _ _ HF1.out.qb).mono ?_); rintro e w2 ⟨he, hb2⟩; rw [HB.out] at he; subst he; have HF2 := hide (HF1.out.below hb2); have HR2 := hide (HR1.out.below hb2); obtain ⟨e0, e1, e2, e3⟩ := HF2.out.ca; obtain ⟨y0, y1, y2, y3, -⟩ := HR2.out; clear hb2)
          | (go_at_call 103; (with_reducible refine (fcross_any _ a b r s hr hs HF2.out.qa HF2.out.qb).mono ?_); rintro e w3 ⟨A3, m3, d3, A4, m4, d4, rfl, h1, h2, h3, h4, hu3, hu4, hb3⟩; have HU3 := hide hu3; have HU4 := hide hu4; have HF3 := hide (HF2.out.below hb3); have HR3 := hide (HR2.out.below hb3); obtain ⟨z0, z1, z2, z3, -⟩ := HR3.out; clear hu3 hu4 hb3)
          | (go_at_call 102; refine (lcmp_any _ none none A3 m3 d3 A4 m4 d4 _ _ HU3.out HU4.out (by omega) (by omega)).mono ?_; rintro e w4 ⟨he, hd⟩; rw [HC.out] at he; subst he; have HU3b := hide (HU3.out.below hd.below); have HU4b := hide (HU4.out.below hd.below); have HF4 := hide (HF3.out.below hd.below); have HR4 := hide (HR3.out.below hd.below); obtain ⟨i0, i1, i2, i3⟩ := HF4.out.ca; obtain ⟨u0, u1, u2, u3, -⟩ := HR4.out; clear hd))
        go_region_held3 (fun W => (W.cell? ⟨w.heap.size, 0, none⟩ = some (.slice a.A a.n a.c) ∧ W.cell? ⟨w.heap.size, 1, none⟩ = some (.slice a.B a.m a.d) ∧ W.cell? ⟨w.heap.size + 1, 0, none⟩ = some (.slice b.A b.n b.c) ∧ W.cell? ⟨w.heap.size + 1, 1, none⟩ = some (.slice b.B b.m b.d))) (first | with_reducible exact keep_put (Nat.lt_succ_self _) k5 | with_reducible exact k5 | with_reducible exact k8 | with_reducible exact k7 | exact ⟨i0, i1, i2, i3⟩) (first
          | (go_at_call 141; (with_reducible refine (lsub_any _ none none A3 m3 d3 A4 m4 d4 _ _ (by first | exact HU3b.out | exact HU3b.out.drew) (by first | exact HU4b.out | exact HU4b.out.drew) (by omega) (by omega) hle).mono ?_); rintro e w7 ⟨A1, m1, d1, rfl, hd1, hu1, hb7⟩; have hl1 := lm_length_mono (Nat.sub_le (rn r * s.den) (rn s * r.den)); rw [hu1.len, HU3.out.len] at hl1; have HU1 := hide hu1; have HF7 := hide ((by first | exact HF4.out.below hb7 | exact HF4.out.drew.below hb7) : Fb w w7 a b _ _ _ _); have HR7 := hide ((by first | exact HR4.out.below hb7 | exact HR4.out.drew.below hb7) : Rb w7 (w.heap.size + 2)); have k7 := HF7.out.ca; have hm1 : m1 ≤ 1000 := (by omega); clear hu1 hb7 hl1)
          | (go_at_call 110; (with_reducible refine (lmul_any _ none none a.B a.m a.d b.B b.m b.d r.den s.den HF7.out.qa.v HF7.out.qb.v (by omega) (by omega)).mono ?_); rintro e w8 ⟨A2, m2, d2, rfl, hd2, hu2, hb4⟩; have HU2 := hide hu2; have HU1b := hide (HU1.out.below hb4); have HF8 := hide (HF7.out.below hb4); have HR8 := hide (HR7.out.below hb4); have k8 := HF8.out.ca; have hl2 := lm_length_mul r.den s.den; rw [hu2.len] at hl2; simp only [fitsR, Bool.and_eq_true, decide_eq_true_eq] at hr hs; have hm2 : m2 ≤ 1000 := (by omega); clear hu2 hb4 hl2)
          | (go_at_call 109; (with_reducible refine (fexact_any _ none none A1 m1 d1 A2 m2 d2 _ _ HU1b.out HU2.out hm1 hm2 hdp).mono ?_); rintro e w5 ⟨c, er, rfl, her, ho, hb5⟩; rw [HM.out] at her ho; have HER := her; have HO := ho; have HF5 := hide (HF8.out.below hb5); have HR5 := hide (HR8.out.below hb5); have k5 := HF5.out.ca; obtain ⟨q0, q1, q2, q3, -⟩ := HR5.out; clear her ho hb5))
        go_wp2_with fail
        refine bodyPost_ret (v := .tuple #[.agg #[.slice c.A c.n c.c, .slice c.B c.m c.d], .int .i64 er]) (by simp [results, Tryz.results111, go_sem, *]) rfl ⟨c, by rw [HX.out, ← HER.out], by rw [HX.out]; exact HO.out.put2 HR5.out.nb _ _ (by simp), Rb.end0 HF5.out.bw (by omega) _ _⟩
end Go.Proofs.YtnokfhkcfebimaaGreat

/- Contracts: fraction.Make, Of, Pow. -/
namespace Go.Proofs.YtnokfhkcfebimaaGreat
open Go.RowKit

/-- What Make returns. -/
def mkR (l k : List Nat) : Option Rat × Int := if natB l = true ∧ natB k = true then (if k = [] then (none, 4) else limR (mkRat (lv l) (lv k))) else (none, 1)
theorem Ret.mk0 {w v : World} {c : Fa} {x : Option Rat × Int} {er : Int} {g : Nat} (h1 : er = x.2) (h2 : Fo v c x.1) (hr : Rb v g) (hb : Below w.heap.size w v) (hg : w.heap.size ≤ g) :
    Ret w x (.returned (.tuple #[.agg #[.slice c.A c.n c.c, .slice c.B c.m c.d], .int .i64 er])) ((v.setCell ⟨g, 0, none⟩ (.slice c.A c.n c.c)).setCell ⟨g, 1, none⟩ (.slice c.B c.m c.d)) :=
  ⟨c, by rw [h1], h2.put2 hr.nb _ _ (by simp), Rb.end0 hb hg _ _⟩
theorem Ret.err0 {w v : World} {x : Option Rat × Int} {er : Int} {g : Nat} (h : x = (none, er)) (hr : Rb v g) (hb : Below w.heap.size w v) (hg : w.heap.size ≤ g) :
    Ret w x (.returned (.tuple #[.agg #[.slice none 0 0, .slice none 0 0], .int .i64 er])) ((v.setCell ⟨g, 0, none⟩ (.slice none 0 0)).setCell ⟨g, 1, none⟩ (.slice none 0 0)) := by
  subst h
  exact Ret.mk0 (c := ⟨none, 0, 0, none, 0, 0⟩) rfl (Fo.nil _) hr hb hg
set_option maxRecDepth 100000 in
set_option maxHeartbeats 8000000 in
theorem fmake_any (w : World) (A : Option Addr) (n c : Nat) (B : Option Addr) (m d : Nat) (l k : List Nat) (hU : Ul w none A n l) (hV : Ul w none B m k) (hn : n ≤ 1000) (hm : m ≤ 1000) :
    Calls Tryz.prog 126 #[.slice A n c, .slice B m d] w fun e w' => Ret w (mkR l k) e w' := by
  have hU0 := hU
  have hV0 := hV
  by_cases h1 : natB l = true ∧ natB k = true
  · obtain ⟨h1, h2⟩ := h1
    have HB := hide h1
    have HC := hide h2
    by_cases h0 : m = 0
    · have hk0 : k = [] := List.eq_nil_of_length_eq_zero (hV.len.trans h0)
      have HX := hide (show mkR l k = (none, 4) by unfold mkR; rw [if_pos ⟨h1, h2⟩, if_pos hk0])
      have d0 : ((m : Int) == 0) = true := by simp [h0]
      clear h0 h1 h2 hk0
      go_enter Tryz.func126, Tryz.ntmps126
      go_upto_region 1 with (fail)
      generalize hW : World.alloc w _ = v
      have HRB := hide (show Rb v w.heap.size by rw [← hW]; exact Rb.mk0 _ rfl)
      have HBV := hide (show Below w.heap.size w v by rw [← hW]; exact (Below.refl _ _).alloc (Nat.le_refl _) _)
      have HU := hide (show Ul v none A n l by rw [← hW]; exact hU.alloc _)
      have HV := hide (show Ul v none B m k by rw [← hW]; exact hV.alloc _)
      obtain ⟨r0, r1, rf, rz, -⟩ := HRB.out
      clear hW hU hV hU0 hV0
      go_wp2_with (first
        | (go_at_call 104; (with_reducible refine (ncheck_any _ none A n c l HU.out (by omega)).mono ?_); rintro e w' ⟨rfl, rfl⟩; rw [HB.out])
        | (go_at_call 104; (with_reducible refine (ncheck_any _ none B m d k HV.out (by omega)).mono ?_); rintro e w' ⟨rfl, rfl⟩; rw [HC.out]))
      refine bodyPost_ret (v := .tuple #[.agg #[.slice none 0 0, .slice none 0 0], .int .i64 4]) (by simp [results, Tryz.results126, go_sem, *]) rfl (Ret.err0 HX.out HRB.out HBV.out (Nat.le_refl _))
    · have d0 : ((m : Int) == 0) = false := by simp; omega
      have hk0 : k ≠ [] := by rintro rfl; exact h0 hV.len.symm
      have hl := (natB_iff.1 h1).2
      have hk := (natB_iff.1 h2).2
      have hkp : 0 < lv k := by
        rcases Nat.eq_zero_or_pos (lv k) with h | h
        · rw [h, lm_zero] at hk; exact absurd hk hk0
        · exact h
      have HX := hide (show mkR l k = limR (mkRat (lv l) (lv k)) by unfold mkR; rw [if_pos ⟨h1, h2⟩, if_neg hk0])
      have HL := hide hl
      have HK := hide hk
      clear h1 h2 hk0 hl hk
      go_enter Tryz.func126, Tryz.ntmps126
      go_upto_region 1 with (fail)
      generalize hW : World.alloc w _ = v
      have HRB := hide (show Rb v w.heap.size by rw [← hW]; exact Rb.mk0 _ rfl)
      have HBV := hide (show Below w.heap.size w v by rw [← hW]; exact (Below.refl _ _).alloc (Nat.le_refl _) _)
      have HU := hide (show Ul v none A n l by rw [← hW]; exact hU.alloc _)
      have HV := hide (show Ul v none B m k by rw [← hW]; exact hV.alloc _)
      obtain ⟨r0, r1, rf, rz, -⟩ := HRB.out
      clear hW hU hV hU0 hV0
      go_wp2_with (first
        | (go_at_call 104; (with_reducible refine (ncheck_any _ none A n c l HU.out (by omega)).mono ?_); rintro e w' ⟨rfl, rfl⟩; rw [HB.out])
        | (go_at_call 104; (with_reducible refine (ncheck_any _ none B m d k HV.out (by omega)).mono ?_); rintro e w' ⟨rfl, rfl⟩; rw [HC.out])
        | (go_at_call 109; refine (fexact_any _ none none A n c B m d (lv l) (lv k) (by rw [← HL.out]; exact HU.out) (by rw [← HK.out]; exact HV.out) hn hm hkp).mono ?_; rintro e w5 ⟨q, er, rfl, her, ho, hb5⟩; have HER := her; have HO := ho; have HB5 := hide (HBV.out.trans (hb5.mono HBV.out.size)); have HR5 := hide (HRB.out.below hb5); obtain ⟨z0, z1, z2, z3, -⟩ := HR5.out; clear her ho hb5))
      refine bodyPost_ret (v := .tuple #[.agg #[.slice q.A q.n q.c, .slice q.B q.m q.d], .int .i64 er]) (by simp [results, Tryz.results126, go_sem, *]) rfl (Ret.mk0 (by rw [HX.out]; exact HER.out) (by rw [HX.out]; exact HO.out) HR5.out HB5.out (Nat.le_refl _))
  · have HX := hide (show mkR l k = (none, 1) from if_neg h1)
    by_cases h2 : natB l = true
    · have HB := hide h2
      have HC := hide (show natB k = false from Bool.eq_false_iff.2 (fun h => h1 ⟨h2, h⟩))
      clear h1 h2
      go_enter Tryz.func126, Tryz.ntmps126
      go_upto_region 1 with (fail)
      generalize hW : World.alloc w _ = v
      have HRB := hide (show Rb v w.heap.size by rw [← hW]; exact Rb.mk0 _ rfl)
      have HBV := hide (show Below w.heap.size w v by rw [← hW]; exact (Below.refl _ _).alloc (Nat.le_refl _) _)
      have HU := hide (show Ul v none A n l by rw [← hW]; exact hU.alloc _)
      have HV := hide (show Ul v none B m k by rw [← hW]; exact hV.alloc _)
      obtain ⟨r0, r1, rf, rz, -⟩ := HRB.out
      clear hW hU hV hU0 hV0
      go_wp2_with (first
        | (go_at_call 104; (with_reducible refine (ncheck_any _ none A n c l HU.out (by omega)).mono ?_); rintro e w' ⟨rfl, rfl⟩; rw [HB.out])
        | (go_at_call 104; (with_reducible refine (ncheck_any _ none B m d k HV.out (by omega)).mono ?_); rintro e w' ⟨rfl, rfl⟩; rw [HC.out]))
      refine bodyPost_ret (v := .tuple #[.agg #[.slice none 0 0, .slice none 0 0], .int .i64 1]) (by simp [results, Tryz.results126, go_sem, *]) rfl (Ret.err0 HX.out HRB.out HBV.out (Nat.le_refl _))
    · have HB := hide (show natB l = false by simpa using h2)
      clear h1 h2
      go_enter Tryz.func126, Tryz.ntmps126
      go_upto_region 1 with (fail)
      generalize hW : World.alloc w _ = v
      have HRB := hide (show Rb v w.heap.size by rw [← hW]; exact Rb.mk0 _ rfl)
      have HBV := hide (show Below w.heap.size w v by rw [← hW]; exact (Below.refl _ _).alloc (Nat.le_refl _) _)
      have HU := hide (show Ul v none A n l by rw [← hW]; exact hU.alloc _)
      obtain ⟨r0, r1, rf, rz, -⟩ := HRB.out
      clear hW hU hV hU0 hV0
      go_wp2_with (go_at_call 104; (with_reducible refine (ncheck_any _ none A n c l HU.out (by omega)).mono ?_); rintro e w' ⟨rfl, rfl⟩; rw [HB.out])
      refine bodyPost_ret (v := .tuple #[.agg #[.slice none 0 0, .slice none 0 0], .int .i64 1]) (by simp [results, Tryz.results126, go_sem, *]) rfl (Ret.err0 HX.out HRB.out HBV.out (Nat.le_refl _))

theorem lm64 {x : Nat} (h : x < 18446744073709551616) : (lm x).length ≤ 2 := lm_length_le.2 (by omega)
theorem natB64 {x : Nat} (h : x < 18446744073709551616) : natB (lm x) = true := by
  rw [natB_lm]; have := lm64 h; simp; omega
theorem fits64 {x y : Nat} (hx : x < 18446744073709551616) (hy : y < 18446744073709551616) (h0 : 0 < y) : fitsR (mkRat x y) = true := by
  unfold fitsR
  rw [mk_num x y h0, mk_den x y h0]
  have h1 := lm64 (Nat.lt_of_le_of_lt (Nat.div_le_self x (Nat.gcd x y)) hx)
  have h2 := lm64 (Nat.lt_of_le_of_lt (Nat.div_le_self y (Nat.gcd x y)) hy)
  simp; omega
theorem mkR_64 {x y : Nat} (hx : x < 18446744073709551616) (hy : y < 18446744073709551616) (h0 : 0 < y) : mkR (lm x) (lm y) = (some (mkRat x y), 0) := by
  unfold mkR
  rw [if_pos ⟨natB64 hx, natB64 hy⟩, if_neg (fun h => by have := lm_eq_nil.1 h; omega), lv_lm, lv_lm, limR_fit (fits64 hx hy h0)]
set_option maxRecDepth 100000 in
set_option maxHeartbeats 8000000 in
theorem fof_any (w : World) (x y : Nat) (hx : x < 9223372036854775808) (hy : y < 9223372036854775808) (h0 : 0 < y) :
    Calls Tryz.prog 93 #[.int .i64 (x : Int), .int .i64 (y : Int)] w fun e w' => Ret w (some (mkRat x y), 0) e w' := by
  have HM := hide (mkR_64 (x := x) (y := y) (by omega) (by omega) h0)
  have hw1 : IntKind.u64.wrap (x : Int) = (x : Int) := by
    show (x : Int) % 18446744073709551616 = x
    omega
  have hw2 : IntKind.u64.wrap (y : Int) = (y : Int) := by
    show (y : Int) % 18446744073709551616 = y
    omega
  go_enter Tryz.func93, Tryz.ntmps93
  go_upto_region 1 with (fail)
  generalize hW : World.alloc w _ = v
  have HRB := hide (show Rb v w.heap.size by rw [← hW]; exact Rb.mk0 _ rfl)
  have HBV := hide (show Below w.heap.size w v by rw [← hW]; exact (Below.refl _ _).alloc (Nat.le_refl _) _)
  obtain ⟨r0, r1, rf, rz, -⟩ := HRB.out
  clear hW
  go_wp2_with (first
    | (go_at_call 75; (with_reducible refine (nof_any _ x (by omega)).mono ?_); rintro e w1 ⟨A, m, c, rfl, h1, h2, hu, hb⟩; have HU1 := hide hu; have HB1 := hide hb; clear hu hb)
    | (go_at_call 75; (with_reducible refine (nof_any _ y (by omega)).mono ?_); rintro e w2 ⟨A2, m2, c2, rfl, h3, h4, hu, hb⟩; have HU2 := hide hu; have HU1b := hide (HU1.out.below hb); have HR2 := hide ((HRB.out.below HB1.out).below hb); have HB2 := hide ((HBV.out.trans (HB1.out.mono HBV.out.size)).trans (hb.mono (Nat.le_trans HBV.out.size HB1.out.size))); clear hu hb)
    | (go_at_call 126; (with_reducible refine (fmake_any _ A m c A2 m2 c2 _ _ HU1b.out HU2.out (by omega) (by omega)).mono ?_); rintro e w5 ⟨q, rfl, ho, hb5⟩; rw [HM.out] at ho; have HO := hide ho; have HB5 := hide (HB2.out.trans (hb5.mono HB2.out.size)); have HR5 := hide (HR2.out.below hb5); obtain ⟨z0, z1, z2, z3, -⟩ := HR5.out; clear ho hb5))
  have HX := hide (show (mkR (lm x) (lm y)).2 = 0 by rw [HM.out])
  refine bodyPost_ret (v := .tuple #[.agg #[.slice q.A q.n q.c, .slice q.B q.m q.d], .int .i64 (mkR (lm x) (lm y)).2]) (by simp [results, Tryz.results93, go_sem, *]) rfl (Ret.mk0 (by rw [HX.out]) HO.out HR5.out HB5.out (Nat.le_refl _))
end Go.Proofs.YtnokfhkcfebimaaGreat

/- Plain laws of the chances of a number of failures. -/
namespace Go.Proofs.YtnokfhkcfebimaaGreat

/-- A number that has the denominator D fits where D and its numerator do. -/
theorem fits_of {r : Rat} {x D : Nat} (hD : 0 < D) (h : r * (D : Rat) = (x : Rat)) (hx : x < 4294967296 ^ 128) (hd : D < 4294967296 ^ 128) : fitsR r = true := by
  have hD0 : (D : Rat) ≠ 0 := by
    intro h0
    have : D = 0 := by exact_mod_cast h0
    omega
  have e : r = mkRat (x : Int) D := by
    rw [Rat.mkRat_eq_div]
    have : ((x : Int) : Rat) = (x : Rat) := rfl
    rw [this, ← h]
    grind
  have h1 := mk_num x D hD
  have h2 := mk_den x D hD
  rw [← e] at h1 h2
  unfold fitsR
  rw [h1, h2]
  simp only [Bool.and_eq_true, decide_eq_true_eq]
  exact ⟨lm_length_le.2 (Nat.lt_of_le_of_lt (Nat.div_le_self _ _) hx), lm_length_le.2 (Nat.lt_of_le_of_lt (Nat.div_le_self _ _) hd)⟩
/-- r has the denominator d ^ n. -/
def Sc (d n : Nat) (r : Rat) : Prop := ∃ x : Nat, r * (d : Rat) ^ n = (x : Rat)
theorem cast_nonneg (n : Nat) : (0 : Rat) ≤ (n : Rat) := by exact_mod_cast Nat.zero_le n
theorem Sc.fits {d n : Nat} {r : Rat} (h : Sc d n r) (hd : 0 < d) (hd2 : d ≤ 1000000) (hn : n ≤ 128) (hr : r ≤ ((4294967296 ^ 4 : Nat) : Rat)) : fitsR r = true := by
  obtain ⟨x, h⟩ := h
  have hp : d ^ n ≤ 4294967296 ^ 96 := by
    have h1 : d ^ n ≤ 1000000 ^ n := Nat.pow_le_pow_left hd2 n
    have h2 : 1000000 ^ n ≤ 1000000 ^ 128 := Nat.pow_le_pow_right (by omega) hn
    have h3 : 1000000 ^ 128 ≤ 4294967296 ^ 96 := by decide +kernel
    omega
  have hx : x ≤ 4294967296 ^ 4 * d ^ n := by
    have : (x : Rat) ≤ ((4294967296 ^ 4 * d ^ n : Nat) : Rat) := by
      rw [← h, Rat.natCast_mul, Rat.natCast_pow d n]
      exact Rat.mul_le_mul_of_nonneg_right hr (Rat.pow_nonneg (cast_nonneg d))
    exact_mod_cast this
  refine fits_of (x := x) (D := d ^ n) (Nat.pow_pos hd) (by rw [Rat.natCast_pow]; exact h) ?_ ?_
  · have h4 : 4294967296 ^ 4 * d ^ n ≤ 4294967296 ^ 4 * 4294967296 ^ 96 := Nat.mul_le_mul_left _ hp
    have h5 : 4294967296 ^ 4 * 4294967296 ^ 96 < 4294967296 ^ 128 := by decide +kernel
    omega
  · have h5 : 4294967296 ^ 96 < 4294967296 ^ 128 := by decide +kernel
    omega

/-- The numbers of sets of k elements of n. -/
def ch : Nat → Nat → Nat
  | _, 0 => 1
  | 0, _ + 1 => 0
  | n + 1, k + 1 => ch n k + ch n (k + 1)
/-- The chance of k failures of n. -/
def tm (r : Rat) (n k : Nat) : Rat := (ch n k : Rat) * r ^ k * (1 - r) ^ (n - k)
/-- The chances of those numbers of failures below m that count. -/
def sm (r : Rat) (n : Nat) (f : Nat → Bool) : Nat → Rat
  | 0 => 0
  | m + 1 => sm r n f m + if f m then tm r n m else 0
def tot (r : Rat) (n : Nat) (f : Nat → Bool) : Rat := sm r n f (n + 1)
end Go.Proofs.YtnokfhkcfebimaaGreat

/- Contracts: noise.whole, other, Chance. -/
namespace Go.Proofs.YtnokfhkcfebimaaGreat
open Go.RowKit

/-- The box g holds the fraction c. -/
structure Bq (v : World) (g : Nat) (c : Fa) : Prop where
  c0 : v.cell? ⟨g, 0, none⟩ = some (.slice c.A c.n c.c)
  c1 : v.cell? ⟨g, 1, none⟩ = some (.slice c.B c.m c.d)
  fz : ∀ j, v.frozen? ⟨g, j, none⟩ = false
  sz : g < v.heap.size
  nb : NB v g
abbrev fa0 : Fa := ⟨none, 0, 0, none, 0, 0⟩
theorem Bq.below {v v' : World} {g : Nat} {c : Fa} (h : Bq v g c) (hb : Below v.heap.size v v') : Bq v' g c := by
  have h1 := h.sz
  refine ⟨?_, ?_, fun j => ?_, Nat.lt_of_lt_of_le h.sz hb.size, fun j x => ?_⟩
  · rw [hb.cell (by simp; omega)]; exact h.c0
  · rw [hb.cell (by simp; omega)]; exact h.c1
  · rw [hb.frozen (by simp; omega)]; exact h.fz j
  · rw [hb.cell (by simp; omega)]; exact h.nb j x
theorem Bq.alloc {v : World} {g : Nat} {c : Fa} (h : Bq v g c) (o : Obj) : Bq (v.alloc o) g c := h.below ((Below.refl _ _).alloc (Nat.le_refl _) _)
theorem Bq.mk0 {w : World} (t : TypeId) (c : Fa) {g : Nat} (hg : g = w.heap.size) : Bq (w.alloc (.cells #[.slice c.A c.n c.c, .slice c.B c.m c.d] t)) g c := by
  subst hg
  refine ⟨by simp [go_sem], by simp [go_sem], fun j => by simp [go_sem], by simp, fun j x h => ?_⟩
  rcases j with _ | _ | j <;> simp [go_sem] at h
theorem Rb.bq {v : World} {g : Nat} (h : Rb v g) : Bq v g fa0 := ⟨h.c0, h.c1, h.fz, h.sz, h.nb⟩
theorem Bq.rb {v : World} {g : Nat} (h : Bq v g fa0) : Rb v g := ⟨h.c0, h.c1, h.fz, h.sz, h.nb⟩
/-- Another fraction is stored. -/
theorem Bq.fill {v : World} {g : Nat} {c : Fa} (h : Bq v g c) (x : Fa) : Bq ((v.setCell ⟨g, 0, none⟩ (.slice x.A x.n x.c)).setCell ⟨g, 1, none⟩ (.slice x.B x.m x.d)) g x := by
  have h1 := h.c0
  have h2 := h.c1
  refine ⟨by simp [go_sem, *], by simp [go_sem, *], fun j => by have := h.fz j; simp [go_sem, *], by have := h.sz; simpa using this, (h.nb.put 0 (by simp)).put 1 (by simp)⟩
theorem NB.far {w : World} {g g' : Nat} (h : NB w g) (hg : g' ≠ g) (i : Nat) (v : Value) : NB (w.setCell ⟨g', i, none⟩ v) g := by
  intro j x
  rw [World.cell?_setCell_other _ _ _ _ (by intro h; injection h; omega)]
  exact h j x
theorem Bq.far {v : World} {g g' : Nat} {c : Fa} (h : Bq v g c) (hg : g' ≠ g) (x y : Value) : Bq ((v.setCell ⟨g', 0, none⟩ x).setCell ⟨g', 1, none⟩ y) g c := by
  refine ⟨?_, ?_, fun j => ?_, by have := h.sz; simpa using this, (h.nb.far hg _ _).far hg _ _⟩
  · rw [World.cell?_setCell_other _ _ _ _ (by intro h; injection h; omega), World.cell?_setCell_other _ _ _ _ (by intro h; injection h; omega)]; exact h.c0
  · rw [World.cell?_setCell_other _ _ _ _ (by intro h; injection h; omega), World.cell?_setCell_other _ _ _ _ (by intro h; injection h; omega)]; exact h.c1
  · have := h.fz j; simp [go_sem, *]
theorem Fo.fill {w : World} {a : Fa} {o : Option Rat} (h : Fo w a o) {g : Nat} {c : Fa} (hg : Bq w g c) (x : Fa) : Fo ((w.setCell ⟨g, 0, none⟩ (.slice x.A x.n x.c)).setCell ⟨g, 1, none⟩ (.slice x.B x.m x.d)) a o := h.put2 hg.nb _ _ (by simp)
/-- A fraction is returned. -/
def Ret1 (w : World) (o : Option Rat) (e : Ending) (w' : World) : Prop := ∃ c : Fa, e = .returned (.agg #[.slice c.A c.n c.c, .slice c.B c.m c.d]) ∧ Fo w' c o ∧ Below w.heap.size w w'
theorem mk_one (n : Nat) : mkRat (n : Int) 1 = (n : Rat) := by rw [Rat.mkRat_one]; rfl
set_option maxRecDepth 100000 in
set_option maxHeartbeats 8000000 in
theorem whole_any (w : World) (n : Nat) (hn : n < 9223372036854775808) :
    Calls Tryz.prog 73 #[.int .i64 (n : Int)] w fun e w' => Ret1 w (some (n : Rat)) e w' := by
  go_enter Tryz.func73, Tryz.ntmps73
  go_upto_region 1 with (fail)
  generalize hW : World.alloc w _ = v
  have HRB := hide (show Rb v w.heap.size by rw [← hW]; exact Rb.mk0 _ rfl)
  have HBV := hide (show Below w.heap.size w v by rw [← hW]; exact (Below.refl _ _).alloc (Nat.le_refl _) _)
  obtain ⟨r0, r1, rf, rz, -⟩ := HRB.out
  clear hW
  go_wp2_with (go_at_call 93; refine (fof_any _ n 1 hn (by omega) (by omega)).mono ?_; rintro e w1 ⟨c, rfl, ho, hb⟩; rw [mk_one] at ho; have HO := hide ho; have HR1 := hide (HRB.out.below hb); have HB1 := hide (HBV.out.trans (hb.mono HBV.out.size)); obtain ⟨z0, z1, z2, z3, -⟩ := HR1.out; clear ho hb)
  refine bodyPost_ret (v := .agg #[.slice c.A c.n c.c, .slice c.B c.m c.d]) (by simp [results, Tryz.results73, go_sem, *]) rfl ⟨c, rfl, (HO.out.put2 HR1.out.nb _ _ (by simp)).alloc _, (Rb.end0 HB1.out (Nat.le_refl _) _ _).alloc (by simp; omega) _⟩
theorem Below.of_drew {v w : World} (h : Below v.drew.heap.size v.drew w) : Below v.heap.size v w := (Dr.below ⟨1, rfl⟩).trans h
theorem Below.of_alloc {v w : World} {o : Obj} (h : Below (v.alloc o).heap.size (v.alloc o) w) : Below v.heap.size v w := ((Below.refl _ _).alloc (Nat.le_refl _) _).trans (h.mono (by simp))
theorem fsub_o (w : World) (a b : Fa) (o o' : Option Rat) (ha : Fo w a o) (hb : Fo w b o') : Calls Tryz.prog 111 #[.agg #[.slice a.A a.n a.c, .slice a.B a.m a.d], .agg #[.slice b.A b.n b.c, .slice b.B b.m b.d]] w fun e w' => Ret w (subR o o') e w' := by
  have := fsub_any w a b _ _ _ _ ha.1 hb.1
  rwa [fracOf_self ha.2, fracOf_self hb.2] at this
theorem fadd_o (w : World) (a b : Fa) (o o' : Option Rat) (ha : Fo w a o) (hb : Fo w b o') : Calls Tryz.prog 108 #[.agg #[.slice a.A a.n a.c, .slice a.B a.m a.d], .agg #[.slice b.A b.n b.c, .slice b.B b.m b.d]] w fun e w' => Ret w (addR o o') e w' := by
  have := fadd_any w a b _ _ _ _ ha.1 hb.1
  rwa [fracOf_self ha.2, fracOf_self hb.2] at this
theorem fmul_o (w : World) (a b : Fa) (o o' : Option Rat) (ha : Fo w a o) (hb : Fo w b o') : Calls Tryz.prog 80 #[.agg #[.slice a.A a.n a.c, .slice a.B a.m a.d], .agg #[.slice b.A b.n b.c, .slice b.B b.m b.d]] w fun e w' => Ret w (mulR o o') e w' := by
  have := fmul_any w a b _ _ _ _ ha.1 hb.1
  rwa [fracOf_self ha.2, fracOf_self hb.2] at this
theorem fcmp_o (w : World) (a b : Fa) (o o' : Option Rat) (ha : Fo w a o) (hb : Fo w b o') : Calls Tryz.prog 71 #[.agg #[.slice a.A a.n a.c, .slice a.B a.m a.d], .agg #[.slice b.A b.n b.c, .slice b.B b.m b.d]] w fun e w' => e = .returned (.int .i64 (cmpO o o')) ∧ Below w.heap.size w w' := by
  have := fcmp_any w a b _ _ _ _ ha.1 hb.1
  rwa [fracOf_self ha.2, fracOf_self hb.2] at this
theorem whole1_any (w : World) : Calls Tryz.prog 73 #[.int .i64 1] w fun e w' => Ret1 w (some 1) e w' := whole_any w 1 (by omega)
end Go.Proofs.YtnokfhkcfebimaaGreat

/- Contracts: noise.Chance. -/
namespace Go.Proofs.YtnokfhkcfebimaaGreat
open Go.RowKit

/-- A chance: at most 1, with a denominator of at most 1000. -/
def chO : Option Rat → Bool
  | some r => decide (r ≤ 1) && decide (r.den ≤ 1000)
  | none => false
theorem nof1000 (w : World) : Calls Tryz.prog 75 #[.int .u64 1000] w fun e w' => ∃ A m c, e = .returned (.slice A m c) ∧ m ≤ c ∧ m ≤ 2 ∧ Ul w' none A m (lm 1000) ∧ Below w.heap.size w w' := nof_any w 1000 (by omega)
set_option maxRecDepth 100000 in
set_option maxHeartbeats 8000000 in
theorem chance_any (w : World) (a : Fa) (l k : List Nat) (hq : Fq w a l k) :
    Calls Tryz.prog 43 #[.agg #[.slice a.A a.n a.c, .slice a.B a.m a.d]] w fun e w' => e = .returned (.bool (chO (fracOf l k))) ∧ Below w.heap.size w w' := by
  have hn := hq.n
  have hm := hq.m
  rcases hA : fracOf l k with _ | r
  · have HA := hide hA
    clear hA
    go_enter Tryz.func43, Tryz.ntmps43
    go_upto_region 1 with (fail)
    generalize hW : World.alloc w _ = v
    have HBV := hide (show Below w.heap.size w v by rw [← hW]; exact (Below.refl _ _).alloc (Nat.le_refl _) _)
    have HQ := hide (show Fq v a l k by rw [← hW]; exact hq.alloc _)
    have a0 : v.cell? ⟨w.heap.size, 0, none⟩ = some (.slice a.A a.n a.c) := by rw [← hW]; clear hW; go_simp
    have a1 : v.cell? ⟨w.heap.size, 1, none⟩ = some (.slice a.B a.m a.d) := by rw [← hW]; clear hW; go_simp
    have rz : w.heap.size < v.heap.size := by rw [← hW]; simp
    clear hW hq
    go_cut [2] from 2 to 18 (fun s2 wx => s2 = .bool false ∧ Hid (Below v.heap.size v wx))
    case first =>
      first | (go_region_with (first | (go_at_call 72; (with_reducible refine (fcheck_any _ a l k (by first | exact HQ.out | exact HQ.out.drew)).mono ?_); rintro e w1 ⟨he, hb⟩; rw [HA.out] at he; subst he; have hb' : Below v.heap.size v w1 := (by first | exact hb | exact Below.of_drew hb); have HB1 := hide hb'; have e0 := (hb'.cell (p := ⟨w.heap.size, 0, none⟩) (by simp; omega)).trans a0; have e1 := (hb'.cell (p := ⟨w.heap.size, 1, none⟩) (by simp; omega)).trans a1; clear hb hb'))) | fail
      all_goals
        go_wp2_with fail
        go_meet
        case rel => exact ⟨rfl, HB1⟩
    case rest =>
      obtain ⟨rfl, HB1⟩ := hcut
      go_wp2_with fail
      refine bodyPost_ret (v := .bool false) (by simp [results, Tryz.results43, go_sem, *]) rfl ⟨rfl, HBV.out.trans (HB1.out.mono HBV.out.size)⟩
  · have HA := hide hA
    have HQo0 : Fo w a (some r) := ⟨by have h := fracOf_some hA; rw [h.1, h.2.1] at hq; exact hq, (fracOf_some hA).2.2⟩
    have hm128 := HQo0.small.2
    have HN := hide (show (if natB k && natB (lm 1000) then cmpN (lv k) (lv (lm 1000)) else 0) = cmpN r.den 1000 by
      obtain ⟨h1, h2, h3, h4⟩ := fracOf_some hA
      have h5 : natB k = true := by
        rw [h2, natB_lm]
        simp only [fitsR, Bool.and_eq_true, decide_eq_true_eq] at h4
        simp [h4.2]
      rw [h5, natB64 (by omega), if_pos (by rfl), h2, lv_lm, lv_lm])
    have HCX := hide (show cmpO (some r) (some 1) = cmpQ r 1 from rfl)
    clear hA
    by_cases h1 : r ≤ 1
    · have d1 : decide (cmpQ r 1 ≤ 0) = true := decide_eq_true (cmpQ_le.2 h1)
      have HE := hide (show chO (some r) = decide (cmpN r.den 1000 ≤ 0) by
        show (decide (r ≤ 1) && _) = _
        rw [decide_eq_true h1, Bool.true_and]
        exact decide_eq_decide.2 cmpN_le.symm)
      clear h1
      go_enter Tryz.func43, Tryz.ntmps43
      go_upto_region 1 with (fail)
      generalize hW : World.alloc w _ = v
      have HBV := hide (show Below w.heap.size w v by rw [← hW]; exact (Below.refl _ _).alloc (Nat.le_refl _) _)
      have HQ := hide (show Fq v a l k by rw [← hW]; exact hq.alloc _)
      have a0 : v.cell? ⟨w.heap.size, 0, none⟩ = some (.slice a.A a.n a.c) := by rw [← hW]; clear hW; go_simp
      have a1 : v.cell? ⟨w.heap.size, 1, none⟩ = some (.slice a.B a.m a.d) := by rw [← hW]; clear hW; go_simp
      have rz : w.heap.size < v.heap.size := by rw [← hW]; simp
      clear hW hq
      have HQo := hide (show Fo v a (some r) from HQo0.below HBV.out)
      clear HQo0
      go_region_held3 (fun W => W.cell? ⟨w.heap.size, 0, none⟩ = some (.slice a.A a.n a.c) ∧ W.cell? ⟨w.heap.size, 1, none⟩ = some (.slice a.B a.m a.d)) (first | exact ⟨a0, a1⟩ | exact ⟨e0, e1⟩ | exact ⟨g0, g1⟩ | exact ⟨i0, i1⟩ | exact ⟨j0, j1⟩ | exact ⟨k0, k1⟩) (first | (go_at_call 72; (with_reducible refine (fcheck_any _ a l k (by first | exact HQ.out | exact HQ.out.drew)).mono ?_); rintro e w1 ⟨he, hb⟩; rw [HA.out] at he; subst he; have hb' : Below v.heap.size v w1 := (by first | exact hb | exact Below.of_drew hb); have HB1 := hide hb'; have e0 := (hb'.cell (p := ⟨w.heap.size, 0, none⟩) (by simp; omega)).trans a0; have e1 := (hb'.cell (p := ⟨w.heap.size, 1, none⟩) (by simp; omega)).trans a1; clear hb hb') | (go_at_call 73; (with_reducible refine (whole1_any _).mono ?_); rintro e w2 ⟨c1, rfl, ho, hb⟩; have HO1 := hide ho; have hb' : Below w1.heap.size w1 w2 := hb; have HB2 := hide (HB1.out.trans (hb'.mono HB1.out.size)); have g0 := (HB2.out.cell (p := ⟨w.heap.size, 0, none⟩) (by simp; omega)).trans a0; have g1 := (HB2.out.cell (p := ⟨w.heap.size, 1, none⟩) (by simp; omega)).trans a1; clear ho hb hb') | (go_at_call 71; (with_reducible refine (fcmp_o _ a c1 (some r) (some 1) (HQo.out.below HB2.out) HO1.out).mono ?_); rintro e w3 ⟨he, hb⟩; rw [HCX.out] at he; subst he; have HB3 := hide (HB2.out.trans (hb.mono HB2.out.size)); have i0 := (HB3.out.cell (p := ⟨w.heap.size, 0, none⟩) (by simp; omega)).trans a0; have i1 := (HB3.out.cell (p := ⟨w.heap.size, 1, none⟩) (by simp; omega)).trans a1; clear hb) | (go_at_call 75; (with_reducible refine (nof1000 _).mono ?_); rintro e w4 ⟨A4, m4, c4, rfl, h4, h42, hu, hb⟩; have HU4 := hide hu; have HB4 := hide (HB3.out.trans (hb.mono HB3.out.size)); have j0 := (HB4.out.cell (p := ⟨w.heap.size, 0, none⟩) (by simp; omega)).trans a0; have j1 := (HB4.out.cell (p := ⟨w.heap.size, 1, none⟩) (by simp; omega)).trans a1; clear hu hb) | (go_at_call 74; (with_reducible refine (ncmp_any _ none none a.B a.m a.d A4 m4 c4 _ _ (HQ.out.below HB4.out).v HU4.out (by omega) (by omega)).mono ?_); rintro e w5 ⟨rfl, hb⟩; rw [HN.out]; have HB5 := hide (HB4.out.trans (hb.mono HB4.out.size)); have k0 := (HB5.out.cell (p := ⟨w.heap.size, 0, none⟩) (by simp; omega)).trans a0; have k1 := (HB5.out.cell (p := ⟨w.heap.size, 1, none⟩) (by simp; omega)).trans a1; clear hb))
      go_wp2_with fail
      refine bodyPost_ret (v := .bool (decide (cmpN r.den 1000 ≤ 0))) (by simp [results, Tryz.results43, go_sem, *]) rfl ⟨by rw [HE.out], HBV.out.trans (HB5.out.mono HBV.out.size)⟩
    · have d1 : decide (cmpQ r 1 ≤ 0) = false := decide_eq_false (fun h => h1 (cmpQ_le.1 h))
      have HE := hide (show chO (some r) = false by
        show (decide (r ≤ 1) && _) = _
        rw [decide_eq_false h1, Bool.false_and])
      clear h1
      go_enter Tryz.func43, Tryz.ntmps43
      go_upto_region 1 with (fail)
      generalize hW : World.alloc w _ = v
      have HBV := hide (show Below w.heap.size w v by rw [← hW]; exact (Below.refl _ _).alloc (Nat.le_refl _) _)
      have HQ := hide (show Fq v a l k by rw [← hW]; exact hq.alloc _)
      have a0 : v.cell? ⟨w.heap.size, 0, none⟩ = some (.slice a.A a.n a.c) := by rw [← hW]; clear hW; go_simp
      have a1 : v.cell? ⟨w.heap.size, 1, none⟩ = some (.slice a.B a.m a.d) := by rw [← hW]; clear hW; go_simp
      have rz : w.heap.size < v.heap.size := by rw [← hW]; simp
      clear hW hq
      have HQo := hide (show Fo v a (some r) from HQo0.below HBV.out)
      clear HQo0
      go_cut [2] from 2 to 18 (fun s2 wx => s2 = .bool false ∧ Hid (Below v.heap.size v wx))
      case first =>
        first | (go_region_with (first | (go_at_call 72; (with_reducible refine (fcheck_any _ a l k (by first | exact HQ.out | exact HQ.out.drew)).mono ?_); rintro e w1 ⟨he, hb⟩; rw [HA.out] at he; subst he; have hb' : Below v.heap.size v w1 := (by first | exact hb | exact Below.of_drew hb); have HB1 := hide hb'; have e0 := (hb'.cell (p := ⟨w.heap.size, 0, none⟩) (by simp; omega)).trans a0; have e1 := (hb'.cell (p := ⟨w.heap.size, 1, none⟩) (by simp; omega)).trans a1; clear hb hb') | (go_at_call 73; (with_reducible refine (whole1_any _).mono ?_); rintro e w2 ⟨c1, rfl, ho, hb⟩; have HO1 := hide ho; have hb' : Below w1.heap.size w1 w2 := hb; have HB2 := hide (HB1.out.trans (hb'.mono HB1.out.size)); have g0 := (HB2.out.cell (p := ⟨w.heap.size, 0, none⟩) (by simp; omega)).trans a0; have g1 := (HB2.out.cell (p := ⟨w.heap.size, 1, none⟩) (by simp; omega)).trans a1; clear ho hb hb') | (go_at_call 71; (with_reducible refine (fcmp_o _ a c1 (some r) (some 1) (HQo.out.below HB2.out) HO1.out).mono ?_); rintro e w3 ⟨he, hb⟩; rw [HCX.out] at he; subst he; have HB3 := hide (HB2.out.trans (hb.mono HB2.out.size)); have i0 := (HB3.out.cell (p := ⟨w.heap.size, 0, none⟩) (by simp; omega)).trans a0; have i1 := (HB3.out.cell (p := ⟨w.heap.size, 1, none⟩) (by simp; omega)).trans a1; clear hb))) | fail
        all_goals
          go_wp2_with fail
          go_meet
          case rel => exact ⟨rfl, HB3⟩
      case rest =>
        obtain ⟨rfl, HB3⟩ := hcut
        go_wp2_with fail
        refine bodyPost_ret (v := .bool false) (by simp [results, Tryz.results43, go_sem, *]) rfl ⟨by rw [HE.out], HBV.out.trans (HB3.out.mono HBV.out.size)⟩
end Go.Proofs.YtnokfhkcfebimaaGreat
