/- Contracts of the functions that these laws reach: part 7: Contracts: fraction.Add, Mul, Sub, Div; Contracts: fraction.Sub; Contracts: fraction.Make, Of, Pow. -/
import Derived.Test.YtjkffgcikbkjeaaGreatP6
set_option linter.unusedVariables false
set_option linter.unusedSimpArgs false

/- Contracts: fraction.Add, Mul, Sub, Div. -/
namespace Go.Proofs.YtjkffgcikbkjeaaGreat
open Go.RowKit

theorem keep_put {w W : World} {a b : Fa} {g : Nat} {x y : Value} (h1 : w.heap.size + 1 < g) (h : (W.cell? ⟨w.heap.size, 0, none⟩ = some (.slice a.A a.n a.c) ∧ W.cell? ⟨w.heap.size, 1, none⟩ = some (.slice a.B a.m a.d) ∧ W.cell? ⟨w.heap.size + 1, 0, none⟩ = some (.slice b.A b.n b.c) ∧ W.cell? ⟨w.heap.size + 1, 1, none⟩ = some (.slice b.B b.m b.d))) : (((W.setCell ⟨g, 0, none⟩ x).setCell ⟨g, 1, none⟩ y).cell? ⟨w.heap.size, 0, none⟩ = some (.slice a.A a.n a.c) ∧ ((W.setCell ⟨g, 0, none⟩ x).setCell ⟨g, 1, none⟩ y).cell? ⟨w.heap.size, 1, none⟩ = some (.slice a.B a.m a.d) ∧ ((W.setCell ⟨g, 0, none⟩ x).setCell ⟨g, 1, none⟩ y).cell? ⟨w.heap.size + 1, 0, none⟩ = some (.slice b.A b.n b.c) ∧ ((W.setCell ⟨g, 0, none⟩ x).setCell ⟨g, 1, none⟩ y).cell? ⟨w.heap.size + 1, 1, none⟩ = some (.slice b.B b.m b.d)) := by
  refine ⟨?_, ?_, ?_, ?_⟩ <;> rw [World.cell?_setCell_other _ _ _ _ (by intro h; injection h; omega), World.cell?_setCell_other _ _ _ _ (by intro h; injection h; omega)]
  · exact h.1
  · exact h.2.1
  · exact h.2.2.1
  · exact h.2.2.2
theorem opR_none_l (f : Rat → Rat → Option Rat × Int) (o : Option Rat) : opR f none o = (none, 1) := rfl
theorem opR_none_r (f : Rat → Rat → Option Rat × Int) (o : Option Rat) : opR f o none = (none, 1) := by cases o <;> rfl
/-- What an operation returns. -/
def Ret (w : World) (x : Option Rat × Int) (e : Ending) (w' : World) : Prop := ∃ c : Fa, e = .returned (.tuple #[.agg #[.slice c.A c.n c.c, .slice c.B c.m c.d], .int .i64 x.2]) ∧ Fo w' c x.1 ∧ Below w.heap.size w w'
theorem Rb.end0 {w v : World} {g : Nat} (h : Below w.heap.size w v) (hg : w.heap.size ≤ g) (x y : Value) : Below w.heap.size w ((v.setCell ⟨g, 0, none⟩ x).setCell ⟨g, 1, none⟩ y) := (h.setCell hg _).setCell hg _
theorem Fo.put2 {w : World} {a : Fa} {o : Option Rat} (h : Fo w a o) {g : Nat} (hg : NB w g) (x y : Value) (hx : ∀ i, x ≠ .int .u32 i) : Fo ((w.setCell ⟨g, 0, none⟩ x).setCell ⟨g, 1, none⟩ y) a o := (h.put hg _ _).put (hg.put _ hx) _ _
set_option maxRecDepth 100000 in
set_option maxHeartbeats 8000000 in
theorem fmul_any (w : World) (a b : Fa) (l k l' k' : List Nat) (ha : Fq w a l k) (hb : Fq w b l' k') :
    Calls Tryz.prog 76 #[.agg #[.slice a.A a.n a.c, .slice a.B a.m a.d], .agg #[.slice b.A b.n b.c, .slice b.B b.m b.d]] w fun e w' => Ret w (mulR (fracOf l k) (fracOf l' k')) e w' := by
  have hn1 := ha.n
  have hn2 := ha.m
  have hn3 := hb.n
  have hn4 := hb.m
  rcases hA : fracOf l k with _ | r
  · have HA := hide hA
    clear hA
    go_enter Tryz.func76, Tryz.ntmps76
    go_upto_region 1 with (fail)
    generalize hW : World.alloc (World.alloc (World.alloc w _) _) _ = v
    have HFB := hide (show Fb w v a b _ _ _ _ by rw [← hW]; exact (Fb.mk0 ha hb _ _).below ((Below.refl _ _).alloc (Nat.le_refl _) _))
    have HRB := hide (show Rb v (w.heap.size + 2) by rw [← hW]; exact Rb.mk0 _ (by simp))
    obtain ⟨a0, a1, b0, b1⟩ := HFB.out.ca
    obtain ⟨r0, r1, rf, rz, -⟩ := HRB.out
    have hz := HFB.out.sz
    clear hW ha hb
    go_wp2_with (go_at_call 68; (with_reducible refine (fcheck_any _ a l k HFB.out.qa).mono ?_); rintro e w1 ⟨he, hb1⟩; rw [HA.out] at he; subst he; have HF1 := hide (HFB.out.below hb1); have HR1 := hide (HRB.out.below hb1); obtain ⟨c0, c1, c2, c3⟩ := HF1.out.ca; obtain ⟨x0, x1, x2, x3, -⟩ := HR1.out; clear hb1)
    refine bodyPost_ret (v := .tuple #[.agg #[.slice none 0 0, .slice none 0 0], .int .i64 1]) (by simp [results, Tryz.results76, go_sem, *]) rfl ⟨⟨none, 0, 0, none, 0, 0⟩, by rw [mulR, opR_none_l], by rw [mulR, opR_none_l]; exact Fo.nil _, Rb.end0 HF1.out.bw (by omega) _ _⟩
  · rcases hB : fracOf l' k' with _ | s
    · have HA := hide hA
      have HB := hide hB
      clear hA hB
      go_enter Tryz.func76, Tryz.ntmps76
      go_upto_region 1 with (fail)
      generalize hW : World.alloc (World.alloc (World.alloc w _) _) _ = v
      have HFB := hide (show Fb w v a b _ _ _ _ by rw [← hW]; exact (Fb.mk0 ha hb _ _).below ((Below.refl _ _).alloc (Nat.le_refl _) _))
      have HRB := hide (show Rb v (w.heap.size + 2) by rw [← hW]; exact Rb.mk0 _ (by simp))
      obtain ⟨a0, a1, b0, b1⟩ := HFB.out.ca
      obtain ⟨r0, r1, rf, rz, -⟩ := HRB.out
      have hz := HFB.out.sz
      clear hW ha hb
      go_wp2_with (first | (go_at_call 68; (with_reducible refine (fcheck_any _ a l k HFB.out.qa).mono ?_); rintro e w1 ⟨he, hb1⟩; rw [HA.out] at he; subst he; have HF1 := hide (HFB.out.below hb1); have HR1 := hide (HRB.out.below hb1); obtain ⟨c0, c1, c2, c3⟩ := HF1.out.ca; obtain ⟨x0, x1, x2, x3, -⟩ := HR1.out; clear hb1) | (go_at_call 68; (with_reducible refine (fcheck_any _ b l' k' HF1.out.qb).mono ?_); rintro e w2 ⟨he, hb2⟩; rw [HB.out] at he; subst he; have HF2 := hide (HF1.out.below hb2); have HR2 := hide (HR1.out.below hb2); obtain ⟨e0, e1, e2, e3⟩ := HF2.out.ca; obtain ⟨y0, y1, y2, y3, -⟩ := HR2.out; clear hb2))
      refine bodyPost_ret (v := .tuple #[.agg #[.slice none 0 0, .slice none 0 0], .int .i64 1]) (by simp [results, Tryz.results76, go_sem, *]) rfl ⟨⟨none, 0, 0, none, 0, 0⟩, by rw [mulR, opR_none_r], by rw [mulR, opR_none_r]; exact Fo.nil _, Rb.end0 HF2.out.bw (by omega) _ _⟩
    · have HA := hide hA
      have HB := hide hB
      obtain ⟨rfl, rfl, hr0, hr⟩ := fracOf_some hA
      obtain ⟨rfl, rfl, hs0, hs⟩ := fracOf_some hB
      obtain ⟨hz1, hz2⟩ := Fq.small ha hr
      obtain ⟨hz3, hz4⟩ := Fq.small hb hs
      clear hA hB
      have HM := hide (mk_mul hr0 hs0)
      have hdp : 0 < r.den * s.den := Nat.mul_pos r.den_pos s.den_pos
      go_enter Tryz.func76, Tryz.ntmps76
      go_upto_region 1 with (fail)
      generalize hW : World.alloc (World.alloc (World.alloc w _) _) _ = v
      have HFB := hide (show Fb w v a b _ _ _ _ by rw [← hW]; exact (Fb.mk0 ha hb _ _).below ((Below.refl _ _).alloc (Nat.le_refl _) _))
      have HRB := hide (show Rb v (w.heap.size + 2) by rw [← hW]; exact Rb.mk0 _ (by simp))
      obtain ⟨a0, a1, b0, b1⟩ := HFB.out.ca
      obtain ⟨r0, r1, rf, rz, -⟩ := HRB.out
      have hz := HFB.out.sz
      clear hW ha hb
      go_upto_region 3 with (first | (go_at_call 68; (with_reducible refine (fcheck_any _ a _ _ HFB.out.qa).mono ?_); rintro e w1 ⟨he, hb1⟩; rw [HA.out] at he; subst he; have HF1 := hide (HFB.out.below hb1); have HR1 := hide (HRB.out.below hb1); obtain ⟨c0, c1, c2, c3⟩ := HF1.out.ca; obtain ⟨x0, x1, x2, x3, -⟩ := HR1.out; clear hb1) | (go_at_call 68; (with_reducible refine (fcheck_any _ b _ _ HF1.out.qb).mono ?_); rintro e w2 ⟨he, hb2⟩; rw [HB.out] at he; subst he; have HF2 := hide (HF1.out.below hb2); have HR2 := hide (HR1.out.below hb2); obtain ⟨e0, e1, e2, e3⟩ := HF2.out.ca; obtain ⟨y0, y1, y2, y3, -⟩ := HR2.out; clear hb2))
      go_region_held3 (fun W => (W.cell? ⟨w.heap.size, 0, none⟩ = some (.slice a.A a.n a.c) ∧ W.cell? ⟨w.heap.size, 1, none⟩ = some (.slice a.B a.m a.d) ∧ W.cell? ⟨w.heap.size + 1, 0, none⟩ = some (.slice b.A b.n b.c) ∧ W.cell? ⟨w.heap.size + 1, 1, none⟩ = some (.slice b.B b.m b.d))) (first | with_reducible exact keep_put (Nat.lt_succ_self _) k5 | with_reducible exact k5 | with_reducible exact k4 | with_reducible exact k3 | exact ⟨e0, e1, e2, e3⟩) (first
        | (go_at_call 93; (with_reducible refine (lmul_any _ none none a.A a.n a.c b.A b.n b.c (rn r) (rn s) (by first | exact HF2.out.qa.u | exact HF2.out.drew.qa.u) (by first | exact HF2.out.qb.u | exact HF2.out.drew.qb.u) (by omega) (by omega)).mono ?_); rintro e w3 ⟨A1, m1, d1, rfl, hd1, hu1, hb3⟩; have HU1 := hide hu1; have HF3 := hide ((by first | exact HF2.out.below hb3 | exact HF2.out.drew.below hb3) : Fb w w3 a b _ _ _ _); have HR3 := hide ((by first | exact HR2.out.below hb3 | exact HR2.out.drew.below hb3) : Rb w3 (w.heap.size + 2)); have k3 := HF3.out.ca; clear hu1 hb3)
        | (go_at_call 93; (with_reducible refine (lmul_any _ none none a.B a.m a.d b.B b.m b.d r.den s.den (by first | exact HF3.out.qa.v | exact HF3.out.drew.qa.v) (by first | exact HF3.out.qb.v | exact HF3.out.drew.qb.v) (by omega) (by omega)).mono ?_); rintro e w4 ⟨A2, m2, d2, rfl, hd2, hu2, hb4⟩; have HU2 := hide hu2; have HU1b := hide (HU1.out.below hb4); have HF4 := hide (HF3.out.below hb4); have HR4 := hide (HR3.out.below hb4); have k4 := HF4.out.ca; have hl1 := lm_length_mul (rn r) (rn s); have hl2 := lm_length_mul r.den s.den; rw [HU1b.out.len] at hl1; rw [hu2.len] at hl2; simp only [fitsR, Bool.and_eq_true, decide_eq_true_eq] at hr hs; have hm1 : m1 ≤ 1000 := (by omega); have hm2 : m2 ≤ 1000 := (by omega); clear hu2 hb4 hl1 hl2)
        | (go_at_call 89; (with_reducible refine (fexact_any _ none none A1 m1 d1 A2 m2 d2 _ _ HU1b.out HU2.out hm1 hm2 hdp).mono ?_); rintro e w5 ⟨c, er, rfl, her, ho, hb5⟩; rw [HM.out] at her ho; have HER := her; have HO := ho; have HF5 := hide (HF4.out.below hb5); have HR5 := hide (HR4.out.below hb5); have k5 := HF5.out.ca; obtain ⟨z0, z1, z2, z3, -⟩ := HR5.out; clear her ho hb5))
      have HX := hide (show mulR (some r) (some s) = limR (r * s) from rfl)
      go_wp2_with fail
      refine bodyPost_ret (v := .tuple #[.agg #[.slice c.A c.n c.c, .slice c.B c.m c.d], .int .i64 er]) (by simp [results, Tryz.results76, go_sem, *]) rfl ⟨c, by rw [HX.out, ← HER.out], by rw [HX.out]; exact HO.out.put2 HR5.out.nb _ _ (by simp), Rb.end0 HF5.out.bw (by omega) _ _⟩
set_option maxRecDepth 100000 in
set_option maxHeartbeats 8000000 in
theorem fadd_any (w : World) (a b : Fa) (l k l' k' : List Nat) (ha : Fq w a l k) (hb : Fq w b l' k') :
    Calls Tryz.prog 77 #[.agg #[.slice a.A a.n a.c, .slice a.B a.m a.d], .agg #[.slice b.A b.n b.c, .slice b.B b.m b.d]] w fun e w' => Ret w (addR (fracOf l k) (fracOf l' k')) e w' := by
  have hn1 := ha.n
  have hn2 := ha.m
  have hn3 := hb.n
  have hn4 := hb.m
  rcases hA : fracOf l k with _ | r
  · have HA := hide hA
    clear hA
    go_enter Tryz.func77, Tryz.ntmps77
    go_upto_region 1 with (fail)
    generalize hW : World.alloc (World.alloc (World.alloc w _) _) _ = v
    have HFB := hide (show Fb w v a b _ _ _ _ by rw [← hW]; exact (Fb.mk0 ha hb _ _).below ((Below.refl _ _).alloc (Nat.le_refl _) _))
    have HRB := hide (show Rb v (w.heap.size + 2) by rw [← hW]; exact Rb.mk0 _ (by simp))
    obtain ⟨a0, a1, b0, b1⟩ := HFB.out.ca
    obtain ⟨r0, r1, rf, rz, -⟩ := HRB.out
    have hz := HFB.out.sz
    clear hW ha hb
    go_wp2_with (go_at_call 68; (with_reducible refine (fcheck_any _ a l k HFB.out.qa).mono ?_); rintro e w1 ⟨he, hb1⟩; rw [HA.out] at he; subst he; have HF1 := hide (HFB.out.below hb1); have HR1 := hide (HRB.out.below hb1); obtain ⟨c0, c1, c2, c3⟩ := HF1.out.ca; obtain ⟨x0, x1, x2, x3, -⟩ := HR1.out; clear hb1)
    refine bodyPost_ret (v := .tuple #[.agg #[.slice none 0 0, .slice none 0 0], .int .i64 1]) (by simp [results, Tryz.results77, go_sem, *]) rfl ⟨⟨none, 0, 0, none, 0, 0⟩, by rw [addR, opR_none_l], by rw [addR, opR_none_l]; exact Fo.nil _, Rb.end0 HF1.out.bw (by omega) _ _⟩
  · rcases hB : fracOf l' k' with _ | s
    · have HA := hide hA
      have HB := hide hB
      clear hA hB
      go_enter Tryz.func77, Tryz.ntmps77
      go_upto_region 1 with (fail)
      generalize hW : World.alloc (World.alloc (World.alloc w _) _) _ = v
      have HFB := hide (show Fb w v a b _ _ _ _ by rw [← hW]; exact (Fb.mk0 ha hb _ _).below ((Below.refl _ _).alloc (Nat.le_refl _) _))
      have HRB := hide (show Rb v (w.heap.size + 2) by rw [← hW]; exact Rb.mk0 _ (by simp))
      obtain ⟨a0, a1, b0, b1⟩ := HFB.out.ca
      obtain ⟨r0, r1, rf, rz, -⟩ := HRB.out
      have hz := HFB.out.sz
      clear hW ha hb
      go_wp2_with (first | (go_at_call 68; (with_reducible refine (fcheck_any _ a l k HFB.out.qa).mono ?_); rintro e w1 ⟨he, hb1⟩; rw [HA.out] at he; subst he; have HF1 := hide (HFB.out.below hb1); have HR1 := hide (HRB.out.below hb1); obtain ⟨c0, c1, c2, c3⟩ := HF1.out.ca; obtain ⟨x0, x1, x2, x3, -⟩ := HR1.out; clear hb1) | (go_at_call 68; (with_reducible refine (fcheck_any _ b l' k' HF1.out.qb).mono ?_); rintro e w2 ⟨he, hb2⟩; rw [HB.out] at he; subst he; have HF2 := hide (HF1.out.below hb2); have HR2 := hide (HR1.out.below hb2); obtain ⟨e0, e1, e2, e3⟩ := HF2.out.ca; obtain ⟨y0, y1, y2, y3, -⟩ := HR2.out; clear hb2))
      refine bodyPost_ret (v := .tuple #[.agg #[.slice none 0 0, .slice none 0 0], .int .i64 1]) (by simp [results, Tryz.results77, go_sem, *]) rfl ⟨⟨none, 0, 0, none, 0, 0⟩, by rw [addR, opR_none_r], by rw [addR, opR_none_r]; exact Fo.nil _, Rb.end0 HF2.out.bw (by omega) _ _⟩
    · have HA := hide hA
      have HB := hide hB
      obtain ⟨rfl, rfl, hr0, hr⟩ := fracOf_some hA
      obtain ⟨rfl, rfl, hs0, hs⟩ := fracOf_some hB
      obtain ⟨hz1, hz2⟩ := Fq.small ha hr
      obtain ⟨hz3, hz4⟩ := Fq.small hb hs
      clear hA hB
      have HM := hide (mk_add hr0 hs0)
      have hdp : 0 < r.den * s.den := Nat.mul_pos r.den_pos s.den_pos
      go_enter Tryz.func77, Tryz.ntmps77
      go_upto_region 1 with (fail)
      generalize hW : World.alloc (World.alloc (World.alloc w _) _) _ = v
      have HFB := hide (show Fb w v a b _ _ _ _ by rw [← hW]; exact (Fb.mk0 ha hb _ _).below ((Below.refl _ _).alloc (Nat.le_refl _) _))
      have HRB := hide (show Rb v (w.heap.size + 2) by rw [← hW]; exact Rb.mk0 _ (by simp))
      obtain ⟨a0, a1, b0, b1⟩ := HFB.out.ca
      obtain ⟨r0, r1, rf, rz, -⟩ := HRB.out
      have hz := HFB.out.sz
      clear hW ha hb
      go_upto_region 3 with (first | (go_at_call 68; (with_reducible refine (fcheck_any _ a _ _ HFB.out.qa).mono ?_); rintro e w1 ⟨he, hb1⟩; rw [HA.out] at he; subst he; have HF1 := hide (HFB.out.below hb1); have HR1 := hide (HRB.out.below hb1); obtain ⟨c0, c1, c2, c3⟩ := HF1.out.ca; obtain ⟨x0, x1, x2, x3, -⟩ := HR1.out; clear hb1) | (go_at_call 68; (with_reducible refine (fcheck_any _ b _ _ HF1.out.qb).mono ?_); rintro e w2 ⟨he, hb2⟩; rw [HB.out] at he; subst he; have HF2 := hide (HF1.out.below hb2); have HR2 := hide (HR1.out.below hb2); obtain ⟨e0, e1, e2, e3⟩ := HF2.out.ca; obtain ⟨y0, y1, y2, y3, -⟩ := HR2.out; clear hb2))
      go_region_held3 (fun W => (W.cell? ⟨w.heap.size, 0, none⟩ = some (.slice a.A a.n a.c) ∧ W.cell? ⟨w.heap.size, 1, none⟩ = some (.slice a.B a.m a.d) ∧ W.cell? ⟨w.heap.size + 1, 0, none⟩ = some (.slice b.A b.n b.c) ∧ W.cell? ⟨w.heap.size + 1, 1, none⟩ = some (.slice b.B b.m b.d))) (first | with_reducible exact keep_put (Nat.lt_succ_self _) k5 | with_reducible exact k5 | with_reducible exact k4 | with_reducible exact k7 | with_reducible exact k3 | exact ⟨e0, e1, e2, e3⟩) (first
        | (go_at_call 72; (with_reducible refine (fcross_any _ a b r s hr hs (by first | exact HF2.out.qa | exact HF2.out.drew.qa) (by first | exact HF2.out.qb | exact HF2.out.drew.qb)).mono ?_); rintro e w3 ⟨A3, m3, d3, A4, m4, d4, rfl, h1, h2, h3, h4, hu3, hu4, hb3⟩; have HU3 := hide hu3; have HU4 := hide hu4; have HF3 := hide ((by first | exact HF2.out.below hb3 | exact HF2.out.drew.below hb3) : Fb w w3 a b _ _ _ _); have HR3 := hide ((by first | exact HR2.out.below hb3 | exact HR2.out.drew.below hb3) : Rb w3 (w.heap.size + 2)); have k3 := HF3.out.ca; clear hu3 hu4 hb3)
        | (go_at_call 96; (with_reducible refine (ladd_any _ none none A3 m3 d3 A4 m4 d4 _ _ HU3.out HU4.out (by omega) (by omega)).mono ?_); rintro e w7 ⟨A1, m1, d1, rfl, hd1, hu1, hb7⟩; have hl1 := lm_length_add (rn r * s.den) (rn s * r.den); rw [hu1.len, HU3.out.len, HU4.out.len] at hl1; have HU1 := hide hu1; have HF7 := hide (HF3.out.below hb7); have HR7 := hide (HR3.out.below hb7); have k7 := HF7.out.ca; have hm1 : m1 ≤ 1000 := (by omega); clear hu1 hb7 hl1)
        | (go_at_call 93; (with_reducible refine (lmul_any _ none none a.B a.m a.d b.B b.m b.d r.den s.den HF7.out.qa.v HF7.out.qb.v (by omega) (by omega)).mono ?_); rintro e w4 ⟨A2, m2, d2, rfl, hd2, hu2, hb4⟩; have HU2 := hide hu2; have HU1b := hide (HU1.out.below hb4); have HF4 := hide (HF7.out.below hb4); have HR4 := hide (HR7.out.below hb4); have k4 := HF4.out.ca; have hl2 := lm_length_mul r.den s.den; rw [hu2.len] at hl2; simp only [fitsR, Bool.and_eq_true, decide_eq_true_eq] at hr hs; have hm2 : m2 ≤ 1000 := (by omega); clear hu2 hb4 hl2)
        | (go_at_call 89; (with_reducible refine (fexact_any _ none none A1 m1 d1 A2 m2 d2 _ _ HU1b.out HU2.out hm1 hm2 hdp).mono ?_); rintro e w5 ⟨c, er, rfl, her, ho, hb5⟩; rw [HM.out] at her ho; have HER := her; have HO := ho; have HF5 := hide (HF4.out.below hb5); have HR5 := hide (HR4.out.below hb5); have k5 := HF5.out.ca; obtain ⟨z0, z1, z2, z3, -⟩ := HR5.out; clear her ho hb5))
      have HX := hide (show addR (some r) (some s) = limR (r + s) from rfl)
      go_wp2_with fail
      refine bodyPost_ret (v := .tuple #[.agg #[.slice c.A c.n c.c, .slice c.B c.m c.d], .int .i64 er]) (by simp [results, Tryz.results77, go_sem, *]) rfl ⟨c, by rw [HX.out, ← HER.out], by rw [HX.out]; exact HO.out.put2 HR5.out.nb _ _ (by simp), Rb.end0 HF5.out.bw (by omega) _ _⟩
end Go.Proofs.YtjkffgcikbkjeaaGreat

/- Contracts: fraction.Sub. -/
namespace Go.Proofs.YtjkffgcikbkjeaaGreat
open Go.RowKit

set_option maxRecDepth 100000 in
set_option maxHeartbeats 8000000 in
theorem fsub_any (w : World) (a b : Fa) (l k l' k' : List Nat) (ha : Fq w a l k) (hb : Fq w b l' k') :
    Calls Tryz.prog 94 #[.agg #[.slice a.A a.n a.c, .slice a.B a.m a.d], .agg #[.slice b.A b.n b.c, .slice b.B b.m b.d]] w fun e w' => Ret w (subR (fracOf l k) (fracOf l' k')) e w' := by
  have hn1 := ha.n
  have hn2 := ha.m
  have hn3 := hb.n
  have hn4 := hb.m
  rcases hA : fracOf l k with _ | r
  · have HA := hide hA
    clear hA
    go_enter Tryz.func94, Tryz.ntmps94
    go_upto_region 1 with (fail)
    generalize hW : World.alloc (World.alloc (World.alloc w _) _) _ = v
    have HFB := hide (show Fb w v a b _ _ _ _ by rw [← hW]; exact (Fb.mk0 ha hb _ _).below ((Below.refl _ _).alloc (Nat.le_refl _) _))
    have HRB := hide (show Rb v (w.heap.size + 2) by rw [← hW]; exact Rb.mk0 _ (by simp))
    obtain ⟨a0, a1, b0, b1⟩ := HFB.out.ca
    obtain ⟨r0, r1, rf, rz, -⟩ := HRB.out
    have hz := HFB.out.sz
    clear hW ha hb
    go_wp2_with (go_at_call 68; (with_reducible refine (fcheck_any _ a l k HFB.out.qa).mono ?_); rintro e w1 ⟨he, hb1⟩; rw [HA.out] at he; subst he; have HF1 := hide (HFB.out.below hb1); have HR1 := hide (HRB.out.below hb1); obtain ⟨c0, c1, c2, c3⟩ := HF1.out.ca; obtain ⟨x0, x1, x2, x3, -⟩ := HR1.out; clear hb1)
    refine bodyPost_ret (v := .tuple #[.agg #[.slice none 0 0, .slice none 0 0], .int .i64 1]) (by simp [results, Tryz.results94, go_sem, *]) rfl ⟨⟨none, 0, 0, none, 0, 0⟩, by rw [subR, opR_none_l], by rw [subR, opR_none_l]; exact Fo.nil _, Rb.end0 HF1.out.bw (by omega) _ _⟩
  · rcases hB : fracOf l' k' with _ | s
    · have HA := hide hA
      have HB := hide hB
      clear hA hB
      go_enter Tryz.func94, Tryz.ntmps94
      go_upto_region 1 with (fail)
      generalize hW : World.alloc (World.alloc (World.alloc w _) _) _ = v
      have HFB := hide (show Fb w v a b _ _ _ _ by rw [← hW]; exact (Fb.mk0 ha hb _ _).below ((Below.refl _ _).alloc (Nat.le_refl _) _))
      have HRB := hide (show Rb v (w.heap.size + 2) by rw [← hW]; exact Rb.mk0 _ (by simp))
      obtain ⟨a0, a1, b0, b1⟩ := HFB.out.ca
      obtain ⟨r0, r1, rf, rz, -⟩ := HRB.out
      have hz := HFB.out.sz
      clear hW ha hb
      go_wp2_with (first | (go_at_call 68; (with_reducible refine (fcheck_any _ a l k HFB.out.qa).mono ?_); rintro e w1 ⟨he, hb1⟩; rw [HA.out] at he; subst he; have HF1 := hide (HFB.out.below hb1); have HR1 := hide (HRB.out.below hb1); obtain ⟨c0, c1, c2, c3⟩ := HF1.out.ca; obtain ⟨x0, x1, x2, x3, -⟩ := HR1.out; clear hb1) | (go_at_call 68; (with_reducible refine (fcheck_any _ b l' k' HF1.out.qb).mono ?_); rintro e w2 ⟨he, hb2⟩; rw [HB.out] at he; subst he; have HF2 := hide (HF1.out.below hb2); have HR2 := hide (HR1.out.below hb2); obtain ⟨e0, e1, e2, e3⟩ := HF2.out.ca; obtain ⟨y0, y1, y2, y3, -⟩ := HR2.out; clear hb2))
      refine bodyPost_ret (v := .tuple #[.agg #[.slice none 0 0, .slice none 0 0], .int .i64 1]) (by simp [results, Tryz.results94, go_sem, *]) rfl ⟨⟨none, 0, 0, none, 0, 0⟩, by rw [subR, opR_none_r], by rw [subR, opR_none_r]; exact Fo.nil _, Rb.end0 HF2.out.bw (by omega) _ _⟩
    · have HA := hide hA
      have HB := hide hB
      obtain ⟨rfl, rfl, hr0, hr⟩ := fracOf_some hA
      obtain ⟨rfl, rfl, hs0, hs⟩ := fracOf_some hB
      obtain ⟨hz1, hz2⟩ := Fq.small ha hr
      obtain ⟨hz3, hz4⟩ := Fq.small hb hs
      clear hA hB
      by_cases hlt : r < s
      · have HX := hide (show subR (some r) (some s) = (none, 5) from if_pos hlt)
        have HC := hide (cmp_eq hr0 hs0)
        have hd0 : decide (cmpQ r s < 0) = true := decide_eq_true (cmpQ_neg.2 hlt)
        clear hlt
        go_enter Tryz.func94, Tryz.ntmps94
        go_upto_region 1 with (fail)
        generalize hW : World.alloc (World.alloc (World.alloc w _) _) _ = v
        have HFB := hide (show Fb w v a b _ _ _ _ by rw [← hW]; exact (Fb.mk0 ha hb _ _).below ((Below.refl _ _).alloc (Nat.le_refl _) _))
        have HRB := hide (show Rb v (w.heap.size + 2) by rw [← hW]; exact Rb.mk0 _ (by simp))
        obtain ⟨a0, a1, b0, b1⟩ := HFB.out.ca
        obtain ⟨r0, r1, rf, rz, -⟩ := HRB.out
        have hz := HFB.out.sz
        clear hW ha hb
        go_wp2_with (first
          | (go_at_call 68; (with_reducible refine (fcheck_any _ a _ _ HFB.out.qa).mono ?_); rintro e w1 ⟨he, hb1⟩; rw [HA.out] at he; subst he; have HF1 := hide (HFB.out.below hb1); have HR1 := hide (HRB.out.below hb1); obtain ⟨c0, c1, c2, c3⟩ := HF1.out.ca; obtain ⟨x0, x1, x2, x3, -⟩ := HR1.out; clear hb1)
          | (go_at_call 68; (with_reducible refine (fcheck_any _ b _ _ HF1.out.qb).mono ?_); rintro e w2 ⟨he, hb2⟩; rw [HB.out] at he; subst he; have HF2 := hide (HF1.out.below hb2); have HR2 := hide (HR1.out.below hb2); obtain ⟨e0, e1, e2, e3⟩ := HF2.out.ca; obtain ⟨y0, y1, y2, y3, -⟩ := HR2.out; clear hb2)
          | (go_at_call 72; (with_reducible refine (fcross_any _ a b r s hr hs HF2.out.qa HF2.out.qb).mono ?_); rintro e w3 ⟨A3, m3, d3, A4, m4, d4, rfl, h1, h2, h3, h4, hu3, hu4, hb3⟩; have HU3 := hide hu3; have HU4 := hide hu4; have HF3 := hide (HF2.out.below hb3); have HR3 := hide (HR2.out.below hb3); obtain ⟨z0, z1, z2, z3, -⟩ := HR3.out; clear hu3 hu4 hb3)
          | (go_at_call 71; refine (lcmp_any _ none none A3 m3 d3 A4 m4 d4 _ _ HU3.out HU4.out (by omega) (by omega)).mono ?_; rintro e w4 ⟨he, hd⟩; rw [HC.out] at he; subst he; have HF4 := hide (HF3.out.below hd.below); have HR4 := hide (HR3.out.below hd.below); obtain ⟨u0, u1, u2, u3, -⟩ := HR4.out; clear hd))
        refine bodyPost_ret (v := .tuple #[.agg #[.slice none 0 0, .slice none 0 0], .int .i64 5]) (by simp [results, Tryz.results94, go_sem, *]) rfl ⟨⟨none, 0, 0, none, 0, 0⟩, by rw [HX.out], by rw [HX.out]; exact Fo.nil _, Rb.end0 HF4.out.bw (by omega) _ _⟩
      · have HX := hide (show subR (some r) (some s) = limR (r - s) from if_neg hlt)
        have HC := hide (cmp_eq hr0 hs0)
        have hd0 : decide (cmpQ r s < 0) = false := decide_eq_false (fun h => hlt (cmpQ_neg.1 h))
        have HM := hide (mk_sub hr0 hs0 (Rat.not_lt.1 hlt))
        have hle := (le_iff_n hs0 hr0).1 (Rat.not_lt.1 hlt)
        have hdp : 0 < r.den * s.den := Nat.mul_pos r.den_pos s.den_pos
        clear hlt
        go_enter Tryz.func94, Tryz.ntmps94
        go_upto_region 1 with (fail)
        generalize hW : World.alloc (World.alloc (World.alloc w _) _) _ = v
        have HFB := hide (show Fb w v a b _ _ _ _ by rw [← hW]; exact (Fb.mk0 ha hb _ _).below ((Below.refl _ _).alloc (Nat.le_refl _) _))
        have HRB := hide (show Rb v (w.heap.size + 2) by rw [← hW]; exact Rb.mk0 _ (by simp))
        obtain ⟨a0, a1, b0, b1⟩ := HFB.out.ca
        obtain ⟨r0, r1, rf, rz, -⟩ := HRB.out
        have hz := HFB.out.sz
        clear hW ha hb
        go_upto_region 6 with (first
          | (go_at_call 68; (with_reducible refine (fcheck_any _ a _ _ HFB.out.qa).mono ?_); rintro e w1 ⟨he, hb1⟩; rw [HA.out] at he; subst he; have HF1 := hide (HFB.out.below hb1); have HR1 := hide (HRB.out.below hb1); obtain ⟨c0, c1, c2, c3⟩ := HF1.out.ca; obtain ⟨x0, x1, x2, x3, -⟩ := HR1.out; clear hb1)
          | (go_at_call 68; (with_reducible refine (fcheck_any _ b _ _ HF1.out.qb).mono ?_); rintro e w2 ⟨he, hb2⟩; rw [HB.out] at he; subst he; have HF2 := hide (HF1.out.below hb2); have HR2 := hide (HR1.out.below hb2); obtain ⟨e0, e1, e2, e3⟩ := HF2.out.ca; obtain ⟨y0, y1, y2, y3, -⟩ := HR2.out; clear hb2)
          | (go_at_call 72; (with_reducible refine (fcross_any _ a b r s hr hs HF2.out.qa HF2.out.qb).mono ?_); rintro e w3 ⟨A3, m3, d3, A4, m4, d4, rfl, h1, h2, h3, h4, hu3, hu4, hb3⟩; have HU3 := hide hu3; have HU4 := hide hu4; have HF3 := hide (HF2.out.below hb3); have HR3 := hide (HR2.out.below hb3); obtain ⟨z0, z1, z2, z3, -⟩ := HR3.out; clear hu3 hu4 hb3)
          | (go_at_call 71; refine (lcmp_any _ none none A3 m3 d3 A4 m4 d4 _ _ HU3.out HU4.out (by omega) (by omega)).mono ?_; rintro e w4 ⟨he, hd⟩; rw [HC.out] at he; subst he; have HU3b := hide (HU3.out.below hd.below); have HU4b := hide (HU4.out.below hd.below); have HF4 := hide (HF3.out.below hd.below); have HR4 := hide (HR3.out.below hd.below); obtain ⟨i0, i1, i2, i3⟩ := HF4.out.ca; obtain ⟨u0, u1, u2, u3, -⟩ := HR4.out; clear hd))
        go_region_held3 (fun W => (W.cell? ⟨w.heap.size, 0, none⟩ = some (.slice a.A a.n a.c) ∧ W.cell? ⟨w.heap.size, 1, none⟩ = some (.slice a.B a.m a.d) ∧ W.cell? ⟨w.heap.size + 1, 0, none⟩ = some (.slice b.A b.n b.c) ∧ W.cell? ⟨w.heap.size + 1, 1, none⟩ = some (.slice b.B b.m b.d))) (first | with_reducible exact keep_put (Nat.lt_succ_self _) k5 | with_reducible exact k5 | with_reducible exact k8 | with_reducible exact k7 | exact ⟨i0, i1, i2, i3⟩) (first
          | (go_at_call 114; (with_reducible refine (lsub_any _ none none A3 m3 d3 A4 m4 d4 _ _ (by first | exact HU3b.out | exact HU3b.out.drew) (by first | exact HU4b.out | exact HU4b.out.drew) (by omega) (by omega) hle).mono ?_); rintro e w7 ⟨A1, m1, d1, rfl, hd1, hu1, hb7⟩; have hl1 := lm_length_mono (Nat.sub_le (rn r * s.den) (rn s * r.den)); rw [hu1.len, HU3.out.len] at hl1; have HU1 := hide hu1; have HF7 := hide ((by first | exact HF4.out.below hb7 | exact HF4.out.drew.below hb7) : Fb w w7 a b _ _ _ _); have HR7 := hide ((by first | exact HR4.out.below hb7 | exact HR4.out.drew.below hb7) : Rb w7 (w.heap.size + 2)); have k7 := HF7.out.ca; have hm1 : m1 ≤ 1000 := (by omega); clear hu1 hb7 hl1)
          | (go_at_call 93; (with_reducible refine (lmul_any _ none none a.B a.m a.d b.B b.m b.d r.den s.den HF7.out.qa.v HF7.out.qb.v (by omega) (by omega)).mono ?_); rintro e w8 ⟨A2, m2, d2, rfl, hd2, hu2, hb4⟩; have HU2 := hide hu2; have HU1b := hide (HU1.out.below hb4); have HF8 := hide (HF7.out.below hb4); have HR8 := hide (HR7.out.below hb4); have k8 := HF8.out.ca; have hl2 := lm_length_mul r.den s.den; rw [hu2.len] at hl2; simp only [fitsR, Bool.and_eq_true, decide_eq_true_eq] at hr hs; have hm2 : m2 ≤ 1000 := (by omega); clear hu2 hb4 hl2)
          | (go_at_call 89; (with_reducible refine (fexact_any _ none none A1 m1 d1 A2 m2 d2 _ _ HU1b.out HU2.out hm1 hm2 hdp).mono ?_); rintro e w5 ⟨c, er, rfl, her, ho, hb5⟩; rw [HM.out] at her ho; have HER := her; have HO := ho; have HF5 := hide (HF8.out.below hb5); have HR5 := hide (HR8.out.below hb5); have k5 := HF5.out.ca; obtain ⟨q0, q1, q2, q3, -⟩ := HR5.out; clear her ho hb5))
        go_wp2_with fail
        refine bodyPost_ret (v := .tuple #[.agg #[.slice c.A c.n c.c, .slice c.B c.m c.d], .int .i64 er]) (by simp [results, Tryz.results94, go_sem, *]) rfl ⟨c, by rw [HX.out, ← HER.out], by rw [HX.out]; exact HO.out.put2 HR5.out.nb _ _ (by simp), Rb.end0 HF5.out.bw (by omega) _ _⟩
end Go.Proofs.YtjkffgcikbkjeaaGreat

/- Contracts: fraction.Make, Of, Pow. -/
namespace Go.Proofs.YtjkffgcikbkjeaaGreat
open Go.RowKit

/-- What Make returns. -/
def mkR (l k : List Nat) : Option Rat × Int := if natB l = true ∧ natB k = true then (if k = [] then (none, 4) else limR (mkRat (lv l) (lv k))) else (none, 1)
theorem Ret.mk0 {w v : World} {c : Fa} {x : Option Rat × Int} {er : Int} {g : Nat} (h1 : er = x.2) (h2 : Fo v c x.1) (hr : Rb v g) (hb : Below w.heap.size w v) (hg : w.heap.size ≤ g) :
    Ret w x (.returned (.tuple #[.agg #[.slice c.A c.n c.c, .slice c.B c.m c.d], .int .i64 er])) ((v.setCell ⟨g, 0, none⟩ (.slice c.A c.n c.c)).setCell ⟨g, 1, none⟩ (.slice c.B c.m c.d)) :=
  ⟨c, by rw [h1], h2.put2 hr.nb _ _ (by simp), Rb.end0 hb hg _ _⟩
theorem Ret.err0 {w v : World} {x : Option Rat × Int} {er : Int} {g : Nat} (h : x = (none, er)) (hr : Rb v g) (hb : Below w.heap.size w v) (hg : w.heap.size ≤ g) :
    Ret w x (.returned (.tuple #[.agg #[.slice none 0 0, .slice none 0 0], .int .i64 er])) ((v.setCell ⟨g, 0, none⟩ (.slice none 0 0)).setCell ⟨g, 1, none⟩ (.slice none 0 0)) := by
  subst h
  exact Ret.mk0 (c := ⟨none, 0, 0, none, 0, 0⟩) rfl (Fo.nil _) hr hb hg
set_option maxRecDepth 100000 in
set_option maxHeartbeats 8000000 in
theorem fmake_any (w : World) (A : Option Addr) (n c : Nat) (B : Option Addr) (m d : Nat) (l k : List Nat) (hU : Ul w none A n l) (hV : Ul w none B m k) (hn : n ≤ 1000) (hm : m ≤ 1000) :
    Calls Tryz.prog 66 #[.slice A n c, .slice B m d] w fun e w' => Ret w (mkR l k) e w' := by
  have hU0 := hU
  have hV0 := hV
  by_cases h1 : natB l = true ∧ natB k = true
  · obtain ⟨h1, h2⟩ := h1
    have HB := hide h1
    have HC := hide h2
    by_cases h0 : m = 0
    · have hk0 : k = [] := List.eq_nil_of_length_eq_zero (hV.len.trans h0)
      have HX := hide (show mkR l k = (none, 4) by unfold mkR; rw [if_pos ⟨h1, h2⟩, if_pos hk0])
      have d0 : ((m : Int) == 0) = true := by simp [h0]
      clear h0 h1 h2 hk0
      go_enter Tryz.func66, Tryz.ntmps66
      go_upto_region 1 with (fail)
      generalize hW : World.alloc w _ = v
      have HRB := hide (show Rb v w.heap.size by rw [← hW]; exact Rb.mk0 _ rfl)
      have HBV := hide (show Below w.heap.size w v by rw [← hW]; exact (Below.refl _ _).alloc (Nat.le_refl _) _)
      have HU := hide (show Ul v none A n l by rw [← hW]; exact hU.alloc _)
      have HV := hide (show Ul v none B m k by rw [← hW]; exact hV.alloc _)
      obtain ⟨r0, r1, rf, rz, -⟩ := HRB.out
      clear hW hU hV hU0 hV0
      go_wp2_with (first
        | (go_at_call 88; (with_reducible refine (ncheck_any _ none A n c l HU.out (by omega)).mono ?_); rintro e w' ⟨rfl, rfl⟩; rw [HB.out])
        | (go_at_call 88; (with_reducible refine (ncheck_any _ none B m d k HV.out (by omega)).mono ?_); rintro e w' ⟨rfl, rfl⟩; rw [HC.out]))
      refine bodyPost_ret (v := .tuple #[.agg #[.slice none 0 0, .slice none 0 0], .int .i64 4]) (by simp [results, Tryz.results66, go_sem, *]) rfl (Ret.err0 HX.out HRB.out HBV.out (Nat.le_refl _))
    · have d0 : ((m : Int) == 0) = false := by simp; omega
      have hk0 : k ≠ [] := by rintro rfl; exact h0 hV.len.symm
      have hl := (natB_iff.1 h1).2
      have hk := (natB_iff.1 h2).2
      have hkp : 0 < lv k := by
        rcases Nat.eq_zero_or_pos (lv k) with h | h
        · rw [h, lm_zero] at hk; exact absurd hk hk0
        · exact h
      have HX := hide (show mkR l k = limR (mkRat (lv l) (lv k)) by unfold mkR; rw [if_pos ⟨h1, h2⟩, if_neg hk0])
      have HL := hide hl
      have HK := hide hk
      clear h1 h2 hk0 hl hk
      go_enter Tryz.func66, Tryz.ntmps66
      go_upto_region 1 with (fail)
      generalize hW : World.alloc w _ = v
      have HRB := hide (show Rb v w.heap.size by rw [← hW]; exact Rb.mk0 _ rfl)
      have HBV := hide (show Below w.heap.size w v by rw [← hW]; exact (Below.refl _ _).alloc (Nat.le_refl _) _)
      have HU := hide (show Ul v none A n l by rw [← hW]; exact hU.alloc _)
      have HV := hide (show Ul v none B m k by rw [← hW]; exact hV.alloc _)
      obtain ⟨r0, r1, rf, rz, -⟩ := HRB.out
      clear hW hU hV hU0 hV0
      go_wp2_with (first
        | (go_at_call 88; (with_reducible refine (ncheck_any _ none A n c l HU.out (by omega)).mono ?_); rintro e w' ⟨rfl, rfl⟩; rw [HB.out])
        | (go_at_call 88; (with_reducible refine (ncheck_any _ none B m d k HV.out (by omega)).mono ?_); rintro e w' ⟨rfl, rfl⟩; rw [HC.out])
        | (go_at_call 89; refine (fexact_any _ none none A n c B m d (lv l) (lv k) (by rw [← HL.out]; exact HU.out) (by rw [← HK.out]; exact HV.out) hn hm hkp).mono ?_; rintro e w5 ⟨q, er, rfl, her, ho, hb5⟩; have HER := her; have HO := ho; have HB5 := hide (HBV.out.trans (hb5.mono HBV.out.size)); have HR5 := hide (HRB.out.below hb5); obtain ⟨z0, z1, z2, z3, -⟩ := HR5.out; clear her ho hb5))
      refine bodyPost_ret (v := .tuple #[.agg #[.slice q.A q.n q.c, .slice q.B q.m q.d], .int .i64 er]) (by simp [results, Tryz.results66, go_sem, *]) rfl (Ret.mk0 (by rw [HX.out]; exact HER.out) (by rw [HX.out]; exact HO.out) HR5.out HB5.out (Nat.le_refl _))
  · have HX := hide (show mkR l k = (none, 1) from if_neg h1)
    by_cases h2 : natB l = true
    · have HB := hide h2
      have HC := hide (show natB k = false from Bool.eq_false_iff.2 (fun h => h1 ⟨h2, h⟩))
      clear h1 h2
      go_enter Tryz.func66, Tryz.ntmps66
      go_upto_region 1 with (fail)
      generalize hW : World.alloc w _ = v
      have HRB := hide (show Rb v w.heap.size by rw [← hW]; exact Rb.mk0 _ rfl)
      have HBV := hide (show Below w.heap.size w v by rw [← hW]; exact (Below.refl _ _).alloc (Nat.le_refl _) _)
      have HU := hide (show Ul v none A n l by rw [← hW]; exact hU.alloc _)
      have HV := hide (show Ul v none B m k by rw [← hW]; exact hV.alloc _)
      obtain ⟨r0, r1, rf, rz, -⟩ := HRB.out
      clear hW hU hV hU0 hV0
      go_wp2_with (first
        | (go_at_call 88; (with_reducible refine (ncheck_any _ none A n c l HU.out (by omega)).mono ?_); rintro e w' ⟨rfl, rfl⟩; rw [HB.out])
        | (go_at_call 88; (with_reducible refine (ncheck_any _ none B m d k HV.out (by omega)).mono ?_); rintro e w' ⟨rfl, rfl⟩; rw [HC.out]))
      refine bodyPost_ret (v := .tuple #[.agg #[.slice none 0 0, .slice none 0 0], .int .i64 1]) (by simp [results, Tryz.results66, go_sem, *]) rfl (Ret.err0 HX.out HRB.out HBV.out (Nat.le_refl _))
    · have HB := hide (show natB l = false by simpa using h2)
      clear h1 h2
      go_enter Tryz.func66, Tryz.ntmps66
      go_upto_region 1 with (fail)
      generalize hW : World.alloc w _ = v
      have HRB := hide (show Rb v w.heap.size by rw [← hW]; exact Rb.mk0 _ rfl)
      have HBV := hide (show Below w.heap.size w v by rw [← hW]; exact (Below.refl _ _).alloc (Nat.le_refl _) _)
      have HU := hide (show Ul v none A n l by rw [← hW]; exact hU.alloc _)
      obtain ⟨r0, r1, rf, rz, -⟩ := HRB.out
      clear hW hU hV hU0 hV0
      go_wp2_with (go_at_call 88; (with_reducible refine (ncheck_any _ none A n c l HU.out (by omega)).mono ?_); rintro e w' ⟨rfl, rfl⟩; rw [HB.out])
      refine bodyPost_ret (v := .tuple #[.agg #[.slice none 0 0, .slice none 0 0], .int .i64 1]) (by simp [results, Tryz.results66, go_sem, *]) rfl (Ret.err0 HX.out HRB.out HBV.out (Nat.le_refl _))

theorem lm64 {x : Nat} (h : x < 18446744073709551616) : (lm x).length ≤ 2 := lm_length_le.2 (by omega)
theorem natB64 {x : Nat} (h : x < 18446744073709551616) : natB (lm x) = true := by
  rw [natB_lm]; have := lm64 h; simp; omega
theorem fits64 {x y : Nat} (hx : x < 18446744073709551616) (hy : y < 18446744073709551616) (h0 : 0 < y) : fitsR (mkRat x y) = true := by
  unfold fitsR
  rw [mk_num x y h0, mk_den x y h0]
  have h1 := lm64 (Nat.lt_of_le_of_lt (Nat.div_le_self x (Nat.gcd x y)) hx)
  have h2 := lm64 (Nat.lt_of_le_of_lt (Nat.div_le_self y (Nat.gcd x y)) hy)
  simp; omega
theorem mkR_64 {x y : Nat} (hx : x < 18446744073709551616) (hy : y < 18446744073709551616) (h0 : 0 < y) : mkR (lm x) (lm y) = (some (mkRat x y), 0) := by
  unfold mkR
  rw [if_pos ⟨natB64 hx, natB64 hy⟩, if_neg (fun h => by have := lm_eq_nil.1 h; omega), lv_lm, lv_lm, limR_fit (fits64 hx hy h0)]
set_option maxRecDepth 100000 in
set_option maxHeartbeats 8000000 in
theorem fof_any (w : World) (x y : Nat) (hx : x < 9223372036854775808) (hy : y < 9223372036854775808) (h0 : 0 < y) :
    Calls Tryz.prog 52 #[.int .i64 (x : Int), .int .i64 (y : Int)] w fun e w' => Ret w (some (mkRat x y), 0) e w' := by
  have HM := hide (mkR_64 (x := x) (y := y) (by omega) (by omega) h0)
  have hw1 : IntKind.u64.wrap (x : Int) = (x : Int) := by
    show (x : Int) % 18446744073709551616 = x
    omega
  have hw2 : IntKind.u64.wrap (y : Int) = (y : Int) := by
    show (y : Int) % 18446744073709551616 = y
    omega
  go_enter Tryz.func52, Tryz.ntmps52
  go_upto_region 1 with (fail)
  generalize hW : World.alloc w _ = v
  have HRB := hide (show Rb v w.heap.size by rw [← hW]; exact Rb.mk0 _ rfl)
  have HBV := hide (show Below w.heap.size w v by rw [← hW]; exact (Below.refl _ _).alloc (Nat.le_refl _) _)
  obtain ⟨r0, r1, rf, rz, -⟩ := HRB.out
  clear hW
  go_wp2_with (first
    | (go_at_call 67; (with_reducible refine (nof_any _ x (by omega)).mono ?_); rintro e w1 ⟨A, m, c, rfl, h1, h2, hu, hb⟩; have HU1 := hide hu; have HB1 := hide hb; clear hu hb)
    | (go_at_call 67; (with_reducible refine (nof_any _ y (by omega)).mono ?_); rintro e w2 ⟨A2, m2, c2, rfl, h3, h4, hu, hb⟩; have HU2 := hide hu; have HU1b := hide (HU1.out.below hb); have HR2 := hide ((HRB.out.below HB1.out).below hb); have HB2 := hide ((HBV.out.trans (HB1.out.mono HBV.out.size)).trans (hb.mono (Nat.le_trans HBV.out.size HB1.out.size))); clear hu hb)
    | (go_at_call 66; (with_reducible refine (fmake_any _ A m c A2 m2 c2 _ _ HU1b.out HU2.out (by omega) (by omega)).mono ?_); rintro e w5 ⟨q, rfl, ho, hb5⟩; rw [HM.out] at ho; have HO := hide ho; have HB5 := hide (HB2.out.trans (hb5.mono HB2.out.size)); have HR5 := hide (HR2.out.below hb5); obtain ⟨z0, z1, z2, z3, -⟩ := HR5.out; clear ho hb5))
  have HX := hide (show (mkR (lm x) (lm y)).2 = 0 by rw [HM.out])
  refine bodyPost_ret (v := .tuple #[.agg #[.slice q.A q.n q.c, .slice q.B q.m q.d], .int .i64 (mkR (lm x) (lm y)).2]) (by simp [results, Tryz.results52, go_sem, *]) rfl (Ret.mk0 (by rw [HX.out]) HO.out HR5.out HB5.out (Nat.le_refl _))
end Go.Proofs.YtjkffgcikbkjeaaGreat
