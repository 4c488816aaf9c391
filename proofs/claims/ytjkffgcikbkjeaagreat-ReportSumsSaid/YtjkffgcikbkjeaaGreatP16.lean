/- Contracts of the functions that these laws reach: part 16: Contracts: the reference's fractions: Sub, Mul; Contracts: the reference's fractions: Pow; Contracts: Div, the program's and the reference's; Contract: the reference's Div; Plain model of the sequential tests: specifications, ratios, decisions; Contracts: sequential.whole, other; Plain laws of the sequential tests: the ratio grows with the failures; limits; runs. -/
import Derived.Test.YtjkffgcikbkjeaaGreatP15
import Derived.Test.YtjkffgcikbkjeaaGreatP10
set_option linter.unusedVariables false
set_option linter.unusedSimpArgs false

/- Contracts: the reference's fractions: Sub, Mul. -/
namespace Go.Proofs.YtjkffgcikbkjeaaGreat
open Go.RowKit

set_option maxRecDepth 100000 in
set_option maxHeartbeats 8000000 in
theorem r2mul_any (w : World) (a b : Fa) (l k l' k' : List Nat) (ha : Fq w a l k) (hb : Fq w b l' k') :
    Calls Tryz.prog 120 #[.agg #[.slice a.A a.n a.c, .slice a.B a.m a.d], .agg #[.slice b.A b.n b.c, .slice b.B b.m b.d]] w fun e w' => Ret w (mulR (fracOf l k) (fracOf l' k')) e w' := by
  have hn1 := ha.n
  have hn2 := ha.m
  have hn3 := hb.n
  have hn4 := hb.m
  rcases hA : fracOf l k with _ | r
  · have HA := hide hA
    clear hA
    go_enter Tryz.func120, Tryz.ntmps120
    go_upto_region 1 with (fail)
    generalize hW : World.alloc (World.alloc (World.alloc w _) _) _ = v
    have HFB := hide (show Fb w v a b _ _ _ _ by rw [← hW]; exact (Fb.mk0 ha hb _ _).below ((Below.refl _ _).alloc (Nat.le_refl _) _))
    have HRB := hide (show Rb v (w.heap.size + 2) by rw [← hW]; exact Rb.mk0 _ (by simp))
    obtain ⟨a0, a1, b0, b1⟩ := HFB.out.ca
    obtain ⟨r0, r1, rf, rz, -⟩ := HRB.out
    have hz := HFB.out.sz
    clear hW ha hb
    go_wp2_with ((go_at_call 86; (with_reducible refine (r2check_any _ a l k HFB.out.qa).mono ?_); rintro e w1 ⟨he, hb1⟩; rw [HA.out] at he; subst he; have HF1 := hide (HFB.out.below hb1); have HR1 := hide (HRB.out.below hb1); obtain ⟨c0, c1, c2, c3⟩ := HF1.out.ca; obtain ⟨x0, x1, x2, x3, -⟩ := HR1.out; clear hb1))
    refine bodyPost_ret (v := .tuple #[.agg #[.slice none 0 0, .slice none 0 0], .int .i64 1]) (by simp [results, Tryz.results120, go_sem, *]) rfl ⟨⟨none, 0, 0, none, 0, 0⟩, by rw [mulR, opR_none_l], by rw [mulR, opR_none_l]; exact Fo.nil _, Rb.end0 HF1.out.bw (by omega) _ _⟩
  rcases hB : fracOf l' k' with _ | s
  · have HA := hide hA
    have HB := hide hB
    clear hA hB
    go_enter Tryz.func120, Tryz.ntmps120
    go_upto_region 1 with (fail)
    generalize hW : World.alloc (World.alloc (World.alloc w _) _) _ = v
    have HFB := hide (show Fb w v a b _ _ _ _ by rw [← hW]; exact (Fb.mk0 ha hb _ _).below ((Below.refl _ _).alloc (Nat.le_refl _) _))
    have HRB := hide (show Rb v (w.heap.size + 2) by rw [← hW]; exact Rb.mk0 _ (by simp))
    obtain ⟨a0, a1, b0, b1⟩ := HFB.out.ca
    obtain ⟨r0, r1, rf, rz, -⟩ := HRB.out
    have hz := HFB.out.sz
    clear hW ha hb
    go_wp2_with (first | (go_at_call 86; (with_reducible refine (r2check_any _ a l k HFB.out.qa).mono ?_); rintro e w1 ⟨he, hb1⟩; rw [HA.out] at he; subst he; have HF1 := hide (HFB.out.below hb1); have HR1 := hide (HRB.out.below hb1); obtain ⟨c0, c1, c2, c3⟩ := HF1.out.ca; obtain ⟨x0, x1, x2, x3, -⟩ := HR1.out; clear hb1) | (go_at_call 86; (with_reducible refine (r2check_any _ b l' k' HF1.out.qb).mono ?_); rintro e w2 ⟨he, hb2⟩; rw [HB.out] at he; subst he; have HF2 := hide (HF1.out.below hb2); have HR2 := hide (HR1.out.below hb2); obtain ⟨e0, e1, e2, e3⟩ := HF2.out.ca; obtain ⟨y0, y1, y2, y3, -⟩ := HR2.out; clear hb2))
    refine bodyPost_ret (v := .tuple #[.agg #[.slice none 0 0, .slice none 0 0], .int .i64 1]) (by simp [results, Tryz.results120, go_sem, *]) rfl ⟨⟨none, 0, 0, none, 0, 0⟩, by rw [mulR, opR_none_r], by rw [mulR, opR_none_r]; exact Fo.nil _, Rb.end0 HF2.out.bw (by omega) _ _⟩
  have HA := hide hA
  have HB := hide hB
  obtain ⟨rfl, rfl, hr0, hr⟩ := fracOf_some hA
  obtain ⟨rfl, rfl, hs0, hs⟩ := fracOf_some hB
  obtain ⟨hz1, hz2⟩ := Fq.small ha hr
  obtain ⟨hz3, hz4⟩ := Fq.small hb hs
  clear hA hB
  have HX := hide (show mulR (some r) (some s) = limR (r * s) from rfl)
  have hrs : 0 ≤ r * s := Rat.mul_nonneg hr0 hs0
  have HM := hide (mk_mul hr0 hs0)
  have hdp : 0 < r.den * s.den := Nat.mul_pos r.den_pos s.den_pos
  obtain ⟨hL1, hL2⟩ := fits_len hr
  obtain ⟨hL3, hL4⟩ := fits_len hs
  go_enter Tryz.func120, Tryz.ntmps120
  go_upto_region 1 with (fail)
  generalize hW : World.alloc (World.alloc (World.alloc w _) _) _ = v
  have HFB := hide (show Fb w v a b _ _ _ _ by rw [← hW]; exact (Fb.mk0 ha hb _ _).below ((Below.refl _ _).alloc (Nat.le_refl _) _))
  have HRB := hide (show Rb v (w.heap.size + 2) by rw [← hW]; exact Rb.mk0 _ (by simp))
  obtain ⟨a0, a1, b0, b1⟩ := HFB.out.ca
  obtain ⟨r0, r1, rf, rz, -⟩ := HRB.out
  have hz := HFB.out.sz
  clear hW ha hb
  go_upto_region 3 with (first | (go_at_call 86; (with_reducible refine (r2check_any _ a _ _ HFB.out.qa).mono ?_); rintro e w1 ⟨he, hb1⟩; rw [HA.out] at he; subst he; have HF1 := hide (HFB.out.below hb1); have HR1 := hide (HRB.out.below hb1); obtain ⟨c0, c1, c2, c3⟩ := HF1.out.ca; obtain ⟨x0, x1, x2, x3, -⟩ := HR1.out; clear hb1) | (go_at_call 86; (with_reducible refine (r2check_any _ b _ _ HF1.out.qb).mono ?_); rintro e w2 ⟨he, hb2⟩; rw [HB.out] at he; subst he; have HF2 := hide (HF1.out.below hb2); have HR2 := hide (HR1.out.below hb2); obtain ⟨e0, e1, e2, e3⟩ := HF2.out.ca; obtain ⟨y0, y1, y2, y3, -⟩ := HR2.out; clear hb2))
  go_region_held3 (fun W => (W.cell? ⟨w.heap.size, 0, none⟩ = some (.slice a.A a.n a.c) ∧ W.cell? ⟨w.heap.size, 1, none⟩ = some (.slice a.B a.m a.d) ∧ W.cell? ⟨w.heap.size + 1, 0, none⟩ = some (.slice b.A b.n b.c) ∧ W.cell? ⟨w.heap.size + 1, 1, none⟩ = some (.slice b.B b.m b.d))) (first | with_reducible exact keep_put (Nat.lt_succ_self _) k5 | with_reducible exact k5 | with_reducible exact k8 | with_reducible exact k4 | with_reducible exact k3 | exact ⟨e0, e1, e2, e3⟩) (first
    | (go_at_call 107; (with_reducible refine (r1times_any _ none none a.A a.n a.c b.A b.n b.c (rn r) (rn s) (by first | exact HF2.out.qa.u | exact HF2.out.drew.qa.u) (by first | exact HF2.out.qb.u | exact HF2.out.drew.qb.u) (by omega) (by omega)).mono ?_); rintro e w3 ⟨A1, m1, d1, rfl, hd1, hu1, hb3⟩; have hl1 := lm_length_mul (rn r) (rn s); rw [hu1.len] at hl1; have hM1 : m1 ≤ 256 := (by omega); have HU1 := hide hu1; have HF3 := hide ((by first | exact HF2.out.below hb3 | exact HF2.out.drew.below hb3) : Fb w w3 a b _ _ _ _); have HR3 := hide ((by first | exact HR2.out.below hb3 | exact HR2.out.drew.below hb3) : Rb w3 (w.heap.size + 2)); have k3 := HF3.out.ca; clear hu1 hb3)
    | (go_at_call 107; (with_reducible refine (r1times_any _ none none a.B a.m a.d b.B b.m b.d r.den s.den HF3.out.qa.v HF3.out.qb.v (by omega) (by omega)).mono ?_); rintro e w4 ⟨A2, m2, d2, rfl, hd2, hu2, hb4⟩; have hl2 := lm_length_mul r.den s.den; rw [hu2.len] at hl2; have hM2 : m2 ≤ 256 := (by omega); have HU2 := hide hu2; have HU1b := hide (HU1.out.below hb4); have HF4 := hide (HF3.out.below hb4); have HR4 := hide (HR3.out.below hb4); have k4 := HF4.out.ca; clear hu2 hb4)
    | (go_at_call 123; (with_reducible refine (r2lowest_any _ none none A1 m1 d1 A2 m2 d2 _ _ HU1b.out HU2.out (by omega) (by omega) hdp).mono ?_); rintro e w8 ⟨c, rfl, ho, hb5⟩; rw [HM.out] at ho; have HO3 := hide ho; have HF8 := hide (HF4.out.below hb5); have HR8 := hide (HR4.out.below hb5); have k8 := HF8.out.ca; clear ho hb5)
    | (go_at_call 121; (with_reducible refine (r2limited_any _ c (r * s) hrs HO3.out).mono ?_); rintro e w9 ⟨q, rfl, ho, hb5⟩; rw [← HX.out] at ho; have HO := hide ho; have HF5 := hide (HF8.out.below hb5); have HR5 := hide (HR8.out.below hb5); have k5 := HF5.out.ca; obtain ⟨q0, q1, q2, q3, -⟩ := HR5.out; clear ho hb5))
  go_wp2_with fail
  refine bodyPost_ret (v := .tuple #[.agg #[.slice q.A q.n q.c, .slice q.B q.m q.d], .int .i64 (limR (r * s)).2]) (by simp [results, Tryz.results120, go_sem, *]) rfl ⟨q, by rw [HX.out], HO.out.put2 HR5.out.nb _ _ (by simp), Rb.end0 HF5.out.bw (by omega) _ _⟩
set_option maxRecDepth 100000 in
set_option maxHeartbeats 8000000 in
theorem r2sub_any (w : World) (a b : Fa) (l k l' k' : List Nat) (ha : Fq w a l k) (hb : Fq w b l' k') :
    Calls Tryz.prog 137 #[.agg #[.slice a.A a.n a.c, .slice a.B a.m a.d], .agg #[.slice b.A b.n b.c, .slice b.B b.m b.d]] w fun e w' => Ret w (subR (fracOf l k) (fracOf l' k')) e w' := by
  have hn1 := ha.n
  have hn2 := ha.m
  have hn3 := hb.n
  have hn4 := hb.m
  rcases hA : fracOf l k with _ | r
  · have HA := hide hA
    clear hA
    go_enter Tryz.func137, Tryz.ntmps137
    go_upto_region 1 with (fail)
    generalize hW : World.alloc (World.alloc (World.alloc w _) _) _ = v
    have HFB := hide (show Fb w v a b _ _ _ _ by rw [← hW]; exact (Fb.mk0 ha hb _ _).below ((Below.refl _ _).alloc (Nat.le_refl _) _))
    have HRB := hide (show Rb v (w.heap.size + 2) by rw [← hW]; exact Rb.mk0 _ (by simp))
    obtain ⟨a0, a1, b0, b1⟩ := HFB.out.ca
    obtain ⟨r0, r1, rf, rz, -⟩ := HRB.out
    have hz := HFB.out.sz
    clear hW ha hb
    go_wp2_with ((go_at_call 86; (with_reducible refine (r2check_any _ a l k HFB.out.qa).mono ?_); rintro e w1 ⟨he, hb1⟩; rw [HA.out] at he; subst he; have HF1 := hide (HFB.out.below hb1); have HR1 := hide (HRB.out.below hb1); obtain ⟨c0, c1, c2, c3⟩ := HF1.out.ca; obtain ⟨x0, x1, x2, x3, -⟩ := HR1.out; clear hb1))
    refine bodyPost_ret (v := .tuple #[.agg #[.slice none 0 0, .slice none 0 0], .int .i64 1]) (by simp [results, Tryz.results137, go_sem, *]) rfl ⟨⟨none, 0, 0, none, 0, 0⟩, by rw [subR, opR_none_l], by rw [subR, opR_none_l]; exact Fo.nil _, Rb.end0 HF1.out.bw (by omega) _ _⟩
  rcases hB : fracOf l' k' with _ | s
  · have HA := hide hA
    have HB := hide hB
    clear hA hB
    go_enter Tryz.func137, Tryz.ntmps137
    go_upto_region 1 with (fail)
    generalize hW : World.alloc (World.alloc (World.alloc w _) _) _ = v
    have HFB := hide (show Fb w v a b _ _ _ _ by rw [← hW]; exact (Fb.mk0 ha hb _ _).below ((Below.refl _ _).alloc (Nat.le_refl _) _))
    have HRB := hide (show Rb v (w.heap.size + 2) by rw [← hW]; exact Rb.mk0 _ (by simp))
    obtain ⟨a0, a1, b0, b1⟩ := HFB.out.ca
    obtain ⟨r0, r1, rf, rz, -⟩ := HRB.out
    have hz := HFB.out.sz
    clear hW ha hb
    go_wp2_with (first | (go_at_call 86; (with_reducible refine (r2check_any _ a l k HFB.out.qa).mono ?_); rintro e w1 ⟨he, hb1⟩; rw [HA.out] at he; subst he; have HF1 := hide (HFB.out.below hb1); have HR1 := hide (HRB.out.below hb1); obtain ⟨c0, c1, c2, c3⟩ := HF1.out.ca; obtain ⟨x0, x1, x2, x3, -⟩ := HR1.out; clear hb1) | (go_at_call 86; (with_reducible refine (r2check_any _ b l' k' HF1.out.qb).mono ?_); rintro e w2 ⟨he, hb2⟩; rw [HB.out] at he; subst he; have HF2 := hide (HF1.out.below hb2); have HR2 := hide (HR1.out.below hb2); obtain ⟨e0, e1, e2, e3⟩ := HF2.out.ca; obtain ⟨y0, y1, y2, y3, -⟩ := HR2.out; clear hb2))
    refine bodyPost_ret (v := .tuple #[.agg #[.slice none 0 0, .slice none 0 0], .int .i64 1]) (by simp [results, Tryz.results137, go_sem, *]) rfl ⟨⟨none, 0, 0, none, 0, 0⟩, by rw [subR, opR_none_r], by rw [subR, opR_none_r]; exact Fo.nil _, Rb.end0 HF2.out.bw (by omega) _ _⟩
  have HA := hide hA
  have HB := hide hB
  obtain ⟨rfl, rfl, hr0, hr⟩ := fracOf_some hA
  obtain ⟨rfl, rfl, hs0, hs⟩ := fracOf_some hB
  obtain ⟨hz1, hz2⟩ := Fq.small ha hr
  obtain ⟨hz3, hz4⟩ := Fq.small hb hs
  clear hA hB
  by_cases hlt : r < s
  · have HX := hide (show subR (some r) (some s) = (none, 5) from if_pos hlt)
    have hd0 : decide (cmpQ r s < 0) = true := decide_eq_true (cmpQ_neg.2 hlt)
    clear hlt
    go_enter Tryz.func137, Tryz.ntmps137
    go_upto_region 1 with (fail)
    generalize hW : World.alloc (World.alloc (World.alloc w _) _) _ = v
    have HFB := hide (show Fb w v a b _ _ _ _ by rw [← hW]; exact (Fb.mk0 ha hb _ _).below ((Below.refl _ _).alloc (Nat.le_refl _) _))
    have HRB := hide (show Rb v (w.heap.size + 2) by rw [← hW]; exact Rb.mk0 _ (by simp))
    obtain ⟨a0, a1, b0, b1⟩ := HFB.out.ca
    obtain ⟨r0, r1, rf, rz, -⟩ := HRB.out
    have hz := HFB.out.sz
    clear hW ha hb
    go_wp2_with (first
      | (go_at_call 86; (with_reducible refine (r2check_any _ a _ _ HFB.out.qa).mono ?_); rintro e w1 ⟨he, hb1⟩; rw [HA.out] at he; subst he; have HF1 := hide (HFB.out.below hb1); have HR1 := hide (HRB.out.below hb1); obtain ⟨c0, c1, c2, c3⟩ := HF1.out.ca; obtain ⟨x0, x1, x2, x3, -⟩ := HR1.out; clear hb1)
      | (go_at_call 86; (with_reducible refine (r2check_any _ b _ _ HF1.out.qb).mono ?_); rintro e w2 ⟨he, hb2⟩; rw [HB.out] at he; subst he; have HF2 := hide (HF1.out.below hb2); have HR2 := hide (HR1.out.below hb2); obtain ⟨e0, e1, e2, e3⟩ := HF2.out.ca; obtain ⟨y0, y1, y2, y3, -⟩ := HR2.out; clear hb2)
      | (go_at_call 87; refine (r2order_any _ a b r s hr0 hs0 hr hs HF2.out.qa HF2.out.qb).mono ?_; rintro e w4 ⟨rfl, hd⟩; have HF4 := hide (HF2.out.below hd); have HR4 := hide (HR2.out.below hd); obtain ⟨u0, u1, u2, u3, -⟩ := HR4.out; clear hd))
    refine bodyPost_ret (v := .tuple #[.agg #[.slice none 0 0, .slice none 0 0], .int .i64 5]) (by simp [results, Tryz.results137, go_sem, *]) rfl ⟨⟨none, 0, 0, none, 0, 0⟩, by rw [HX.out], by rw [HX.out]; exact Fo.nil _, Rb.end0 HF4.out.bw (by omega) _ _⟩
  · have HX := hide (show subR (some r) (some s) = limR (r - s) from if_neg hlt)
    have hd0 : decide (cmpQ r s < 0) = false := decide_eq_false (fun h => hlt (cmpQ_neg.1 h))
    have HM := hide (mk_sub hr0 hs0 (Rat.not_lt.1 hlt))
    have hle := (le_iff_n hs0 hr0).1 (Rat.not_lt.1 hlt)
    have hrs : 0 ≤ r - s := by rw [← HM.out]; exact mk_nonneg _ _
    have hdp : 0 < r.den * s.den := Nat.mul_pos r.den_pos s.den_pos
    obtain ⟨hL1, hL2⟩ := fits_len hr
    obtain ⟨hL3, hL4⟩ := fits_len hs
    clear hlt
    go_enter Tryz.func137, Tryz.ntmps137
    go_upto_region 1 with (fail)
    generalize hW : World.alloc (World.alloc (World.alloc w _) _) _ = v
    have HFB := hide (show Fb w v a b _ _ _ _ by rw [← hW]; exact (Fb.mk0 ha hb _ _).below ((Below.refl _ _).alloc (Nat.le_refl _) _))
    have HRB := hide (show Rb v (w.heap.size + 2) by rw [← hW]; exact Rb.mk0 _ (by simp))
    obtain ⟨a0, a1, b0, b1⟩ := HFB.out.ca
    obtain ⟨r0, r1, rf, rz, -⟩ := HRB.out
    have hz := HFB.out.sz
    clear hW ha hb
    go_upto_region 5 with (first
      | (go_at_call 86; (with_reducible refine (r2check_any _ a _ _ HFB.out.qa).mono ?_); rintro e w1 ⟨he, hb1⟩; rw [HA.out] at he; subst he; have HF1 := hide (HFB.out.below hb1); have HR1 := hide (HRB.out.below hb1); obtain ⟨c0, c1, c2, c3⟩ := HF1.out.ca; obtain ⟨x0, x1, x2, x3, -⟩ := HR1.out; clear hb1)
      | (go_at_call 86; (with_reducible refine (r2check_any _ b _ _ HF1.out.qb).mono ?_); rintro e w2 ⟨he, hb2⟩; rw [HB.out] at he; subst he; have HF2 := hide (HF1.out.below hb2); have HR2 := hide (HR1.out.below hb2); obtain ⟨e0, e1, e2, e3⟩ := HF2.out.ca; obtain ⟨y0, y1, y2, y3, -⟩ := HR2.out; clear hb2)
      | (go_at_call 87; refine (r2order_any _ a b r s hr0 hs0 hr hs HF2.out.qa HF2.out.qb).mono ?_; rintro e w4 ⟨rfl, hd⟩; have HF4 := hide (HF2.out.below hd); have HR4 := hide (HR2.out.below hd); obtain ⟨i0, i1, i2, i3⟩ := HF4.out.ca; obtain ⟨u0, u1, u2, u3, -⟩ := HR4.out; clear hd))
    go_region_held3 (fun W => (W.cell? ⟨w.heap.size, 0, none⟩ = some (.slice a.A a.n a.c) ∧ W.cell? ⟨w.heap.size, 1, none⟩ = some (.slice a.B a.m a.d) ∧ W.cell? ⟨w.heap.size + 1, 0, none⟩ = some (.slice b.A b.n b.c) ∧ W.cell? ⟨w.heap.size + 1, 1, none⟩ = some (.slice b.B b.m b.d))) (first | with_reducible exact keep_put (Nat.lt_succ_self _) k5 | with_reducible exact k5 | with_reducible exact k8 | with_reducible exact k4 | with_reducible exact k3 | with_reducible exact k2 | with_reducible exact k1 | exact ⟨i0, i1, i2, i3⟩) (first
      | (go_at_call 107; (with_reducible refine (r1times_any _ none none a.A a.n a.c b.B b.m b.d (rn r) s.den (by first | exact HF4.out.qa.u | exact HF4.out.drew.qa.u) (by first | exact HF4.out.qb.v | exact HF4.out.drew.qb.v) (by omega) (by omega)).mono ?_); rintro e w5 ⟨A1, m1, c1, rfl, hc1, hu1, hb1⟩; have hl1 := lm_length_mul (rn r) s.den; rw [hu1.len] at hl1; have hM1 : m1 ≤ 256 := (by omega); have HU1 := hide hu1; have HG1 := hide ((by first | exact HF4.out.below hb1 | exact HF4.out.drew.below hb1) : Fb w w5 a b _ _ _ _); have HS1 := hide ((by first | exact HR4.out.below hb1 | exact HR4.out.drew.below hb1) : Rb w5 (w.heap.size + 2)); have k1 := HG1.out.ca; clear hu1 hb1)
      | (go_at_call 107; (with_reducible refine (r1times_any _ none none b.A b.n b.c a.B a.m a.d (rn s) r.den (by first | exact HG1.out.qb.u | exact HG1.out.drew.qb.u) (by first | exact HG1.out.qa.v | exact HG1.out.drew.qa.v) (by omega) (by omega)).mono ?_); rintro e w6 ⟨A2, m2, c2, rfl, hc2, hu2, hb2⟩; have hl2 := lm_length_mul (rn s) r.den; rw [hu2.len] at hl2; have hM2 : m2 ≤ 256 := (by omega); have HU2 := hide hu2; have HU1b := hide (HU1.out.below hb2); have HG2 := hide (HG1.out.below hb2); have HS2 := hide (HS1.out.below hb2); have k2 := HG2.out.ca; clear hu2 hb2)
      | (go_at_call 141; (with_reducible refine (r1minus_any _ none none A1 m1 c1 A2 m2 c2 _ _ HU1b.out HU2.out (by omega) (by omega) hle).mono ?_); rintro e w7 ⟨A3, m3, c3, rfl, hc3, hu3, hb3⟩; have hl3 := lm_length_mono (Nat.sub_le (rn r * s.den) (rn s * r.den)); rw [hu3.len, HU1b.out.len] at hl3; have HU3 := hide hu3; have HG3 := hide (HG2.out.below hb3); have HS3 := hide (HS2.out.below hb3); have k3 := HG3.out.ca; clear hu3 hb3)
      | (go_at_call 107; (with_reducible refine (r1times_any _ none none a.B a.m a.d b.B b.m b.d r.den s.den HG3.out.qa.v HG3.out.qb.v (by omega) (by omega)).mono ?_); rintro e w10 ⟨A4, m4, c4, rfl, hc4, hu4, hb4⟩; have hl4 := lm_length_mul r.den s.den; rw [hu4.len] at hl4; have hM4 : m4 ≤ 256 := (by omega); have HU4 := hide hu4; have HU3b := hide (HU3.out.below hb4); have HG4 := hide (HG3.out.below hb4); have HS4 := hide (HS3.out.below hb4); have k4 := HG4.out.ca; clear hu4 hb4)
      | (go_at_call 123; (with_reducible refine (r2lowest_any _ none none A3 m3 c3 A4 m4 c4 _ _ HU3b.out HU4.out (by omega) (by omega) hdp).mono ?_); rintro e w8 ⟨c, rfl, ho, hb5⟩; rw [HM.out] at ho; have HO3 := hide ho; have HF8 := hide (HG4.out.below hb5); have HR8 := hide (HS4.out.below hb5); have k8 := HF8.out.ca; clear ho hb5)
      | (go_at_call 121; (with_reducible refine (r2limited_any _ c (r - s) hrs HO3.out).mono ?_); rintro e w9 ⟨q, rfl, ho, hb5⟩; rw [← HX.out] at ho; have HO := hide ho; have HF5 := hide (HF8.out.below hb5); have HR5 := hide (HR8.out.below hb5); have k5 := HF5.out.ca; obtain ⟨q0, q1, q2, q3, -⟩ := HR5.out; clear ho hb5))
    go_wp2_with fail
    refine bodyPost_ret (v := .tuple #[.agg #[.slice q.A q.n q.c, .slice q.B q.m q.d], .int .i64 (limR (r - s)).2]) (by simp [results, Tryz.results137, go_sem, *]) rfl ⟨q, by rw [HX.out], HO.out.put2 HR5.out.nb _ _ (by simp), Rb.end0 HF5.out.bw (by omega) _ _⟩
end Go.Proofs.YtjkffgcikbkjeaaGreat

/- Contracts: the reference's fractions: Pow. -/
namespace Go.Proofs.YtjkffgcikbkjeaaGreat
open Go.RowKit

theorem r1pow_yes (w : World) (av : Option Nat) (A : Option Addr) (n c : Nat) (a k : Nat) (hU : Ul w av A n (lm a)) (hn : n ≤ 128) (hk : k ≤ 65536) (h : (lm (a ^ k)).length ≤ 128) :
    Calls Tryz.prog 136 #[.slice A n c, .int .i64 (k : Int)] w fun e w' => ∃ A' m' c', e = .returned (.tuple #[.slice A' m' c', .int .i64 0]) ∧ m' ≤ c' ∧ m' ≤ 1000 ∧ Ul w' none A' m' (lm (a ^ k)) ∧ Below w.heap.size w w' := by
  refine (r1pow_any w av A n c a k hU hn hk).mono ?_
  rintro e w' ⟨A', m', c', ok, rfl, hc, hok, hu, hb⟩
  obtain rfl : ok = true := by rw [hok.out]; exact decide_eq_true h
  rw [if_pos rfl] at hu ⊢
  exact ⟨A', m', c', rfl, hc, by rw [← hu.len]; omega, hu, hb⟩
theorem r1pow_no (w : World) (av : Option Nat) (A : Option Addr) (n c : Nat) (a k : Nat) (hU : Ul w av A n (lm a)) (hn : n ≤ 128) (hk : k ≤ 65536) (h : ¬ (lm (a ^ k)).length ≤ 128) :
    Calls Tryz.prog 136 #[.slice A n c, .int .i64 (k : Int)] w fun e w' => ∃ A' m' c', e = .returned (.tuple #[.slice A' m' c', .int .i64 2]) ∧ Below w.heap.size w w' := by
  refine (r1pow_any w av A n c a k hU hn hk).mono ?_
  rintro e w' ⟨A', m', c', ok, rfl, hc, hok, hu, hb⟩
  obtain rfl : ok = false := by rw [hok.out]; exact decide_eq_false h
  exact ⟨A', m', c', rfl, hb⟩
set_option maxRecDepth 100000 in
set_option maxHeartbeats 8000000 in
theorem r2pow_any (w : World) (a : Fa) (l k : List Nat) (n : Int) (hq : Fq w a l k) (hn : -9223372036854775808 ≤ n) (hn2 : n < 9223372036854775808) :
    Calls Tryz.prog 118 #[.agg #[.slice a.A a.n a.c, .slice a.B a.m a.d], .int .i64 n] w fun e w' => Ret w (powR (fracOf l k) n) e w' := by
  rcases hA : fracOf l k with _ | r
  · have HA := hide hA
    clear hA
    go_enter Tryz.func118, Tryz.ntmps118
    go_upto_region 1 with (fail)
    generalize hW : World.alloc (World.alloc w _) _ = v
    have HF := hide (show F1 w v a (l) (k) by rw [← hW]; exact F1.mk0 hq _ _)
    obtain ⟨a0, a1, az, r0, r1, rf⟩ := HF.out.ca
    clear hW hq
    go_wp2_with (go_at_call 86; (with_reducible refine (r2check_any _ a (l) (k) HF.out.q).mono ?_); rintro e w1 ⟨he, hb⟩; rw [HA.out] at he; subst he; have HF1 := hide (HF.out.below hb); obtain ⟨e0, e1, ez, s0, s1, sf⟩ := HF1.out.ca; clear hb)
    refine bodyPost_ret (v := .tuple #[.agg #[.slice none 0 0, .slice none 0 0], .int .i64 1]) (by simp [results, Tryz.results118, go_sem, *]) rfl (HF1.out.err rfl)
  · have HA := hide hA
    obtain ⟨rfl, rfl, hr0, hr⟩ := fracOf_some hA
    obtain ⟨hz1, hz2⟩ := Fq.small hq hr
    clear hA
    by_cases h0 : n < 0
    · have HX := hide (show powR (some r) n = (none, 3) from if_pos (Or.inl h0))
      go_enter Tryz.func118, Tryz.ntmps118
      go_upto_region 1 with (fail)
      generalize hW : World.alloc (World.alloc w _) _ = v
      have HF := hide (show F1 w v a (lm (rn r)) (lm r.den) by rw [← hW]; exact F1.mk0 hq _ _)
      obtain ⟨a0, a1, az, r0, r1, rf⟩ := HF.out.ca
      clear hW hq
      go_wp2_with (go_at_call 86; (with_reducible refine (r2check_any _ a (lm (rn r)) (lm r.den) HF.out.q).mono ?_); rintro e w1 ⟨he, hb⟩; rw [HA.out] at he; subst he; have HF1 := hide (HF.out.below hb); obtain ⟨e0, e1, ez, s0, s1, sf⟩ := HF1.out.ca; clear hb)
      refine bodyPost_ret (v := .tuple #[.agg #[.slice none 0 0, .slice none 0 0], .int .i64 3]) (by simp [results, Tryz.results118, go_sem, *]) rfl (HF1.out.err HX.out)
    · by_cases h6 : 65536 < n
      · have HX := hide (show powR (some r) n = (none, 3) from if_pos (Or.inr h6))
        go_enter Tryz.func118, Tryz.ntmps118
        go_upto_region 1 with (fail)
        generalize hW : World.alloc (World.alloc w _) _ = v
        have HF := hide (show F1 w v a (lm (rn r)) (lm r.den) by rw [← hW]; exact F1.mk0 hq _ _)
        obtain ⟨a0, a1, az, r0, r1, rf⟩ := HF.out.ca
        clear hW hq
        go_wp2_with (go_at_call 86; (with_reducible refine (r2check_any _ a (lm (rn r)) (lm r.den) HF.out.q).mono ?_); rintro e w1 ⟨he, hb⟩; rw [HA.out] at he; subst he; have HF1 := hide (HF.out.below hb); obtain ⟨e0, e1, ez, s0, s1, sf⟩ := HF1.out.ca; clear hb)
        refine bodyPost_ret (v := .tuple #[.agg #[.slice none 0 0, .slice none 0 0], .int .i64 3]) (by simp [results, Tryz.results118, go_sem, *]) rfl (HF1.out.err HX.out)
      · obtain ⟨m, rfl⟩ : ∃ m : Nat, n = m := ⟨n.toNat, by omega⟩
        have HX := hide (show powR (some r) m = limR (r ^ m) from if_neg (by omega))
        have hp0 : 0 ≤ r ^ m := Rat.pow_nonneg hr0
        have HM := hide (show m ≤ 65536 by omega)
        have d0 : decide ((m : Int) < 0) = false := decide_eq_false h0
        have d6 : decide ((m : Int) > 65536) = false := decide_eq_false h6
        clear h0 h6
        obtain ⟨hL1, hL2⟩ := fits_len hr
        have hqn : a.n ≤ 128 := by rw [← hq.u.len]; exact hL1
        have hqm : a.m ≤ 128 := by rw [← hq.v.len]; exact hL2
        by_cases hu : (lm (rn r ^ m)).length ≤ 128
        · by_cases hv : (lm (r.den ^ m)).length ≤ 128
          · have HY := hide (show fitsR (r ^ m) = true by unfold fitsR; rw [rn_pow hr0, rn_den_pow]; simp [hu, hv])
            go_enter Tryz.func118, Tryz.ntmps118
            go_upto_region 1 with (fail)
            generalize hW : World.alloc (World.alloc w _) _ = v
            have HF := hide (show F1 w v a (lm (rn r)) (lm r.den) by rw [← hW]; exact F1.mk0 hq _ _)
            obtain ⟨a0, a1, az, r0, r1, rf⟩ := HF.out.ca
            clear hW hq
            go_wp2_with (first | (go_at_call 86; (with_reducible refine (r2check_any _ a (lm (rn r)) (lm r.den) HF.out.q).mono ?_); rintro e w1 ⟨he, hb⟩; rw [HA.out] at he; subst he; have HF1 := hide (HF.out.below hb); obtain ⟨e0, e1, ez, s0, s1, sf⟩ := HF1.out.ca; clear hb) | (go_at_call 136; (with_reducible refine (r1pow_yes _ none a.A a.n a.c (rn r) m HF1.out.q.u hqn HM.out hu).mono ?_); rintro e w2 ⟨A1, m1, c1, rfl, hmc, hm1, hu1, hb⟩; have HU1 := hide hu1; have HF2 := hide (HF1.out.below hb); obtain ⟨g0, g1, gz, -⟩ := HF2.out.ca; clear hb hu1) | (go_at_call 136; (with_reducible refine (r1pow_yes _ none a.B a.m a.d r.den m HF2.out.q.v hqm HM.out hv).mono ?_); rintro e w3 ⟨A2, m2, c2, rfl, hmc2, hm2, hu1, hb⟩; have HU2 := hide hu1; have HF3 := hide (HF2.out.below hb); have HB3 := hide hb; obtain ⟨i0, i1, iz, t0, t1, tf⟩ := HF3.out.ca; clear hb hu1))
            have HU1b := hide (HU1.out.below HB3.out)
            refine bodyPost_ret (v := .tuple #[.agg #[.slice A1 m1 c1, .slice A2 m2 c2], .int .i64 0]) (by simp [results, Tryz.results118, go_sem, *]) rfl (HF3.out.end (c := ⟨A1, m1, c1, A2, m2, c2⟩) (by rw [HX.out, limR_fit HY.out]) ?_)
            rw [HX.out, limR_fit HY.out]
            refine ⟨⟨?_, ?_, hmc, hmc2, Nat.le_trans hm1 (by omega), Nat.le_trans hm2 (by omega)⟩, hp0, HY.out⟩
            · show Ul _ none A1 m1 (lm (rn (r ^ m))); rw [rn_pow hr0]; exact HU1b.out
            · show Ul _ none A2 m2 (lm (r ^ m).den); rw [rn_den_pow]; exact HU2.out
          · have HY := hide (show fitsR (r ^ m) = false by unfold fitsR; rw [rn_pow hr0, rn_den_pow]; simp; omega)
            go_enter Tryz.func118, Tryz.ntmps118
            go_upto_region 1 with (fail)
            generalize hW : World.alloc (World.alloc w _) _ = v
            have HF := hide (show F1 w v a (lm (rn r)) (lm r.den) by rw [← hW]; exact F1.mk0 hq _ _)
            obtain ⟨a0, a1, az, r0, r1, rf⟩ := HF.out.ca
            clear hW hq
            go_wp2_with (first | (go_at_call 86; (with_reducible refine (r2check_any _ a (lm (rn r)) (lm r.den) HF.out.q).mono ?_); rintro e w1 ⟨he, hb⟩; rw [HA.out] at he; subst he; have HF1 := hide (HF.out.below hb); obtain ⟨e0, e1, ez, s0, s1, sf⟩ := HF1.out.ca; clear hb) | (go_at_call 136; (with_reducible refine (r1pow_yes _ none a.A a.n a.c (rn r) m HF1.out.q.u hqn HM.out hu).mono ?_); rintro e w2 ⟨A1, m1, c1, rfl, hmc, hm1, hu1, hb⟩; have HU1 := hide hu1; have HF2 := hide (HF1.out.below hb); obtain ⟨g0, g1, gz, -⟩ := HF2.out.ca; clear hb hu1) | (go_at_call 136; (with_reducible refine (r1pow_no _ none a.B a.m a.d r.den m HF2.out.q.v hqm HM.out hv).mono ?_); rintro e w3 ⟨A2, m2, c2, rfl, hb⟩; have HF3 := hide (HF2.out.below hb); obtain ⟨i0, i1, iz, t0, t1, tf⟩ := HF3.out.ca; clear hb))
            refine bodyPost_ret (v := .tuple #[.agg #[.slice none 0 0, .slice none 0 0], .int .i64 2]) (by simp [results, Tryz.results118, go_sem, *]) rfl (HF3.out.err (by rw [HX.out, limR_no HY.out]))
        · have HY := hide (show fitsR (r ^ m) = false by unfold fitsR; rw [rn_pow hr0, rn_den_pow]; simp; omega)
          by_cases hv : (lm (r.den ^ m)).length ≤ 128
          · skip
            go_enter Tryz.func118, Tryz.ntmps118
            go_upto_region 1 with (fail)
            generalize hW : World.alloc (World.alloc w _) _ = v
            have HF := hide (show F1 w v a (lm (rn r)) (lm r.den) by rw [← hW]; exact F1.mk0 hq _ _)
            obtain ⟨a0, a1, az, r0, r1, rf⟩ := HF.out.ca
            clear hW hq
            go_wp2_with (first | (go_at_call 86; (with_reducible refine (r2check_any _ a (lm (rn r)) (lm r.den) HF.out.q).mono ?_); rintro e w1 ⟨he, hb⟩; rw [HA.out] at he; subst he; have HF1 := hide (HF.out.below hb); obtain ⟨e0, e1, ez, s0, s1, sf⟩ := HF1.out.ca; clear hb) | (go_at_call 136; (with_reducible refine (r1pow_no _ none a.A a.n a.c (rn r) m HF1.out.q.u hqn HM.out hu).mono ?_); rintro e w2 ⟨A1, m1, c1, rfl, hb⟩; have HF2 := hide (HF1.out.below hb); obtain ⟨g0, g1, gz, -⟩ := HF2.out.ca; clear hb) | (go_at_call 136; (with_reducible refine (r1pow_yes _ none a.B a.m a.d r.den m HF2.out.q.v hqm HM.out hv).mono ?_); rintro e w3 ⟨A2, m2, c2, rfl, hmc2, hm2, hu1, hb⟩; have HU2 := hide hu1; have HF3 := hide (HF2.out.below hb); have HB3 := hide hb; obtain ⟨i0, i1, iz, t0, t1, tf⟩ := HF3.out.ca; clear hb hu1))
            refine bodyPost_ret (v := .tuple #[.agg #[.slice none 0 0, .slice none 0 0], .int .i64 2]) (by simp [results, Tryz.results118, go_sem, *]) rfl (HF3.out.err (by rw [HX.out, limR_no HY.out]))
          · skip
            go_enter Tryz.func118, Tryz.ntmps118
            go_upto_region 1 with (fail)
            generalize hW : World.alloc (World.alloc w _) _ = v
            have HF := hide (show F1 w v a (lm (rn r)) (lm r.den) by rw [← hW]; exact F1.mk0 hq _ _)
            obtain ⟨a0, a1, az, r0, r1, rf⟩ := HF.out.ca
            clear hW hq
            go_wp2_with (first | (go_at_call 86; (with_reducible refine (r2check_any _ a (lm (rn r)) (lm r.den) HF.out.q).mono ?_); rintro e w1 ⟨he, hb⟩; rw [HA.out] at he; subst he; have HF1 := hide (HF.out.below hb); obtain ⟨e0, e1, ez, s0, s1, sf⟩ := HF1.out.ca; clear hb) | (go_at_call 136; (with_reducible refine (r1pow_no _ none a.A a.n a.c (rn r) m HF1.out.q.u hqn HM.out hu).mono ?_); rintro e w2 ⟨A1, m1, c1, rfl, hb⟩; have HF2 := hide (HF1.out.below hb); obtain ⟨g0, g1, gz, -⟩ := HF2.out.ca; clear hb) | (go_at_call 136; (with_reducible refine (r1pow_no _ none a.B a.m a.d r.den m HF2.out.q.v hqm HM.out hv).mono ?_); rintro e w3 ⟨A2, m2, c2, rfl, hb⟩; have HF3 := hide (HF2.out.below hb); obtain ⟨i0, i1, iz, t0, t1, tf⟩ := HF3.out.ca; clear hb))
            refine bodyPost_ret (v := .tuple #[.agg #[.slice none 0 0, .slice none 0 0], .int .i64 2]) (by simp [results, Tryz.results118, go_sem, *]) rfl (HF3.out.err (by rw [HX.out, limR_no HY.out]))
end Go.Proofs.YtjkffgcikbkjeaaGreat

/- Contracts: Div, the program's and the reference's. -/
namespace Go.Proofs.YtjkffgcikbkjeaaGreat
open Go.RowKit

def divR := opR fun r s => if s = 0 then (none, 4) else limR (r / s)
theorem inv_nn {s : Rat} (h : 0 ≤ s) : 0 ≤ s⁻¹ := by
  by_cases h0 : s = 0
  · rw [h0, Rat.inv_zero]; exact Rat.le_refl
  · exact Rat.le_of_lt (Rat.inv_pos.2 (Rat.lt_of_le_of_ne h (fun e => h0 e.symm)))
end Go.Proofs.YtjkffgcikbkjeaaGreat

/- Contract: the reference's Div. -/
namespace Go.Proofs.YtjkffgcikbkjeaaGreat
open Go.RowKit

end Go.Proofs.YtjkffgcikbkjeaaGreat

/- Plain model of the sequential tests: specifications, ratios, decisions. -/
namespace Go.Proofs.YtjkffgcikbkjeaaGreat

/-- A chance that is neither 0 nor 1. -/
def innO : Option Rat → Bool
  | some r => chO (some r) && decide (0 < r) && decide (r < 1)
  | none => false
def ltO : Option Rat → Option Rat → Bool
  | some r, some s => decide (r < s)
  | _, _ => false
/-- A right specification. -/
def okS (o1 o2 o3 o4 : Option Rat) (m : Int) : Bool := innO o1 && innO o2 && innO o3 && innO o4 && ltO o1 o2 && decide (1 ≤ m) && decide (m ≤ 32)
/-- Numbers of a size. -/
structure Bd (B : Nat) (r : Rat) : Prop where
  h0 : 0 ≤ r
  hn : rn r ≤ B
  hd : r.den ≤ B
/-- An inner chance. -/
structure Inn (r : Rat) : Prop where
  c : Chn r
  p : 0 < r
  q : r < 1
/-- The ratio of runs that passed and failed. -/
def ratQ (l h : Rat) (p f : Nat) : Rat := (h / l) ^ f * ((1 - h) / (1 - l)) ^ p
/-- The decision of counts. -/
def decQ (l h a b : Rat) (p f : Nat) : Int := if 1 / a ≤ ratQ l h p f then 2 else if ratQ l h p f ≤ b then 1 else 0
end Go.Proofs.YtjkffgcikbkjeaaGreat

/- Contracts: sequential.whole, other. -/
namespace Go.Proofs.YtjkffgcikbkjeaaGreat
open Go.RowKit

end Go.Proofs.YtjkffgcikbkjeaaGreat

/- Plain laws of the sequential tests: the ratio grows with the failures; limits; runs. -/
namespace Go.Proofs.YtjkffgcikbkjeaaGreat

/-! ### Limits -/
/-- The greatest number of [k, n] with d = 1. -/
def IsStab (d : Nat → Int) (k n : Nat) (s : Int) : Prop := (s = -1 ∧ ∀ g, k ≤ g → g ≤ n → d g ≠ 1) ∨ ∃ f : Nat, s = f ∧ k ≤ f ∧ f ≤ n ∧ d f = 1 ∧ ∀ g, f < g → g ≤ n → d g ≠ 1
/-- The least number of [k, n] with d = 2. -/
def IsFlak (d : Nat → Int) (k n : Nat) (s : Int) : Prop := (s = -1 ∧ ∀ g, k ≤ g → g ≤ n → d g ≠ 2) ∨ ∃ f : Nat, s = f ∧ k ≤ f ∧ f ≤ n ∧ d f = 2 ∧ ∀ g, k ≤ g → g < f → d g ≠ 2
/-- Upwards: the numbers below k. -/
def UpStab (d : Nat → Int) (k : Nat) (s : Int) : Prop := (s = -1 ∧ ∀ g, g < k → d g ≠ 1) ∨ ∃ f : Nat, s = f ∧ f < k ∧ d f = 1 ∧ ∀ g, f < g → g < k → d g ≠ 1
def UpFlak (d : Nat → Int) (k : Nat) (s : Int) : Prop := (s = -1 ∧ ∀ g, g < k → d g ≠ 2) ∨ ∃ f : Nat, s = f ∧ f < k ∧ d f = 2 ∧ ∀ g, g < f → d g ≠ 2
/-! ### Runs -/
/-- Outcomes are taken until there is a decision: the decision, and the passed and the failed ones. -/
def runR (d : Nat → Nat → Int) : List Bool → Nat → Nat → Int × Nat × Nat
  | [], p, f => (d p f, p, f)
  | b :: t, p, f => if d p f ≠ 0 then (d p f, p, f) else if b then runR d t p (f + 1) else runR d t (p + 1) f
/-- The same, looking behind each outcome. -/
def runP (d : Nat → Nat → Int) : List Bool → Nat → Nat → Int → Int × Nat × Nat
  | [], p, f, z => (z, p, f)
  | b :: t, p, f, _ => if d (if b then p else p + 1) (if b then f + 1 else f) ≠ 0 then (d (if b then p else p + 1) (if b then f + 1 else f), (if b then p else p + 1), (if b then f + 1 else f)) else runP d t (if b then p else p + 1) (if b then f + 1 else f) 0
end Go.Proofs.YtjkffgcikbkjeaaGreat
