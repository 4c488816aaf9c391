/- Contracts of the functions that these laws reach: part 14: Contracts: Div, the program's and the reference's; Contract: the reference's Div; Plain model of the sequential tests: specifications, ratios, decisions; Contracts: sequential.whole, other; Plain laws of the sequential tests: the ratio grows with the failures; limits; runs. -/
import Derived.Test.YtnofljgmkdommaaG13
set_option linter.unusedVariables false
set_option linter.unusedSimpArgs false

/- Contracts: Div, the program's and the reference's. -/
namespace Go.Proofs.Ytnofljgmkdommaa
open Go.RowKit

def divR := opR fun r s => if s = 0 then (none, 4) else limR (r / s)
theorem mk_div {r s : Rat} (hr : 0 ≤ r) (hs : 0 ≤ s) (h : s ≠ 0) : mkRat ((rn r * s.den : Nat) : Int) (rn s * r.den) = r / s := by
  have e1 : (r.den : Rat) ≠ 0 := by have := r.den_nz; exact_mod_cast this
  have e2 : (s.den : Rat) ≠ 0 := by have := s.den_nz; exact_mod_cast this
  have hm : ∀ {x : Rat}, 0 ≤ x → (x.den : Rat) ≠ 0 → x * (x.den : Rat) = (rn x : Rat) := by
    intro x hx hd
    have e := mk_self hx
    rw [Rat.mkRat_eq_div] at e
    have e3 := Rat.div_mul_cancel (a := ((((rn x : Nat) : Int)) : Rat)) hd
    rw [e] at e3
    exact e3
  have h1 := hm hr e1
  have h2 := hm hs e2
  rw [Rat.mkRat_eq_div]
  have c1 : (((rn r * s.den : Nat) : Int) : Rat) = (rn r : Rat) * (s.den : Rat) := by
    rw [← Rat.natCast_mul]; rfl
  have c2 : ((rn s * r.den : Nat) : Rat) = (rn s : Rat) * (r.den : Rat) := Rat.natCast_mul _ _
  rw [c1, c2, ← h1, ← h2]
  have e3 : s * (s.den : Rat) * (r.den : Rat) ≠ 0 := by
    intro h0
    rcases Rat.mul_eq_zero.1 h0 with h3 | h3
    · rcases Rat.mul_eq_zero.1 h3 with h4 | h4
      · exact h h4
      · exact e2 h4
    · exact e1 h3
  grind
theorem inv_nn {s : Rat} (h : 0 ≤ s) : 0 ≤ s⁻¹ := by
  by_cases h0 : s = 0
  · rw [h0, Rat.inv_zero]; exact Rat.le_refl
  · exact Rat.le_of_lt (Rat.inv_pos.2 (Rat.lt_of_le_of_ne h (fun e => h0 e.symm)))
theorem divR_ok {x y : Option Rat} (hx : okR x) (hy : okR y) : okR (divR x y).1 := by
  cases x with
  | none => exact trivial
  | some r =>
    cases y with
    | none => exact trivial
    | some s =>
      simp only [divR, opR]
      split
      · exact trivial
      · refine limR_ok ?_
        rw [Rat.div_def]
        exact Rat.mul_nonneg hx.1 (inv_nn hy.1)
set_option maxRecDepth 100000 in
set_option maxHeartbeats 8000000 in
theorem fdiv_any (w : World) (a b : Fa) (l k l' k' : List Nat) (ha : Fq w a l k) (hb : Fq w b l' k') :
    Calls Try.prog 37 #[.agg #[.slice a.A a.n a.c, .slice a.B a.m a.d], .agg #[.slice b.A b.n b.c, .slice b.B b.m b.d]] w fun e w' => Ret w (divR (fracOf l k) (fracOf l' k')) e w' := by
  have hn1 := ha.n
  have hn2 := ha.m
  have hn3 := hb.n
  have hn4 := hb.m
  rcases hA : fracOf l k with _ | r
  · have HA := hide hA
    clear hA
    go_enter Try.func37, Try.ntmps37
    go_upto_region 1 with (fail)
    generalize hW : World.alloc (World.alloc (World.alloc w _) _) _ = v
    have HFB := hide (show Fb w v a b _ _ _ _ by rw [← hW]; exact (Fb.mk0 ha hb _ _).below ((Below.refl _ _).alloc (Nat.le_refl _) _))
    have HRB := hide (show Rb v (w.heap.size + 2) by rw [← hW]; exact Rb.mk0 _ (by simp))
    obtain ⟨a0, a1, b0, b1⟩ := HFB.out.ca
    obtain ⟨r0, r1, rf, rz, -⟩ := HRB.out
    have hz := HFB.out.sz
    clear hW ha hb
    go_wp2_with (go_at_call 41; (with_reducible refine (fcheck_any _ a l k HFB.out.qa).mono ?_); rintro e w1 ⟨he, hb1⟩; rw [HA.out] at he; subst he; have HF1 := hide (HFB.out.below hb1); have HR1 := hide (HRB.out.below hb1); obtain ⟨c0, c1, c2, c3⟩ := HF1.out.ca; obtain ⟨x0, x1, x2, x3, -⟩ := HR1.out; clear hb1)
    refine bodyPost_ret (v := .tuple #[.agg #[.slice none 0 0, .slice none 0 0], .int .i64 1]) (by simp [results, Try.results37, go_sem, *]) rfl ⟨⟨none, 0, 0, none, 0, 0⟩, by rw [divR, opR_none_l], by rw [divR, opR_none_l]; exact Fo.nil _, Rb.end0 HF1.out.bw (by omega) _ _⟩
  · rcases hB : fracOf l' k' with _ | s
    · have HA := hide hA
      have HB := hide hB
      clear hA hB
      go_enter Try.func37, Try.ntmps37
      go_upto_region 1 with (fail)
      generalize hW : World.alloc (World.alloc (World.alloc w _) _) _ = v
      have HFB := hide (show Fb w v a b _ _ _ _ by rw [← hW]; exact (Fb.mk0 ha hb _ _).below ((Below.refl _ _).alloc (Nat.le_refl _) _))
      have HRB := hide (show Rb v (w.heap.size + 2) by rw [← hW]; exact Rb.mk0 _ (by simp))
      obtain ⟨a0, a1, b0, b1⟩ := HFB.out.ca
      obtain ⟨r0, r1, rf, rz, -⟩ := HRB.out
      have hz := HFB.out.sz
      clear hW ha hb
      go_wp2_with (first | (go_at_call 41; (with_reducible refine (fcheck_any _ a l k HFB.out.qa).mono ?_); rintro e w1 ⟨he, hb1⟩; rw [HA.out] at he; subst he; have HF1 := hide (HFB.out.below hb1); have HR1 := hide (HRB.out.below hb1); obtain ⟨c0, c1, c2, c3⟩ := HF1.out.ca; obtain ⟨x0, x1, x2, x3, -⟩ := HR1.out; clear hb1) | (go_at_call 41; (with_reducible refine (fcheck_any _ b l' k' HF1.out.qb).mono ?_); rintro e w2 ⟨he, hb2⟩; rw [HB.out] at he; subst he; have HF2 := hide (HF1.out.below hb2); have HR2 := hide (HR1.out.below hb2); obtain ⟨e0, e1, e2, e3⟩ := HF2.out.ca; obtain ⟨y0, y1, y2, y3, -⟩ := HR2.out; clear hb2))
      refine bodyPost_ret (v := .tuple #[.agg #[.slice none 0 0, .slice none 0 0], .int .i64 1]) (by simp [results, Try.results37, go_sem, *]) rfl ⟨⟨none, 0, 0, none, 0, 0⟩, by rw [divR, opR_none_r], by rw [divR, opR_none_r]; exact Fo.nil _, Rb.end0 HF2.out.bw (by omega) _ _⟩
    · have HA := hide hA
      have HB := hide hB
      obtain ⟨rfl, rfl, hr0, hr⟩ := fracOf_some hA
      obtain ⟨rfl, rfl, hs0, hs⟩ := fracOf_some hB
      obtain ⟨hz1, hz2⟩ := Fq.small ha hr
      obtain ⟨hz3, hz4⟩ := Fq.small hb hs
      have hbn : b.n = 0 ↔ s = 0 := by
        rw [← hb.u.len, List.length_eq_zero_iff, lm_eq_nil, rn_eq_zero hs0]
      clear hA hB
      by_cases h0 : s = 0
      · have HX := hide (show divR (some r) (some s) = (none, 4) from if_pos h0)
        have d0 : ((b.n : Int) == 0) = true := by simp [hbn.2 h0]
        clear h0 hbn
        go_enter Try.func37, Try.ntmps37
        go_upto_region 1 with (fail)
        generalize hW : World.alloc (World.alloc (World.alloc w _) _) _ = v
        have HFB := hide (show Fb w v a b _ _ _ _ by rw [← hW]; exact (Fb.mk0 ha hb _ _).below ((Below.refl _ _).alloc (Nat.le_refl _) _))
        have HRB := hide (show Rb v (w.heap.size + 2) by rw [← hW]; exact Rb.mk0 _ (by simp))
        obtain ⟨a0, a1, b0, b1⟩ := HFB.out.ca
        obtain ⟨r0, r1, rf, rz, -⟩ := HRB.out
        have hz := HFB.out.sz
        clear hW ha hb
        go_wp2_with (first | (go_at_call 41; (with_reducible refine (fcheck_any _ a _ _ HFB.out.qa).mono ?_); rintro e w1 ⟨he, hb1⟩; rw [HA.out] at he; subst he; have HF1 := hide (HFB.out.below hb1); have HR1 := hide (HRB.out.below hb1); obtain ⟨c0, c1, c2, c3⟩ := HF1.out.ca; obtain ⟨x0, x1, x2, x3, -⟩ := HR1.out; clear hb1) | (go_at_call 41; (with_reducible refine (fcheck_any _ b _ _ HF1.out.qb).mono ?_); rintro e w2 ⟨he, hb2⟩; rw [HB.out] at he; subst he; have HF2 := hide (HF1.out.below hb2); have HR2 := hide (HR1.out.below hb2); obtain ⟨e0, e1, e2, e3⟩ := HF2.out.ca; obtain ⟨y0, y1, y2, y3, -⟩ := HR2.out; clear hb2))
        refine bodyPost_ret (v := .tuple #[.agg #[.slice none 0 0, .slice none 0 0], .int .i64 4]) (by simp [results, Try.results37, go_sem, *]) rfl ⟨⟨none, 0, 0, none, 0, 0⟩, by rw [HX.out], by rw [HX.out]; exact Fo.nil _, Rb.end0 HF2.out.bw (by omega) _ _⟩
      · have HX := hide (show divR (some r) (some s) = limR (r / s) from if_neg h0)
        have d0 : ((b.n : Int) == 0) = false := by simp; intro h; exact h0 (hbn.1 h)
        have HM := hide (mk_div hr0 hs0 h0)
        have hdp : 0 < rn s * r.den := Nat.mul_pos (Nat.pos_of_ne_zero (fun h => h0 ((rn_eq_zero hs0).1 h))) r.den_pos
        clear h0 hbn
        go_enter Try.func37, Try.ntmps37
        go_upto_region 1 with (fail)
        generalize hW : World.alloc (World.alloc (World.alloc w _) _) _ = v
        have HFB := hide (show Fb w v a b _ _ _ _ by rw [← hW]; exact (Fb.mk0 ha hb _ _).below ((Below.refl _ _).alloc (Nat.le_refl _) _))
        have HRB := hide (show Rb v (w.heap.size + 2) by rw [← hW]; exact Rb.mk0 _ (by simp))
        obtain ⟨a0, a1, b0, b1⟩ := HFB.out.ca
        obtain ⟨r0, r1, rf, rz, -⟩ := HRB.out
        have hz := HFB.out.sz
        clear hW ha hb
        go_wp2_with (first
          | (go_at_call 41; (with_reducible refine (fcheck_any _ a _ _ HFB.out.qa).mono ?_); rintro e w1 ⟨he, hb1⟩; rw [HA.out] at he; subst he; have HF1 := hide (HFB.out.below hb1); have HR1 := hide (HRB.out.below hb1); obtain ⟨c0, c1, c2, c3⟩ := HF1.out.ca; obtain ⟨x0, x1, x2, x3, -⟩ := HR1.out; clear hb1)
          | (go_at_call 41; (with_reducible refine (fcheck_any _ b _ _ HF1.out.qb).mono ?_); rintro e w2 ⟨he, hb2⟩; rw [HB.out] at he; subst he; have HF2 := hide (HF1.out.below hb2); have HR2 := hide (HR1.out.below hb2); obtain ⟨e0, e1, e2, e3⟩ := HF2.out.ca; obtain ⟨y0, y1, y2, y3, -⟩ := HR2.out; clear hb2)
          | (go_at_call 43; (with_reducible refine (fcross_any _ a b r s hr hs HF2.out.qa HF2.out.qb).mono ?_); rintro e w3 ⟨A3, m3, d3, A4, m4, d4, rfl, h1, h2, h3, h4, hu3, hu4, hb3⟩; have HU3 := hide hu3; have HU4 := hide hu4; have HF3 := hide (HF2.out.below hb3); have HR3 := hide (HR2.out.below hb3); obtain ⟨z0, z1, z2, z3, -⟩ := HR3.out; clear hu3 hu4 hb3)
          | (go_at_call 60; (with_reducible refine (fexact_any _ none none A3 m3 d3 A4 m4 d4 _ _ HU3.out HU4.out (by omega) (by omega) hdp).mono ?_); rintro e w5 ⟨c, er, rfl, her, ho, hb5⟩; rw [HM.out] at her ho; have HER := her; have HO := ho; have HF5 := hide (HF3.out.below hb5); have HR5 := hide (HR3.out.below hb5); obtain ⟨q0, q1, q2, q3, -⟩ := HR5.out; clear her ho hb5))
        refine bodyPost_ret (v := .tuple #[.agg #[.slice c.A c.n c.c, .slice c.B c.m c.d], .int .i64 er]) (by simp [results, Try.results37, go_sem, *]) rfl ⟨c, by rw [HX.out, ← HER.out], by rw [HX.out]; exact HO.out.put2 HR5.out.nb _ _ (by simp), Rb.end0 HF5.out.bw (by omega) _ _⟩
end Go.Proofs.Ytnofljgmkdommaa

/- Contract: the reference's Div. -/
namespace Go.Proofs.Ytnofljgmkdommaa
open Go.RowKit

set_option maxRecDepth 100000 in
set_option maxHeartbeats 8000000 in
theorem r2div_any (w : World) (a b : Fa) (l k l' k' : List Nat) (ha : Fq w a l k) (hb : Fq w b l' k') :
    Calls Try.prog 40 #[.agg #[.slice a.A a.n a.c, .slice a.B a.m a.d], .agg #[.slice b.A b.n b.c, .slice b.B b.m b.d]] w fun e w' => Ret w (divR (fracOf l k) (fracOf l' k')) e w' := by
  have hn1 := ha.n
  have hn2 := ha.m
  have hn3 := hb.n
  have hn4 := hb.m
  rcases hA : fracOf l k with _ | r
  · have HA := hide hA
    clear hA
    go_enter Try.func40, Try.ntmps40
    go_upto_region 1 with (fail)
    generalize hW : World.alloc (World.alloc (World.alloc w _) _) _ = v
    have HFB := hide (show Fb w v a b _ _ _ _ by rw [← hW]; exact (Fb.mk0 ha hb _ _).below ((Below.refl _ _).alloc (Nat.le_refl _) _))
    have HRB := hide (show Rb v (w.heap.size + 2) by rw [← hW]; exact Rb.mk0 _ (by simp))
    obtain ⟨a0, a1, b0, b1⟩ := HFB.out.ca
    obtain ⟨r0, r1, rf, rz, -⟩ := HRB.out
    have hz := HFB.out.sz
    clear hW ha hb
    go_wp2_with ((go_at_call 46; (with_reducible refine (r2check_any _ a l k HFB.out.qa).mono ?_); rintro e w1 ⟨he, hb1⟩; rw [HA.out] at he; subst he; have HF1 := hide (HFB.out.below hb1); have HR1 := hide (HRB.out.below hb1); obtain ⟨c0, c1, c2, c3⟩ := HF1.out.ca; obtain ⟨x0, x1, x2, x3, -⟩ := HR1.out; clear hb1))
    refine bodyPost_ret (v := .tuple #[.agg #[.slice none 0 0, .slice none 0 0], .int .i64 1]) (by simp [results, Try.results40, go_sem, *]) rfl ⟨⟨none, 0, 0, none, 0, 0⟩, by rw [divR, opR_none_l], by rw [divR, opR_none_l]; exact Fo.nil _, Rb.end0 HF1.out.bw (by omega) _ _⟩
  rcases hB : fracOf l' k' with _ | s
  · have HA := hide hA
    have HB := hide hB
    clear hA hB
    go_enter Try.func40, Try.ntmps40
    go_upto_region 1 with (fail)
    generalize hW : World.alloc (World.alloc (World.alloc w _) _) _ = v
    have HFB := hide (show Fb w v a b _ _ _ _ by rw [← hW]; exact (Fb.mk0 ha hb _ _).below ((Below.refl _ _).alloc (Nat.le_refl _) _))
    have HRB := hide (show Rb v (w.heap.size + 2) by rw [← hW]; exact Rb.mk0 _ (by simp))
    obtain ⟨a0, a1, b0, b1⟩ := HFB.out.ca
    obtain ⟨r0, r1, rf, rz, -⟩ := HRB.out
    have hz := HFB.out.sz
    clear hW ha hb
    go_wp2_with (first | (go_at_call 46; (with_reducible refine (r2check_any _ a l k HFB.out.qa).mono ?_); rintro e w1 ⟨he, hb1⟩; rw [HA.out] at he; subst he; have HF1 := hide (HFB.out.below hb1); have HR1 := hide (HRB.out.below hb1); obtain ⟨c0, c1, c2, c3⟩ := HF1.out.ca; obtain ⟨x0, x1, x2, x3, -⟩ := HR1.out; clear hb1) | (go_at_call 46; (with_reducible refine (r2check_any _ b l' k' HF1.out.qb).mono ?_); rintro e w2 ⟨he, hb2⟩; rw [HB.out] at he; subst he; have HF2 := hide (HF1.out.below hb2); have HR2 := hide (HR1.out.below hb2); obtain ⟨e0, e1, e2, e3⟩ := HF2.out.ca; obtain ⟨y0, y1, y2, y3, -⟩ := HR2.out; clear hb2))
    refine bodyPost_ret (v := .tuple #[.agg #[.slice none 0 0, .slice none 0 0], .int .i64 1]) (by simp [results, Try.results40, go_sem, *]) rfl ⟨⟨none, 0, 0, none, 0, 0⟩, by rw [divR, opR_none_r], by rw [divR, opR_none_r]; exact Fo.nil _, Rb.end0 HF2.out.bw (by omega) _ _⟩
  have HA := hide hA
  have HB := hide hB
  obtain ⟨rfl, rfl, hr0, hr⟩ := fracOf_some hA
  obtain ⟨rfl, rfl, hs0, hs⟩ := fracOf_some hB
  obtain ⟨hz1, hz2⟩ := Fq.small ha hr
  obtain ⟨hz3, hz4⟩ := Fq.small hb hs
  clear hA hB
  have hbn : b.n = 0 ↔ s = 0 := by
    rw [← hb.u.len, List.length_eq_zero_iff, lm_eq_nil, rn_eq_zero hs0]
  by_cases h0 : s = 0
  · have HX := hide (show divR (some r) (some s) = (none, 4) from if_pos h0)
    have d0 : ((b.n : Int) == 0) = true := by simp [hbn.2 h0]
    clear h0 hbn
    go_enter Try.func40, Try.ntmps40
    go_upto_region 1 with (fail)
    generalize hW : World.alloc (World.alloc (World.alloc w _) _) _ = v
    have HFB := hide (show Fb w v a b _ _ _ _ by rw [← hW]; exact (Fb.mk0 ha hb _ _).below ((Below.refl _ _).alloc (Nat.le_refl _) _))
    have HRB := hide (show Rb v (w.heap.size + 2) by rw [← hW]; exact Rb.mk0 _ (by simp))
    obtain ⟨a0, a1, b0, b1⟩ := HFB.out.ca
    obtain ⟨r0, r1, rf, rz, -⟩ := HRB.out
    have hz := HFB.out.sz
    clear hW ha hb
    go_wp2_with (first | (go_at_call 46; (with_reducible refine (r2check_any _ a _ _ HFB.out.qa).mono ?_); rintro e w1 ⟨he, hb1⟩; rw [HA.out] at he; subst he; have HF1 := hide (HFB.out.below hb1); have HR1 := hide (HRB.out.below hb1); obtain ⟨c0, c1, c2, c3⟩ := HF1.out.ca; obtain ⟨x0, x1, x2, x3, -⟩ := HR1.out; clear hb1) | (go_at_call 46; (with_reducible refine (r2check_any _ b _ _ HF1.out.qb).mono ?_); rintro e w2 ⟨he, hb2⟩; rw [HB.out] at he; subst he; have HF2 := hide (HF1.out.below hb2); have HR2 := hide (HR1.out.below hb2); obtain ⟨e0, e1, e2, e3⟩ := HF2.out.ca; obtain ⟨y0, y1, y2, y3, -⟩ := HR2.out; clear hb2))
    refine bodyPost_ret (v := .tuple #[.agg #[.slice none 0 0, .slice none 0 0], .int .i64 4]) (by simp [results, Try.results40, go_sem, *]) rfl ⟨⟨none, 0, 0, none, 0, 0⟩, by rw [HX.out], by rw [HX.out]; exact Fo.nil _, Rb.end0 HF2.out.bw (by omega) _ _⟩
  · have HX := hide (show divR (some r) (some s) = limR (r / s) from if_neg h0)
    have d0 : ((b.n : Int) == 0) = false := by simp; intro h; exact h0 (hbn.1 h)
    have hrs : 0 ≤ r / s := by rw [Rat.div_def]; exact Rat.mul_nonneg hr0 (inv_nn hs0)
    have HM := hide (show mkRat ((rn r * s.den : Nat) : Int) (r.den * rn s) = r / s by rw [Nat.mul_comm r.den]; exact mk_div hr0 hs0 h0)
    have hdp : 0 < r.den * rn s := Nat.mul_pos r.den_pos (Nat.pos_of_ne_zero (fun h => h0 ((rn_eq_zero hs0).1 h)))
    obtain ⟨hL1, hL2⟩ := fits_len hr
    obtain ⟨hL3, hL4⟩ := fits_len hs
    clear h0 hbn
    go_enter Try.func40, Try.ntmps40
    go_upto_region 1 with (fail)
    generalize hW : World.alloc (World.alloc (World.alloc w _) _) _ = v
    have HFB := hide (show Fb w v a b _ _ _ _ by rw [← hW]; exact (Fb.mk0 ha hb _ _).below ((Below.refl _ _).alloc (Nat.le_refl _) _))
    have HRB := hide (show Rb v (w.heap.size + 2) by rw [← hW]; exact Rb.mk0 _ (by simp))
    obtain ⟨a0, a1, b0, b1⟩ := HFB.out.ca
    obtain ⟨r0, r1, rf, rz, -⟩ := HRB.out
    have hz := HFB.out.sz
    clear hW ha hb
    go_upto_region 5 with (first | (go_at_call 46; (with_reducible refine (r2check_any _ a _ _ HFB.out.qa).mono ?_); rintro e w1 ⟨he, hb1⟩; rw [HA.out] at he; subst he; have HF1 := hide (HFB.out.below hb1); have HR1 := hide (HRB.out.below hb1); obtain ⟨c0, c1, c2, c3⟩ := HF1.out.ca; obtain ⟨x0, x1, x2, x3, -⟩ := HR1.out; clear hb1) | (go_at_call 46; (with_reducible refine (r2check_any _ b _ _ HF1.out.qb).mono ?_); rintro e w2 ⟨he, hb2⟩; rw [HB.out] at he; subst he; have HF2 := hide (HF1.out.below hb2); have HR2 := hide (HR1.out.below hb2); obtain ⟨e0, e1, e2, e3⟩ := HF2.out.ca; obtain ⟨y0, y1, y2, y3, -⟩ := HR2.out; clear hb2))
    go_region_held3 (fun W => (W.cell? ⟨w.heap.size, 0, none⟩ = some (.slice a.A a.n a.c) ∧ W.cell? ⟨w.heap.size, 1, none⟩ = some (.slice a.B a.m a.d) ∧ W.cell? ⟨w.heap.size + 1, 0, none⟩ = some (.slice b.A b.n b.c) ∧ W.cell? ⟨w.heap.size + 1, 1, none⟩ = some (.slice b.B b.m b.d))) (first | with_reducible exact keep_put (Nat.lt_succ_self _) k5 | with_reducible exact k5 | with_reducible exact k8 | with_reducible exact k4 | with_reducible exact k3 | exact ⟨e0, e1, e2, e3⟩) (first
      | (go_at_call 67; (with_reducible refine (r1times_any _ none none a.A a.n a.c b.B b.m b.d (rn r) s.den (by first | exact HF2.out.qa.u | exact HF2.out.drew.qa.u) (by first | exact HF2.out.qb.v | exact HF2.out.drew.qb.v) (by omega) (by omega)).mono ?_); rintro e w3 ⟨A1, m1, d1, rfl, hd1, hu1, hb3⟩; have hl1 := lm_length_mul (rn r) s.den; rw [hu1.len] at hl1; have hM1 : m1 ≤ 256 := (by omega); have HU1 := hide hu1; have HF3 := hide ((by first | exact HF2.out.below hb3 | exact HF2.out.drew.below hb3) : Fb w w3 a b _ _ _ _); have HR3 := hide ((by first | exact HR2.out.below hb3 | exact HR2.out.drew.below hb3) : Rb w3 (w.heap.size + 2)); have k3 := HF3.out.ca; clear hu1 hb3)
      | (go_at_call 67; (with_reducible refine (r1times_any _ none none a.B a.m a.d b.A b.n b.c r.den (rn s) HF3.out.qa.v HF3.out.qb.u (by omega) (by omega)).mono ?_); rintro e w4 ⟨A2, m2, d2, rfl, hd2, hu2, hb4⟩; have hl2 := lm_length_mul r.den (rn s); rw [hu2.len] at hl2; have hM2 : m2 ≤ 256 := (by omega); have HU2 := hide hu2; have HU1b := hide (HU1.out.below hb4); have HF4 := hide (HF3.out.below hb4); have HR4 := hide (HR3.out.below hb4); have k4 := HF4.out.ca; clear hu2 hb4)
      | (go_at_call 66; (with_reducible refine (r2lowest_any _ none none A1 m1 d1 A2 m2 d2 _ _ HU1b.out HU2.out (by omega) (by omega) hdp).mono ?_); rintro e w8 ⟨c, rfl, ho, hb5⟩; rw [HM.out] at ho; have HO3 := hide ho; have HF8 := hide (HF4.out.below hb5); have HR8 := hide (HR4.out.below hb5); have k8 := HF8.out.ca; clear ho hb5)
      | (go_at_call 64; (with_reducible refine (r2limited_any _ c (r / s) hrs HO3.out).mono ?_); rintro e w9 ⟨q, rfl, ho, hb5⟩; rw [← HX.out] at ho; have HO := hide ho; have HF5 := hide (HF8.out.below hb5); have HR5 := hide (HR8.out.below hb5); have k5 := HF5.out.ca; obtain ⟨q0, q1, q2, q3, -⟩ := HR5.out; clear ho hb5))
    go_wp2_with fail
    refine bodyPost_ret (v := .tuple #[.agg #[.slice q.A q.n q.c, .slice q.B q.m q.d], .int .i64 (limR (r / s)).2]) (by simp [results, Try.results40, go_sem, *]) rfl ⟨q, by rw [HX.out], HO.out.put2 HR5.out.nb _ _ (by simp), Rb.end0 HF5.out.bw (by omega) _ _⟩
theorem fdiv_o (w : World) (a b : Fa) (o o' : Option Rat) (ha : Fo w a o) (hb : Fo w b o') : Calls Try.prog 37 #[.agg #[.slice a.A a.n a.c, .slice a.B a.m a.d], .agg #[.slice b.A b.n b.c, .slice b.B b.m b.d]] w fun e w' => Ret w (divR o o') e w' := by
  have := fdiv_any w a b _ _ _ _ ha.1 hb.1
  rwa [fracOf_self ha.2, fracOf_self hb.2] at this
theorem r2div_o (w : World) (a b : Fa) (o o' : Option Rat) (ha : Fo w a o) (hb : Fo w b o') : Calls Try.prog 40 #[.agg #[.slice a.A a.n a.c, .slice a.B a.m a.d], .agg #[.slice b.A b.n b.c, .slice b.B b.m b.d]] w fun e w' => Ret w (divR o o') e w' := by
  have := r2div_any w a b _ _ _ _ ha.1 hb.1
  rwa [fracOf_self ha.2, fracOf_self hb.2] at this
end Go.Proofs.Ytnofljgmkdommaa

/- Plain model of the sequential tests: specifications, ratios, decisions. -/
namespace Go.Proofs.Ytnofljgmkdommaa

/-- A chance that is neither 0 nor 1. -/
def innO : Option Rat → Bool
  | some r => chO (some r) && decide (0 < r) && decide (r < 1)
  | none => false
def ltO : Option Rat → Option Rat → Bool
  | some r, some s => decide (r < s)
  | _, _ => false
/-- A right specification. -/
def okS (o1 o2 o3 o4 : Option Rat) (m : Int) : Bool := innO o1 && innO o2 && innO o3 && innO o4 && ltO o1 o2 && decide (1 ≤ m) && decide (m ≤ 32)
/-- Numbers of a size. -/
structure Bd (B : Nat) (r : Rat) : Prop where
  h0 : 0 ≤ r
  hn : rn r ≤ B
  hd : r.den ≤ B
theorem Bd.mono {B C : Nat} {r : Rat} (h : Bd B r) (hBC : B ≤ C) : Bd C r := ⟨h.h0, Nat.le_trans h.hn hBC, Nat.le_trans h.hd hBC⟩
theorem Bd.mk' {x y B : Nat} (hy : 0 < y) (hx : x ≤ B) (hyB : y ≤ B) : Bd B (mkRat (x : Int) y) :=
  ⟨mk_nonneg x y, by rw [mk_num x y hy]; exact Nat.le_trans (Nat.div_le_self _ _) hx, by rw [mk_den x y hy]; exact Nat.le_trans (Nat.div_le_self _ _) hyB⟩
theorem Bd.mul {B C : Nat} {r s : Rat} (h : Bd B r) (k : Bd C s) : Bd (B * C) (r * s) := by
  rw [← mk_mul h.h0 k.h0]
  exact Bd.mk' (Nat.mul_pos r.den_pos s.den_pos) (Nat.mul_le_mul h.hn k.hn) (Nat.mul_le_mul h.hd k.hd)
theorem Bd.div {B C : Nat} {r s : Rat} (h : Bd B r) (k : Bd C s) (hs : s ≠ 0) : Bd (B * C) (r / s) := by
  rw [← mk_div h.h0 k.h0 hs]
  have hp : 0 < rn s := Nat.pos_of_ne_zero (fun h => hs ((rn_eq_zero k.h0).1 h))
  exact Bd.mk' (Nat.mul_pos hp r.den_pos) (Nat.mul_le_mul h.hn k.hd) (by rw [Nat.mul_comm]; exact Nat.mul_le_mul h.hd k.hn)
theorem Bd.pow {B : Nat} {r : Rat} (h : Bd B r) (n : Nat) : Bd (B ^ n) (r ^ n) :=
  ⟨Rat.pow_nonneg h.h0, by rw [rn_pow h.h0]; exact Nat.pow_le_pow_left h.hn n, by rw [Rat.den_pow]; exact Nat.pow_le_pow_left h.hd n⟩
theorem Bd.fits {B : Nat} {r : Rat} (h : Bd B r) (hB : B < 4294967296 ^ 128) : fitsR r = true := by
  unfold fitsR
  simp only [Bool.and_eq_true, decide_eq_true_eq]
  exact ⟨lm_length_le.2 (Nat.lt_of_le_of_lt h.hn hB), lm_length_le.2 (Nat.lt_of_le_of_lt h.hd hB)⟩
theorem den_sub_le {r : Rat} (h0 : 0 ≤ r) (h1 : r ≤ 1) : Bd r.den (1 - r) := by
  rw [← mk_sub (r := 1) (s := r) (by decide) h0 h1]
  refine Bd.mk' (by rw [show (1 : Rat).den = 1 from rfl, Nat.one_mul]; exact r.den_pos) ?_ (by rw [show (1 : Rat).den = 1 from rfl, Nat.one_mul]; exact Nat.le_refl _)
  rw [show (1 : Rat).den = 1 from rfl, rn_one, Nat.one_mul, Nat.mul_one]
  exact Nat.sub_le _ _
theorem Chn.bd {r : Rat} (h : Chn r) : Bd 1000 r := by
  refine ⟨h.h0, ?_, h.hd⟩
  have := (le_iff_n h.h0 (by decide : (0 : Rat) ≤ 1)).1 h.h1
  rw [show (1 : Rat).den = 1 from rfl, rn_one, Nat.mul_one, Nat.one_mul] at this
  exact Nat.le_trans this h.hd
theorem Chn.bdq {r : Rat} (h : Chn r) : Bd 1000 (1 - r) := (den_sub_le h.h0 h.h1).mono h.hd
/-- An inner chance. -/
structure Inn (r : Rat) : Prop where
  c : Chn r
  p : 0 < r
  q : r < 1
theorem innO_inn {o : Option Rat} (h : innO o = true) (ho : okR o) : ∃ r, o = some r ∧ Inn r := by
  cases o with
  | none => cases h
  | some r =>
    simp only [innO, Bool.and_eq_true, decide_eq_true_eq] at h
    exact ⟨r, rfl, chO_chn rfl ho.1 h.1.1, h.1.2, h.2⟩
theorem Inn.q0 {r : Rat} (h : Inn r) : 0 < 1 - r := by have := h.q; grind
/-- The ratio of runs that passed and failed. -/
def ratQ (l h : Rat) (p f : Nat) : Rat := (h / l) ^ f * ((1 - h) / (1 - l)) ^ p
theorem ratQ_bd {l h : Rat} (hl : Inn l) (hh : Inn h) {p f : Nat} (hp : p ≤ 32) (hf : f ≤ 32) : Bd (1000000 ^ 32) ((h / l) ^ f) ∧ Bd (1000000 ^ 32) (((1 - h) / (1 - l)) ^ p) ∧ Bd (1000000 ^ 64) (ratQ l h p f) ∧ Bd 1000000 (h / l) ∧ Bd 1000000 ((1 - h) / (1 - l)) := by
  have hl0 : l ≠ 0 := fun e => by have := hl.p; rw [e] at this; exact absurd this (by decide)
  have hl1 : 1 - l ≠ 0 := fun e => by have := hl.q0; rw [e] at this; exact absurd this (by decide)
  have h1 := hh.c.bd.div hl.c.bd hl0
  have h2 := hh.c.bdq.div hl.c.bdq hl1
  have h3 : Bd (1000000 ^ 32) ((h / l) ^ f) := (h1.pow f).mono (Nat.pow_le_pow_right (by omega) hf)
  have h4 : Bd (1000000 ^ 32) (((1 - h) / (1 - l)) ^ p) := (h2.pow p).mono (Nat.pow_le_pow_right (by omega) hp)
  exact ⟨h3, h4, (h3.mul h4).mono (by rw [← Nat.pow_add]; exact Nat.le_refl _), h1, h2⟩
/-- The decision of counts. -/
def decQ (l h a b : Rat) (p f : Nat) : Int := if 1 / a ≤ ratQ l h p f then 2 else if ratQ l h p f ≤ b then 1 else 0
end Go.Proofs.Ytnofljgmkdommaa

/- Contracts: sequential.whole, other. -/
namespace Go.Proofs.Ytnofljgmkdommaa
open Go.RowKit

end Go.Proofs.Ytnofljgmkdommaa

/- Plain laws of the sequential tests: the ratio grows with the failures; limits; runs. -/
namespace Go.Proofs.Ytnofljgmkdommaa

theorem one_le_div {l h : Rat} (hl : 0 < l) (hh : l ≤ h) : 1 ≤ h / l := by
  have hl0 : l ≠ 0 := fun e => by rw [e] at hl; exact absurd hl (by decide)
  refine Rat.le_of_mul_le_mul_right (c := l) ?_ hl
  rw [Rat.div_mul_cancel hl0, Rat.one_mul]
  exact hh
theorem div_le_one {l h : Rat} (hl : 0 < l) (hh : h ≤ l) : h / l ≤ 1 := by
  have hl0 : l ≠ 0 := fun e => by rw [e] at hl; exact absurd hl (by decide)
  refine Rat.le_of_mul_le_mul_right (c := l) ?_ hl
  rw [Rat.div_mul_cancel hl0, Rat.one_mul]
  exact hh
theorem div_nonneg' {l h : Rat} (hl : 0 ≤ l) (hh : 0 ≤ h) : 0 ≤ h / l := by
  rw [Rat.div_def]; exact Rat.mul_nonneg hh (inv_nn hl)
theorem ratQ_step {l h : Rat} (hl : Inn l) (hh : Inn h) (hlh : l < h) (p f : Nat) : ratQ l h (p + 1) f ≤ ratQ l h p (f + 1) := by
  have hX := one_le_div hl.p (Rat.le_of_lt hlh)
  have hY : (1 - h) / (1 - l) ≤ 1 := div_le_one hl.q0 (by grind)
  have hX0 : 0 ≤ h / l := div_nonneg' (Rat.le_of_lt hl.p) (Rat.le_of_lt hh.p)
  have hY0 : 0 ≤ (1 - h) / (1 - l) := div_nonneg' (Rat.le_of_lt hl.q0) (Rat.le_of_lt hh.q0)
  unfold ratQ
  generalize h / l = X at *
  generalize (1 - h) / (1 - l) = Y at *
  rw [Rat.pow_succ, Rat.pow_succ]
  have h1 : 0 ≤ X ^ f * Y ^ p := Rat.mul_nonneg (Rat.pow_nonneg hX0) (Rat.pow_nonneg hY0)
  have h2 : X ^ f * Y ^ p * Y ≤ X ^ f * Y ^ p * X := Rat.mul_le_mul_of_nonneg_left (Rat.le_trans hY hX) h1
  have e1 : X ^ f * (Y ^ p * Y) = X ^ f * Y ^ p * Y := by grind
  have e2 : X ^ f * X * Y ^ p = X ^ f * Y ^ p * X := by grind
  rw [e1, e2]
  exact h2
/-- Of n runs, with more failures the ratio is not less. -/
theorem ratQ_mono {l h : Rat} (hl : Inn l) (hh : Inn h) (hlh : l < h) (n f : Nat) : ∀ d, f + d ≤ n → ratQ l h (n - f) f ≤ ratQ l h (n - (f + d)) (f + d)
  | 0, _ => Rat.le_refl
  | d + 1, hd => by
    refine Rat.le_trans (ratQ_mono hl hh hlh n f d (by omega)) ?_
    have := ratQ_step hl hh hlh (n - (f + (d + 1))) (f + d)
    rwa [show n - (f + (d + 1)) + 1 = n - (f + d) by omega] at this
theorem decQ_range (l h a b : Rat) (p f : Nat) : decQ l h a b p f = 0 ∨ decQ l h a b p f = 1 ∨ decQ l h a b p f = 2 := by
  unfold decQ
  split
  · exact .inr (.inr rfl)
  · split
    · exact .inr (.inl rfl)
    · exact .inl rfl
theorem decQ_flaky {l h a b : Rat} {p f : Nat} : decQ l h a b p f = 2 ↔ 1 / a ≤ ratQ l h p f := by
  unfold decQ
  split
  · rename_i h1; simp [h1]
  · rename_i h1
    split <;> simp [h1]
theorem decQ_stable {l h a b : Rat} {p f : Nat} : decQ l h a b p f = 1 ↔ ¬ (1 / a ≤ ratQ l h p f) ∧ ratQ l h p f ≤ b := by
  unfold decQ
  split
  · rename_i h1; simp [h1]
  · rename_i h1
    split
    · rename_i h2; simp [h1, h2]
    · rename_i h2; simp [h1, h2]
theorem flaky_up {l h a b : Rat} (hl : Inn l) (hh : Inn h) (hlh : l < h) {n f g : Nat} (hfg : f ≤ g) (hg : g ≤ n) (hf : decQ l h a b (n - f) f = 2) : decQ l h a b (n - g) g = 2 := by
  rw [decQ_flaky] at hf ⊢
  have := ratQ_mono hl hh hlh n f (g - f) (by omega)
  rw [show f + (g - f) = g by omega] at this
  exact Rat.le_trans hf this
theorem stable_down {l h a b : Rat} (hl : Inn l) (hh : Inn h) (hlh : l < h) {n f g : Nat} (hfg : f ≤ g) (hg : g ≤ n) (hf : decQ l h a b (n - g) g = 1) : decQ l h a b (n - f) f = 1 := by
  rw [decQ_stable] at hf ⊢
  have := ratQ_mono hl hh hlh n f (g - f) (by omega)
  rw [show f + (g - f) = g by omega] at this
  exact ⟨fun h1 => hf.1 (Rat.le_trans h1 this), Rat.le_trans this hf.2⟩

/-! ### Limits -/
/-- The greatest number of [k, n] with d = 1. -/
def IsStab (d : Nat → Int) (k n : Nat) (s : Int) : Prop := (s = -1 ∧ ∀ g, k ≤ g → g ≤ n → d g ≠ 1) ∨ ∃ f : Nat, s = f ∧ k ≤ f ∧ f ≤ n ∧ d f = 1 ∧ ∀ g, f < g → g ≤ n → d g ≠ 1
/-- The least number of [k, n] with d = 2. -/
def IsFlak (d : Nat → Int) (k n : Nat) (s : Int) : Prop := (s = -1 ∧ ∀ g, k ≤ g → g ≤ n → d g ≠ 2) ∨ ∃ f : Nat, s = f ∧ k ≤ f ∧ f ≤ n ∧ d f = 2 ∧ ∀ g, k ≤ g → g < f → d g ≠ 2
theorem IsStab.uniq {d : Nat → Int} {k n : Nat} {s t : Int} (h : IsStab d k n s) (h' : IsStab d k n t) : s = t := by
  rcases h with ⟨rfl, h1⟩ | ⟨f, rfl, h1, h2, h3, h4⟩
  · rcases h' with ⟨rfl, _⟩ | ⟨g, rfl, k1, k2, k3, k4⟩
    · rfl
    · exact absurd k3 (h1 g k1 k2)
  · rcases h' with ⟨rfl, h5⟩ | ⟨g, rfl, k1, k2, k3, k4⟩
    · exact absurd h3 (h5 f h1 h2)
    · rcases Nat.lt_trichotomy f g with h6 | h6 | h6
      · exact absurd k3 (h4 g h6 k2)
      · rw [h6]
      · exact absurd h3 (k4 f h6 h2)
theorem IsFlak.uniq {d : Nat → Int} {k n : Nat} {s t : Int} (h : IsFlak d k n s) (h' : IsFlak d k n t) : s = t := by
  rcases h with ⟨rfl, h1⟩ | ⟨f, rfl, h1, h2, h3, h4⟩
  · rcases h' with ⟨rfl, _⟩ | ⟨g, rfl, k1, k2, k3, k4⟩
    · rfl
    · exact absurd k3 (h1 g k1 k2)
  · rcases h' with ⟨rfl, h5⟩ | ⟨g, rfl, k1, k2, k3, k4⟩
    · exact absurd h3 (h5 f h1 h2)
    · rcases Nat.lt_trichotomy f g with h6 | h6 | h6
      · exact absurd h3 (k4 f h1 h6)
      · rw [h6]
      · exact absurd k3 (h4 g k1 h6)
/-- Downwards: number k comes in. -/
theorem IsStab.down {d : Nat → Int} {k n : Nat} {s : Int} (h : IsStab d (k + 1) n s) (hk : k ≤ n) : IsStab d k n (if d k = 1 then max s k else s) := by
  by_cases hd : d k = 1
  · rw [if_pos hd]
    rcases h with ⟨rfl, h1⟩ | ⟨f, rfl, h1, h2, h3, h4⟩
    · refine .inr ⟨k, by omega, Nat.le_refl _, hk, hd, fun g h2 h3 => h1 g (by omega) h3⟩
    · refine .inr ⟨f, by omega, by omega, h2, h3, h4⟩
  · rw [if_neg hd]
    rcases h with ⟨rfl, h1⟩ | ⟨f, rfl, h1, h2, h3, h4⟩
    · refine .inl ⟨rfl, fun g h2 h3 => ?_⟩
      by_cases hg : g = k
      · subst hg; exact hd
      · exact h1 g (by omega) h3
    · exact .inr ⟨f, rfl, by omega, h2, h3, h4⟩
theorem IsFlak.down {d : Nat → Int} {k n : Nat} {s : Int} (h : IsFlak d (k + 1) n s) (hk : k ≤ n) : IsFlak d k n (if d k = 2 then (k : Int) else s) := by
  by_cases hd : d k = 2
  · rw [if_pos hd]
    exact .inr ⟨k, rfl, Nat.le_refl _, hk, hd, fun g h2 h3 => by omega⟩
  · rw [if_neg hd]
    rcases h with ⟨rfl, h1⟩ | ⟨f, rfl, h1, h2, h3, h4⟩
    · refine .inl ⟨rfl, fun g h2 h3 => ?_⟩
      by_cases hg : g = k
      · subst hg; exact hd
      · exact h1 g (by omega) h3
    · refine .inr ⟨f, rfl, by omega, h2, h3, fun g h5 h6 => ?_⟩
      by_cases hg : g = k
      · subst hg; exact hd
      · exact h4 g (by omega) h6
theorem IsStab.start (d : Nat → Int) (n : Nat) : IsStab d (n + 1) n (-1) := .inl ⟨rfl, fun g h1 h2 => by omega⟩
theorem IsFlak.start (d : Nat → Int) (n : Nat) : IsFlak d (n + 1) n (-1) := .inl ⟨rfl, fun g h1 h2 => by omega⟩
/-- Upwards: the numbers below k. -/
def UpStab (d : Nat → Int) (k : Nat) (s : Int) : Prop := (s = -1 ∧ ∀ g, g < k → d g ≠ 1) ∨ ∃ f : Nat, s = f ∧ f < k ∧ d f = 1 ∧ ∀ g, f < g → g < k → d g ≠ 1
def UpFlak (d : Nat → Int) (k : Nat) (s : Int) : Prop := (s = -1 ∧ ∀ g, g < k → d g ≠ 2) ∨ ∃ f : Nat, s = f ∧ f < k ∧ d f = 2 ∧ ∀ g, g < f → d g ≠ 2
theorem UpStab.start (d : Nat → Int) : UpStab d 0 (-1) := .inl ⟨rfl, fun g h => by omega⟩
theorem UpFlak.start (d : Nat → Int) : UpFlak d 0 (-1) := .inl ⟨rfl, fun g h => by omega⟩
theorem UpStab.up {d : Nat → Int} {k : Nat} {s : Int} (h : UpStab d k s) : UpStab d (k + 1) (if d k = 1 then (k : Int) else s) := by
  by_cases hd : d k = 1
  · rw [if_pos hd]; exact .inr ⟨k, rfl, by omega, hd, fun g h1 h2 => by omega⟩
  · rw [if_neg hd]
    rcases h with ⟨rfl, h1⟩ | ⟨f, rfl, h1, h2, h3⟩
    · refine .inl ⟨rfl, fun g h2 => ?_⟩
      by_cases hg : g = k
      · subst hg; exact hd
      · exact h1 g (by omega)
    · refine .inr ⟨f, rfl, by omega, h2, fun g h4 h5 => ?_⟩
      by_cases hg : g = k
      · subst hg; exact hd
      · exact h3 g h4 (by omega)
theorem UpFlak.up {d : Nat → Int} {k : Nat} {s : Int} (h : UpFlak d k s) : UpFlak d (k + 1) (if d k = 2 ∧ s < 0 then (k : Int) else s) := by
  rcases h with ⟨rfl, h1⟩ | ⟨f, rfl, h1, h2, h3⟩
  · by_cases hd : d k = 2
    · rw [if_pos ⟨hd, by omega⟩]; exact .inr ⟨k, rfl, by omega, hd, fun g h2 => h1 g h2⟩
    · rw [if_neg (fun h => hd h.1)]
      refine .inl ⟨rfl, fun g h2 => ?_⟩
      by_cases hg : g = k
      · subst hg; exact hd
      · exact h1 g (by omega)
  · rw [if_neg (fun h => by omega)]
    exact .inr ⟨f, rfl, by omega, h2, h3⟩
theorem UpStab.is {d : Nat → Int} {n : Nat} {s : Int} (h : UpStab d (n + 1) s) : IsStab d 0 n s := by
  rcases h with ⟨rfl, h1⟩ | ⟨f, rfl, h1, h2, h3⟩
  · exact .inl ⟨rfl, fun g _ h => h1 g (by omega)⟩
  · exact .inr ⟨f, rfl, by omega, by omega, h2, fun g h4 h5 => h3 g h4 (by omega)⟩
theorem UpFlak.is {d : Nat → Int} {n : Nat} {s : Int} (h : UpFlak d (n + 1) s) : IsFlak d 0 n s := by
  rcases h with ⟨rfl, h1⟩ | ⟨f, rfl, h1, h2, h3⟩
  · exact .inl ⟨rfl, fun g _ h => h1 g (by omega)⟩
  · exact .inr ⟨f, rfl, by omega, by omega, h2, fun g _ h5 => h3 g h5⟩
theorem IsStab.iff {d : Nat → Int} {n : Nat} {s : Int} (h : IsStab d 0 n s) (hd : ∀ f g, f ≤ g → g ≤ n → d g = 1 → d f = 1) {k : Nat} (hk : k ≤ n) : d k = 1 ↔ (k : Int) ≤ s := by
  rcases h with ⟨rfl, h1⟩ | ⟨f, rfl, -, h2, h3, h4⟩
  · exact ⟨fun h => absurd h (h1 k (by omega) hk), fun h => by omega⟩
  · constructor
    · intro h5
      rcases Nat.lt_or_ge f k with h6 | h6
      · exact absurd h5 (h4 k h6 hk)
      · omega
    · intro h5
      exact hd k f (by omega) h2 h3
theorem IsFlak.iff {d : Nat → Int} {n : Nat} {s : Int} (h : IsFlak d 0 n s) (hd : ∀ f g, f ≤ g → g ≤ n → d f = 2 → d g = 2) {k : Nat} (hk : k ≤ n) : d k = 2 ↔ (0 ≤ s ∧ s ≤ (k : Int)) := by
  rcases h with ⟨rfl, h1⟩ | ⟨f, rfl, -, h2, h3, h4⟩
  · exact ⟨fun h => absurd h (h1 k (by omega) hk), fun h => by omega⟩
  · constructor
    · intro h5
      rcases Nat.lt_or_ge k f with h6 | h6
      · exact absurd h5 (h4 k (by omega) h6)
      · omega
    · intro h5
      exact hd f k (by omega) hk h3

/-! ### Runs -/
/-- Outcomes are taken until there is a decision: the decision, and the passed and the failed ones. -/
def runR (d : Nat → Nat → Int) : List Bool → Nat → Nat → Int × Nat × Nat
  | [], p, f => (d p f, p, f)
  | b :: t, p, f => if d p f ≠ 0 then (d p f, p, f) else if b then runR d t p (f + 1) else runR d t (p + 1) f
/-- The same, looking behind each outcome. -/
def runP (d : Nat → Nat → Int) : List Bool → Nat → Nat → Int → Int × Nat × Nat
  | [], p, f, z => (z, p, f)
  | b :: t, p, f, _ => if d (if b then p else p + 1) (if b then f + 1 else f) ≠ 0 then (d (if b then p else p + 1) (if b then f + 1 else f), (if b then p else p + 1), (if b then f + 1 else f)) else runP d t (if b then p else p + 1) (if b then f + 1 else f) 0
theorem runP_eq (d : Nat → Nat → Int) : ∀ (l : List Bool) (p f : Nat), d p f = 0 → runP d l p f 0 = runR d l p f
  | [], p, f, h => by simp [runP, runR, h]
  | b :: t, p, f, h => by
    have e0 : runR d (b :: t) p f = if b = true then runR d t p (f + 1) else runR d t (p + 1) f := by rw [runR, if_neg (fun h' => h' h)]
    rw [e0, runP]
    cases b
    · simp only [Bool.false_eq_true, if_false]
      by_cases h2 : d (p + 1) f = 0
      · rw [if_neg (fun h' => h' h2), runP_eq d t _ _ h2]
      · rw [if_pos h2]
        cases t with
        | nil => rfl
        | cons c t => rw [runR, if_pos h2]
    · simp only [if_true]
      by_cases h2 : d p (f + 1) = 0
      · rw [if_neg (fun h' => h' h2), runP_eq d t _ _ h2]
      · rw [if_pos h2]
        cases t with
        | nil => rfl
        | cons c t => rw [runR, if_pos h2]
end Go.Proofs.Ytnofljgmkdommaa
