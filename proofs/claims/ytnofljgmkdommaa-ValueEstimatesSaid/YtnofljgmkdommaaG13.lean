/- Contracts of the functions that these laws reach: part 13: Contracts: the reference's fractions: Check; Contracts: the reference's fractions: order, Compare; Contracts: the reference's fractions: plus, Add, Sub, Mul; Contracts: the reference's fractions: Sub, Mul; Contracts: the reference's fractions: Pow. -/
import Derived.Test.YtnofljgmkdommaaG12
set_option linter.unusedVariables false
set_option linter.unusedSimpArgs false

/- Contracts: the reference's fractions: Check. -/
namespace Go.Proofs.Ytnofljgmkdommaa
open Go.RowKit

/-- One operand's box at the world's end. -/
structure F0 (w0 v : World) (a : Fa) (l k : List Nat) : Prop where
  bw : Below w0.heap.size w0 v
  c0 : v.cell? ⟨w0.heap.size, 0, none⟩ = some (.slice a.A a.n a.c)
  c1 : v.cell? ⟨w0.heap.size, 1, none⟩ = some (.slice a.B a.m a.d)
  sz : w0.heap.size < v.heap.size
  q : Fq v a l k
theorem F0.below {w0 v v' : World} {a : Fa} {l k : List Nat} (h : F0 w0 v a l k) (hb : Below v.heap.size v v') : F0 w0 v' a l k := by
  have h1 := h.sz
  refine ⟨h.bw.trans (hb.mono h.bw.size), ?_, ?_, Nat.lt_of_lt_of_le h.sz hb.size, h.q.below hb⟩
  · rw [hb.cell (by simp; omega)]; exact h.c0
  · rw [hb.cell (by simp; omega)]; exact h.c1
theorem F0.mk0 {w0 : World} {a : Fa} {l k : List Nat} (h : Fq w0 a l k) (t : TypeId) : F0 w0 (w0.alloc (.cells #[.slice a.A a.n a.c, .slice a.B a.m a.d] t)) a l k :=
  ⟨(Below.refl _ _).alloc (Nat.le_refl _) _, by simp [go_sem], by simp [go_sem], by simp, h.alloc _⟩
theorem ul_lm1 (w : World) (t : TypeId) : Ul (w.alloc (.cells #[.int .u32 1] t)) none (some ⟨w.heap.size, 0, none⟩) 1 (lm 1) := by
  rw [lm_one]
  exact ul_one (x := 1) (by omega) t rfl
set_option maxRecDepth 100000 in
set_option maxHeartbeats 8000000 in
theorem r2check_any (w : World) (a : Fa) (l k : List Nat) (hq : Fq w a l k) :
    Calls Try.prog 46 #[.agg #[.slice a.A a.n a.c, .slice a.B a.m a.d]] w fun e w' => e = .returned (.bool (fracOf l k).isSome) ∧ Below w.heap.size w w' := by
  have hqn := hq.n
  have hqm := hq.m
  by_cases h1 : natB l = false
  · have HF := hide (fracOf_false (l := l) (k := k) (.inl h1))
    have HB := hide h1
    clear h1
    go_enter Try.func46, Try.ntmps46
    go_upto_region 1 with (fail)
    generalize hW : World.alloc w _ = v
    have HQ := hide (show F0 w v a l k by rw [← hW]; exact F0.mk0 hq _)
    have hc0 := HQ.out.c0
    have hc1 := HQ.out.c1
    clear hW hq
    go_wp2_with ((go_at_call 70; (with_reducible refine (r1check_any _ none a.A a.n a.c l HQ.out.q.u (by omega)).mono ?_); rintro e w' ⟨rfl, hw⟩; subst w'; rw [HB.out]))
    refine bodyPost_ret (v := .bool false) (by simp [results, Try.results46, go_sem, *]) rfl ⟨by rw [HF.out]; rfl, HQ.out.bw⟩
  · have h1' : natB l = true := by simpa using h1
    by_cases h2 : natB k = false
    · have HF := hide (fracOf_false (l := l) (.inr (.inl h2)))
      have HB := hide h1'
      have HC := hide h2
      clear h1 h1' h2
      go_enter Try.func46, Try.ntmps46
      go_upto_region 1 with (fail)
      generalize hW : World.alloc w _ = v
      have HQ := hide (show F0 w v a l k by rw [← hW]; exact F0.mk0 hq _)
      have hc0 := HQ.out.c0
      have hc1 := HQ.out.c1
      clear hW hq
      go_wp2_with (first | ((go_at_call 70; (with_reducible refine (r1check_any _ none a.A a.n a.c l HQ.out.q.u (by omega)).mono ?_); rintro e w' ⟨rfl, hw⟩; subst w'; rw [HB.out])) | ((go_at_call 70; (with_reducible refine (r1check_any _ none a.B a.m a.d k HQ.out.q.v (by omega)).mono ?_); rintro e w' ⟨rfl, hw⟩; subst w'; rw [HC.out])))
      refine bodyPost_ret (v := .bool false) (by simp [results, Try.results46, go_sem, *]) rfl ⟨by rw [HF.out]; rfl, HQ.out.bw⟩
    · have h2' : natB k = true := by simpa using h2
      have HB := hide h1'
      have HC := hide h2'
      have hl := (natB_iff.1 h1').2
      have hk := (natB_iff.1 h2').2
      have HL := hide hl
      have HK := hide hk
      by_cases h0 : a.m = 0
      · have hk0 : k = [] := List.eq_nil_of_length_eq_zero (hq.v.len.trans h0)
        have HF := hide (fracOf_false (l := l) (.inr (.inr hk0)))
        have d0 : decide ((0 : Int) < (a.m : Int)) = false := decide_eq_false (by omega)
        have d0' : decide (0 < a.m) = false := decide_eq_false (by omega)
        clear h0 h1 h1' h2 h2' hl hk
        go_enter Try.func46, Try.ntmps46
        go_upto_region 1 with (fail)
        generalize hW : World.alloc w _ = v
        have HQ := hide (show F0 w v a l k by rw [← hW]; exact F0.mk0 hq _)
        have hc0 := HQ.out.c0
        have hc1 := HQ.out.c1
        clear hW hq
        go_wp2_with (first | ((go_at_call 70; (with_reducible refine (r1check_any _ none a.A a.n a.c l HQ.out.q.u (by omega)).mono ?_); rintro e w' ⟨rfl, hw⟩; subst w'; rw [HB.out])) | ((go_at_call 70; (with_reducible refine (r1check_any _ none a.B a.m a.d k HQ.out.q.v (by omega)).mono ?_); rintro e w' ⟨rfl, hw⟩; subst w'; rw [HC.out])))
        refine bodyPost_ret (v := .bool false) (by simp [results, Try.results46, go_sem, *]) rfl ⟨by rw [HF.out]; rfl, HQ.out.bw⟩
      · have hk0 : lv k ≠ 0 := by
          intro h
          apply h0
          have := hq.v.len
          rw [hk, h, lm_zero] at this
          exact this.symm
        have d0 : decide ((0 : Int) < (a.m : Int)) = true := decide_eq_true (by omega)
        have d0' : decide (0 < a.m) = true := decide_eq_true (by omega)
        have HF := hide (show (fracOf l k).isSome = (cmpN (Nat.gcd (lv l) (lv k)) 1 == 0) by
          unfold fracOf
          by_cases hg : Nat.gcd (lv l) (lv k) = 1
          · rw [if_pos ⟨h1', h2', hk0, hg⟩, hg, cmpN_eq]; rfl
          · rw [if_neg (fun h => hg h.2.2.2)]
            have : cmpN (Nat.gcd (lv l) (lv k)) 1 ≠ 0 := fun h => hg (cmpN_zero.1 h)
            simp [this])
        have hkp := Nat.pos_of_ne_zero hk0
        have hn128 : a.n ≤ 128 := by have h3 := (natB_iff.1 h1').1; have h4 := hq.u.len; omega
        have hm128 : a.m ≤ 128 := by have h3 := (natB_iff.1 h2').1; have h4 := hq.v.len; omega
        have hgl : Nat.gcd (lv l) (lv k) ≤ lv k := Nat.le_of_dvd hkp (Nat.gcd_dvd_right _ _)
        have HG := hide (show (lm (Nat.gcd (lv l) (lv k))).length ≤ 1000 by
          have := lm_length_mono hgl
          rw [← hk, hq.v.len] at this
          omega)
        clear h1 h1' h2 h2' hl hk hk0 h0
        go_enter Try.func46, Try.ntmps46
        go_upto_region 1 with (fail)
        generalize hW : World.alloc w _ = v
        have HQ := hide (show F0 w v a l k by rw [← hW]; exact F0.mk0 hq _)
        have hc0 := HQ.out.c0
        have hc1 := HQ.out.c1
        clear hW hq
        have HLK := hide (show Ul v none a.A a.n (lm (lv l)) ∧ Ul v none a.B a.m (lm (lv k)) from ⟨by rw [← HL.out]; exact HQ.out.q.u, by rw [← HK.out]; exact HQ.out.q.v⟩)
        go_wp2_with (first
          | ((go_at_call 70; (with_reducible refine (r1check_any _ none a.A a.n a.c l HQ.out.q.u (by omega)).mono ?_); rintro e w' ⟨rfl, hw⟩; subst w'; rw [HB.out]))
          | ((go_at_call 70; (with_reducible refine (r1check_any _ none a.B a.m a.d k HQ.out.q.v (by omega)).mono ?_); rintro e w' ⟨rfl, hw⟩; subst w'; rw [HC.out]))
          | (go_at_call 72; (with_reducible refine (r1common_any _ none none a.A a.n a.c a.B a.m a.d (lv l) (lv k) HLK.out.1 HLK.out.2 (by omega) (by omega)).mono ?_); rintro e w1 ⟨A1, m1, c1, rfl, hc1, hu1, hb1⟩; have HU1 := hide hu1; have HM1 := hide (show m1 ≤ 1000 by rw [← hu1.len]; exact HG.out); have HB1 := hide (HQ.out.bw.trans (hb1.mono HQ.out.bw.size)); clear hu1 hb1)
          | (go_at_call 71; (with_reducible refine (r1order_any _ none none A1 m1 c1 _ 1 1 (Nat.gcd (lv l) (lv k)) 1 (HU1.out.alloc _) (ul_lm1 _ _) (Nat.le_trans HM1.out (by omega)) (by omega)).mono ?_); rintro e w3 ⟨rfl, hd⟩; have HB3 := hide ((HB1.out.alloc HB1.out.size _).trans (hd.below.mono (by have := HB1.out.size; simp; omega))); clear hd))
        refine bodyPost_ret (v := .bool (cmpN (Nat.gcd (lv l) (lv k)) 1 == 0)) (by simp [results, Try.results46, go_sem, *]) rfl ⟨by rw [HF.out], HB3.out⟩
end Go.Proofs.Ytnofljgmkdommaa

/- Contracts: the reference's fractions: order, Compare. -/
namespace Go.Proofs.Ytnofljgmkdommaa
open Go.RowKit

set_option maxRecDepth 100000 in
set_option maxHeartbeats 8000000 in
theorem r2order_any (w : World) (a b : Fa) (r s : Rat) (hr0 : 0 ≤ r) (hs0 : 0 ≤ s) (hr : fitsR r = true) (hs : fitsR s = true) (ha : Lo w a r) (hb : Lo w b s) :
    Calls Try.prog 73 #[.agg #[.slice a.A a.n a.c, .slice a.B a.m a.d], .agg #[.slice b.A b.n b.c, .slice b.B b.m b.d]] w fun e w' => e = .returned (.int .i64 (cmpQ r s)) ∧ Below w.heap.size w w' := by
  obtain ⟨hn1, hn2⟩ := Fq.small ha hr
  obtain ⟨hn3, hn4⟩ := Fq.small hb hs
  have HC := hide (cmp_eq hr0 hs0)
  have hL1 : (lm (rn r)).length ≤ 1000 := by rw [ha.u.len]; omega
  have hL2 : (lm r.den).length ≤ 1000 := by rw [ha.v.len]; omega
  have hL3 : (lm (rn s)).length ≤ 1000 := by rw [hb.u.len]; omega
  have hL4 : (lm s.den).length ≤ 1000 := by rw [hb.v.len]; omega
  unfold Lo at ha hb
  go_enter Try.func73, Try.ntmps73
  go_upto_region 1 with (fail)
  generalize hW : World.alloc (World.alloc w _) _ = v
  have HFB := hide (show Fb w v a b _ _ _ _ by rw [← hW]; exact Fb.mk0 ha hb _ _)
  obtain ⟨a0, a1, b0, b1⟩ := HFB.out.ca
  have hz := HFB.out.sz
  clear hW ha hb
  go_region_held3 (fun W => (W.cell? ⟨w.heap.size, 0, none⟩ = some (.slice a.A a.n a.c) ∧ W.cell? ⟨w.heap.size, 1, none⟩ = some (.slice a.B a.m a.d) ∧ W.cell? ⟨w.heap.size + 1, 0, none⟩ = some (.slice b.A b.n b.c) ∧ W.cell? ⟨w.heap.size + 1, 1, none⟩ = some (.slice b.B b.m b.d))) (first | with_reducible exact k4 | with_reducible exact k2 | with_reducible exact k1 | exact ⟨a0, a1, b0, b1⟩) (first
    | (go_at_call 67; (with_reducible refine (r1times_any _ none none a.A a.n a.c b.B b.m b.d (rn r) s.den (by first | exact HFB.out.qa.u | exact HFB.out.drew.qa.u) (by first | exact HFB.out.qb.v | exact HFB.out.drew.qb.v) (by omega) (by omega)).mono ?_); rintro e w1 ⟨A1, m1, c1, rfl, hc1, hu1, hb1⟩; have hl1 := lm_length_mul (rn r) s.den; rw [hu1.len] at hl1; have hM1 : m1 ≤ 2000 := (by omega); have HU1 := hide hu1; have HF1 := hide ((by first | exact HFB.out.below hb1 | exact HFB.out.drew.below hb1) : Fb w w1 a b _ _ _ _); have k1 := HF1.out.ca; clear hu1 hb1)
    | (go_at_call 67; (with_reducible refine (r1times_any _ none none b.A b.n b.c a.B a.m a.d (rn s) r.den (by first | exact HF1.out.qb.u | exact HF1.out.drew.qb.u) (by first | exact HF1.out.qa.v | exact HF1.out.drew.qa.v) (by omega) (by omega)).mono ?_); rintro e w2 ⟨A2, m2, c2, rfl, hc2, hu2, hb2⟩; have hl2 := lm_length_mul (rn s) r.den; rw [hu2.len] at hl2; have hM2 : m2 ≤ 2000 := (by omega); have HU2 := hide hu2; have HU1b := hide (HU1.out.below hb2); have HF2 := hide (HF1.out.below hb2); have k2 := HF2.out.ca; clear hu2 hb2)
    | (go_at_call 71; (with_reducible refine (r1order_any _ none none A1 m1 c1 A2 m2 c2 _ _ HU1b.out HU2.out (by omega) (by omega)).mono ?_); rintro e w4 ⟨he, hd⟩; rw [HC.out] at he; subst he; have HD := hide (HF2.out.below hd.below); have k4 := HD.out.ca; clear hd))
  go_wp2_with fail
  refine bodyPost_ret (v := .int .i64 (cmpQ r s)) (by simp [results, Try.results73, go_sem, *]) rfl ⟨rfl, HD.out.bw⟩
set_option maxRecDepth 100000 in
set_option maxHeartbeats 8000000 in
theorem r2cmp_any (w : World) (a b : Fa) (l k l' k' : List Nat) (ha : Fq w a l k) (hb : Fq w b l' k') :
    Calls Try.prog 47 #[.agg #[.slice a.A a.n a.c, .slice a.B a.m a.d], .agg #[.slice b.A b.n b.c, .slice b.B b.m b.d]] w fun e w' => e = .returned (.int .i64 (cmpO (fracOf l k) (fracOf l' k'))) ∧ Below w.heap.size w w' := by
  rcases hA : fracOf l k with _ | r
  · have HA := hide hA
    clear hA
    go_enter Try.func47, Try.ntmps47
    go_upto_region 1 with (fail)
    generalize hW : World.alloc (World.alloc w _) _ = v
    have HFB := hide (show Fb w v a b _ _ _ _ by rw [← hW]; exact Fb.mk0 ha hb _ _)
    obtain ⟨a0, a1, b0, b1⟩ := HFB.out.ca
    have hz := HFB.out.sz
    clear hW ha hb
    go_wp2_with ((go_at_call 46; (with_reducible refine (r2check_any _ a l k HFB.out.qa).mono ?_); rintro e w1 ⟨he, hb1⟩; rw [HA.out] at he; subst he; have HF1 := hide (HFB.out.below hb1); obtain ⟨c0, c1, c2, c3⟩ := HF1.out.ca; clear hb1))
    refine bodyPost_ret (v := .int .i64 0) (by simp [results, Try.results47, go_sem, *]) rfl ⟨by rw [cmpO_none_l], HF1.out.bw⟩
  · rcases hB : fracOf l' k' with _ | s
    · have HA := hide hA
      have HB := hide hB
      clear hA hB
      go_enter Try.func47, Try.ntmps47
      go_upto_region 1 with (fail)
      generalize hW : World.alloc (World.alloc w _) _ = v
      have HFB := hide (show Fb w v a b _ _ _ _ by rw [← hW]; exact Fb.mk0 ha hb _ _)
      obtain ⟨a0, a1, b0, b1⟩ := HFB.out.ca
      have hz := HFB.out.sz
      clear hW ha hb
      go_wp2_with (first | (go_at_call 46; (with_reducible refine (r2check_any _ a l k HFB.out.qa).mono ?_); rintro e w1 ⟨he, hb1⟩; rw [HA.out] at he; subst he; have HF1 := hide (HFB.out.below hb1); obtain ⟨c0, c1, c2, c3⟩ := HF1.out.ca; clear hb1) | (go_at_call 46; (with_reducible refine (r2check_any _ b l' k' HF1.out.qb).mono ?_); rintro e w2 ⟨he, hb2⟩; rw [HB.out] at he; subst he; have HF2 := hide (HF1.out.below hb2); obtain ⟨e0, e1, e2, e3⟩ := HF2.out.ca; clear hb2))
      refine bodyPost_ret (v := .int .i64 0) (by simp [results, Try.results47, go_sem, *]) rfl ⟨by rw [cmpO_none_r], HF2.out.bw⟩
    · have HA := hide hA
      have HB := hide hB
      obtain ⟨rfl, rfl, hr0, hr⟩ := fracOf_some hA
      obtain ⟨rfl, rfl, hs0, hs⟩ := fracOf_some hB
      obtain ⟨hz1, hz2⟩ := Fq.small ha hr
      obtain ⟨hz3, hz4⟩ := Fq.small hb hs
      clear hA hB
      go_enter Try.func47, Try.ntmps47
      go_upto_region 1 with (fail)
      generalize hW : World.alloc (World.alloc w _) _ = v
      have HFB := hide (show Fb w v a b _ _ _ _ by rw [← hW]; exact Fb.mk0 ha hb _ _)
      obtain ⟨a0, a1, b0, b1⟩ := HFB.out.ca
      have hz := HFB.out.sz
      clear hW ha hb
      go_wp2_with (first
        | (go_at_call 46; (with_reducible refine (r2check_any _ a _ _ HFB.out.qa).mono ?_); rintro e w1 ⟨he, hb1⟩; rw [HA.out] at he; subst he; have HF1 := hide (HFB.out.below hb1); obtain ⟨c0, c1, c2, c3⟩ := HF1.out.ca; clear hb1)
        | (go_at_call 46; (with_reducible refine (r2check_any _ b _ _ HF1.out.qb).mono ?_); rintro e w2 ⟨he, hb2⟩; rw [HB.out] at he; subst he; have HF2 := hide (HF1.out.below hb2); obtain ⟨e0, e1, e2, e3⟩ := HF2.out.ca; clear hb2)
        | (go_at_call 73; refine (r2order_any _ a b r s hr0 hs0 hr hs HF2.out.qa HF2.out.qb).mono ?_; rintro e w3 ⟨rfl, hb3⟩; have HF3 := hide (HF2.out.below hb3); clear hb3))
      refine bodyPost_ret (v := .int .i64 (cmpQ r s)) (by simp [results, Try.results47, go_sem, *]) rfl ⟨rfl, HF3.out.bw⟩
end Go.Proofs.Ytnofljgmkdommaa

/- Contracts: the reference's fractions: plus, Add, Sub, Mul. -/
namespace Go.Proofs.Ytnofljgmkdommaa
open Go.RowKit

theorem lm_length_add2 {x y k : Nat} (hx : (lm x).length ≤ k) (hy : (lm y).length ≤ k) : (lm (x + y)).length ≤ k + 1 := by
  rw [lm_length_le] at hx hy ⊢
  have : 4294967296 ^ (k + 1) = 4294967296 ^ k * 4294967296 := by rw [Nat.pow_succ]
  omega
theorem fits_len {r : Rat} (h : fitsR r = true) : (lm (rn r)).length ≤ 128 ∧ (lm r.den).length ≤ 128 := by
  simpa only [fitsR, Bool.and_eq_true, decide_eq_true_eq] using h
set_option maxRecDepth 100000 in
set_option maxHeartbeats 8000000 in
theorem r2plus_any (w : World) (a b : Fa) (r s : Rat) (hr0 : 0 ≤ r) (hs0 : 0 ≤ s) (hr : fitsR r = true) (hs : fitsR s = true) (ha : Lo w a r) (hb : Lo w b s) :
    Calls Try.prog 65 #[.agg #[.slice a.A a.n a.c, .slice a.B a.m a.d], .agg #[.slice b.A b.n b.c, .slice b.B b.m b.d]] w fun e w' => ∃ c : Fa, e = .returned (.agg #[.slice c.A c.n c.c, .slice c.B c.m c.d]) ∧ Lo w' c (r + s) ∧ Below w.heap.size w w' := by
  obtain ⟨hn1, hn2⟩ := Fq.small ha hr
  obtain ⟨hn3, hn4⟩ := Fq.small hb hs
  obtain ⟨hL1, hL2⟩ := fits_len hr
  obtain ⟨hL3, hL4⟩ := fits_len hs
  have HM := hide (mk_add hr0 hs0)
  have hdp : 0 < r.den * s.den := Nat.mul_pos r.den_pos s.den_pos
  unfold Lo at ha hb
  go_enter Try.func65, Try.ntmps65
  go_upto_region 1 with (fail)
  generalize hW : World.alloc (World.alloc (World.alloc w _) _) _ = v
  have HFB := hide (show Fb w v a b _ _ _ _ by rw [← hW]; exact (Fb.mk0 ha hb _ _).below ((Below.refl _ _).alloc (Nat.le_refl _) _))
  have HRB := hide (show Rb v (w.heap.size + 2) by rw [← hW]; exact Rb.mk0 _ (by simp))
  obtain ⟨a0, a1, b0, b1⟩ := HFB.out.ca
  obtain ⟨r0, r1, rf, rz, -⟩ := HRB.out
  have hz := HFB.out.sz
  clear hW ha hb
  go_region_held3 (fun W => (W.cell? ⟨w.heap.size, 0, none⟩ = some (.slice a.A a.n a.c) ∧ W.cell? ⟨w.heap.size, 1, none⟩ = some (.slice a.B a.m a.d) ∧ W.cell? ⟨w.heap.size + 1, 0, none⟩ = some (.slice b.A b.n b.c) ∧ W.cell? ⟨w.heap.size + 1, 1, none⟩ = some (.slice b.B b.m b.d))) (first | with_reducible exact keep_put (Nat.lt_succ_self _) k5 | with_reducible exact k5 | with_reducible exact k4 | with_reducible exact k3 | with_reducible exact k2 | with_reducible exact k1 | exact ⟨a0, a1, b0, b1⟩) (first
    | (go_at_call 67; (with_reducible refine (r1times_any _ none none a.A a.n a.c b.B b.m b.d (rn r) s.den (by first | exact HFB.out.qa.u | exact HFB.out.drew.qa.u) (by first | exact HFB.out.qb.v | exact HFB.out.drew.qb.v) (by omega) (by omega)).mono ?_); rintro e w1 ⟨A1, m1, c1, rfl, hc1, hu1, hb1⟩; have hl1 := lm_length_mul (rn r) s.den; rw [hu1.len] at hl1; have hM1 : m1 ≤ 256 := (by omega); have HU1 := hide hu1; have HF1 := hide ((by first | exact HFB.out.below hb1 | exact HFB.out.drew.below hb1) : Fb w w1 a b _ _ _ _); have HR1 := hide ((by first | exact HRB.out.below hb1 | exact HRB.out.drew.below hb1) : Rb w1 (w.heap.size + 2)); have k1 := HF1.out.ca; clear hu1 hb1)
    | (go_at_call 67; (with_reducible refine (r1times_any _ none none b.A b.n b.c a.B a.m a.d (rn s) r.den (by first | exact HF1.out.qb.u | exact HF1.out.drew.qb.u) (by first | exact HF1.out.qa.v | exact HF1.out.drew.qa.v) (by omega) (by omega)).mono ?_); rintro e w2 ⟨A2, m2, c2, rfl, hc2, hu2, hb2⟩; have hl2 := lm_length_mul (rn s) r.den; rw [hu2.len] at hl2; have hM2 : m2 ≤ 256 := (by omega); have HU2 := hide hu2; have HU1b := hide (HU1.out.below hb2); have HF2 := hide (HF1.out.below hb2); have HR2 := hide (HR1.out.below hb2); have k2 := HF2.out.ca; clear hu2 hb2)
    | (go_at_call 85; (with_reducible refine (r1plus_any _ none none A1 m1 c1 A2 m2 c2 _ _ HU1b.out HU2.out (by omega) (by omega)).mono ?_); rintro e w3 ⟨A3, m3, c3, rfl, hc3, hu3, hb3⟩; have hl3 := lm_length_add2 (k := 256) (by rw [HU1b.out.len]; exact hM1) (by rw [HU2.out.len]; exact hM2); rw [hu3.len] at hl3; have HU3 := hide hu3; have HF3 := hide (HF2.out.below hb3); have HR3 := hide (HR2.out.below hb3); have k3 := HF3.out.ca; clear hu3 hb3)
    | (go_at_call 67; (with_reducible refine (r1times_any _ none none a.B a.m a.d b.B b.m b.d r.den s.den HF3.out.qa.v HF3.out.qb.v (by omega) (by omega)).mono ?_); rintro e w4 ⟨A4, m4, c4, rfl, hc4, hu4, hb4⟩; have hl4 := lm_length_mul r.den s.den; rw [hu4.len] at hl4; have hM4 : m4 ≤ 256 := (by omega); have HU4 := hide hu4; have HU3b := hide (HU3.out.below hb4); have HF4 := hide (HF3.out.below hb4); have HR4 := hide (HR3.out.below hb4); have k4 := HF4.out.ca; clear hu4 hb4)
    | (go_at_call 66; (with_reducible refine (r2lowest_any _ none none A3 m3 c3 A4 m4 c4 _ _ HU3b.out HU4.out (by omega) (by omega) hdp).mono ?_); rintro e w5 ⟨c, rfl, ho, hb5⟩; rw [HM.out] at ho; have HO := hide ho; have HF5 := hide (HF4.out.below hb5); have HR5 := hide (HR4.out.below hb5); have k5 := HF5.out.ca; obtain ⟨q0, q1, q2, q3, -⟩ := HR5.out; clear ho hb5))
  go_wp2_with fail
  refine bodyPost_ret (v := .agg #[.slice c.A c.n c.c, .slice c.B c.m c.d]) (by simp [results, Try.results65, go_sem, *]) rfl ⟨c, rfl, Fq.put2 HO.out HR5.out.nb _ _ (by simp), Rb.end0 HF5.out.bw (by omega) _ _⟩
set_option maxRecDepth 100000 in
set_option maxHeartbeats 8000000 in
theorem r2add_any (w : World) (a b : Fa) (l k l' k' : List Nat) (ha : Fq w a l k) (hb : Fq w b l' k') :
    Calls Try.prog 39 #[.agg #[.slice a.A a.n a.c, .slice a.B a.m a.d], .agg #[.slice b.A b.n b.c, .slice b.B b.m b.d]] w fun e w' => Ret w (addR (fracOf l k) (fracOf l' k')) e w' := by
  rcases hA : fracOf l k with _ | r
  · have HA := hide hA
    clear hA
    go_enter Try.func39, Try.ntmps39
    go_upto_region 1 with (fail)
    generalize hW : World.alloc (World.alloc (World.alloc w _) _) _ = v
    have HFB := hide (show Fb w v a b _ _ _ _ by rw [← hW]; exact (Fb.mk0 ha hb _ _).below ((Below.refl _ _).alloc (Nat.le_refl _) _))
    have HRB := hide (show Rb v (w.heap.size + 2) by rw [← hW]; exact Rb.mk0 _ (by simp))
    obtain ⟨a0, a1, b0, b1⟩ := HFB.out.ca
    obtain ⟨r0, r1, rf, rz, -⟩ := HRB.out
    have hz := HFB.out.sz
    clear hW ha hb
    go_wp2_with ((go_at_call 46; (with_reducible refine (r2check_any _ a l k HFB.out.qa).mono ?_); rintro e w1 ⟨he, hb1⟩; rw [HA.out] at he; subst he; have HF1 := hide (HFB.out.below hb1); have HR1 := hide (HRB.out.below hb1); obtain ⟨c0, c1, c2, c3⟩ := HF1.out.ca; obtain ⟨x0, x1, x2, x3, -⟩ := HR1.out; clear hb1))
    refine bodyPost_ret (v := .tuple #[.agg #[.slice none 0 0, .slice none 0 0], .int .i64 1]) (by simp [results, Try.results39, go_sem, *]) rfl ⟨⟨none, 0, 0, none, 0, 0⟩, by rw [addR, opR_none_l], by rw [addR, opR_none_l]; exact Fo.nil _, Rb.end0 HF1.out.bw (by omega) _ _⟩
  rcases hB : fracOf l' k' with _ | s
  · have HA := hide hA
    have HB := hide hB
    clear hA hB
    go_enter Try.func39, Try.ntmps39
    go_upto_region 1 with (fail)
    generalize hW : World.alloc (World.alloc (World.alloc w _) _) _ = v
    have HFB := hide (show Fb w v a b _ _ _ _ by rw [← hW]; exact (Fb.mk0 ha hb _ _).below ((Below.refl _ _).alloc (Nat.le_refl _) _))
    have HRB := hide (show Rb v (w.heap.size + 2) by rw [← hW]; exact Rb.mk0 _ (by simp))
    obtain ⟨a0, a1, b0, b1⟩ := HFB.out.ca
    obtain ⟨r0, r1, rf, rz, -⟩ := HRB.out
    have hz := HFB.out.sz
    clear hW ha hb
    go_wp2_with (first | (go_at_call 46; (with_reducible refine (r2check_any _ a l k HFB.out.qa).mono ?_); rintro e w1 ⟨he, hb1⟩; rw [HA.out] at he; subst he; have HF1 := hide (HFB.out.below hb1); have HR1 := hide (HRB.out.below hb1); obtain ⟨c0, c1, c2, c3⟩ := HF1.out.ca; obtain ⟨x0, x1, x2, x3, -⟩ := HR1.out; clear hb1) | (go_at_call 46; (with_reducible refine (r2check_any _ b l' k' HF1.out.qb).mono ?_); rintro e w2 ⟨he, hb2⟩; rw [HB.out] at he; subst he; have HF2 := hide (HF1.out.below hb2); have HR2 := hide (HR1.out.below hb2); obtain ⟨e0, e1, e2, e3⟩ := HF2.out.ca; obtain ⟨y0, y1, y2, y3, -⟩ := HR2.out; clear hb2))
    refine bodyPost_ret (v := .tuple #[.agg #[.slice none 0 0, .slice none 0 0], .int .i64 1]) (by simp [results, Try.results39, go_sem, *]) rfl ⟨⟨none, 0, 0, none, 0, 0⟩, by rw [addR, opR_none_r], by rw [addR, opR_none_r]; exact Fo.nil _, Rb.end0 HF2.out.bw (by omega) _ _⟩
  have HA := hide hA
  have HB := hide hB
  obtain ⟨rfl, rfl, hr0, hr⟩ := fracOf_some hA
  obtain ⟨rfl, rfl, hs0, hs⟩ := fracOf_some hB
  obtain ⟨hz1, hz2⟩ := Fq.small ha hr
  obtain ⟨hz3, hz4⟩ := Fq.small hb hs
  clear hA hB
  have HX := hide (show addR (some r) (some s) = limR (r + s) from rfl)
  have hrs : 0 ≤ r + s := Rat.add_nonneg hr0 hs0
  go_enter Try.func39, Try.ntmps39
  go_upto_region 1 with (fail)
  generalize hW : World.alloc (World.alloc (World.alloc w _) _) _ = v
  have HFB := hide (show Fb w v a b _ _ _ _ by rw [← hW]; exact (Fb.mk0 ha hb _ _).below ((Below.refl _ _).alloc (Nat.le_refl _) _))
  have HRB := hide (show Rb v (w.heap.size + 2) by rw [← hW]; exact Rb.mk0 _ (by simp))
  obtain ⟨a0, a1, b0, b1⟩ := HFB.out.ca
  obtain ⟨r0, r1, rf, rz, -⟩ := HRB.out
  have hz := HFB.out.sz
  clear hW ha hb
  go_wp2_with (first
    | (go_at_call 46; (with_reducible refine (r2check_any _ a _ _ HFB.out.qa).mono ?_); rintro e w1 ⟨he, hb1⟩; rw [HA.out] at he; subst he; have HF1 := hide (HFB.out.below hb1); have HR1 := hide (HRB.out.below hb1); obtain ⟨c0, c1, c2, c3⟩ := HF1.out.ca; obtain ⟨x0, x1, x2, x3, -⟩ := HR1.out; clear hb1)
    | (go_at_call 46; (with_reducible refine (r2check_any _ b _ _ HF1.out.qb).mono ?_); rintro e w2 ⟨he, hb2⟩; rw [HB.out] at he; subst he; have HF2 := hide (HF1.out.below hb2); have HR2 := hide (HR1.out.below hb2); obtain ⟨e0, e1, e2, e3⟩ := HF2.out.ca; obtain ⟨y0, y1, y2, y3, -⟩ := HR2.out; clear hb2)
    | (go_at_call 65; (refine (r2plus_any _ a b r s hr0 hs0 hr hs HF2.out.qa HF2.out.qb).mono ?_); rintro e w3 ⟨c, rfl, ho, hb3⟩; have HO3 := hide ho; have HF3 := hide (HF2.out.below hb3); have HR3 := hide (HR2.out.below hb3); obtain ⟨z0, z1, z2, z3, -⟩ := HR3.out; clear ho hb3)
    | (go_at_call 64; (with_reducible refine (r2limited_any _ c (r + s) hrs HO3.out).mono ?_); rintro e w5 ⟨q, rfl, ho, hb5⟩; rw [← HX.out] at ho; have HO := hide ho; have HF5 := hide (HF3.out.below hb5); have HR5 := hide (HR3.out.below hb5); obtain ⟨q0, q1, q2, q3, -⟩ := HR5.out; clear ho hb5))
  refine bodyPost_ret (v := .tuple #[.agg #[.slice q.A q.n q.c, .slice q.B q.m q.d], .int .i64 (limR (r + s)).2]) (by simp [results, Try.results39, go_sem, *]) rfl ⟨q, by rw [HX.out], HO.out.put2 HR5.out.nb _ _ (by simp), Rb.end0 HF5.out.bw (by omega) _ _⟩
end Go.Proofs.Ytnofljgmkdommaa

/- Contracts: the reference's fractions: Sub, Mul. -/
namespace Go.Proofs.Ytnofljgmkdommaa
open Go.RowKit

set_option maxRecDepth 100000 in
set_option maxHeartbeats 8000000 in
theorem r2mul_any (w : World) (a b : Fa) (l k l' k' : List Nat) (ha : Fq w a l k) (hb : Fq w b l' k') :
    Calls Try.prog 48 #[.agg #[.slice a.A a.n a.c, .slice a.B a.m a.d], .agg #[.slice b.A b.n b.c, .slice b.B b.m b.d]] w fun e w' => Ret w (mulR (fracOf l k) (fracOf l' k')) e w' := by
  have hn1 := ha.n
  have hn2 := ha.m
  have hn3 := hb.n
  have hn4 := hb.m
  rcases hA : fracOf l k with _ | r
  · have HA := hide hA
    clear hA
    go_enter Try.func48, Try.ntmps48
    go_upto_region 1 with (fail)
    generalize hW : World.alloc (World.alloc (World.alloc w _) _) _ = v
    have HFB := hide (show Fb w v a b _ _ _ _ by rw [← hW]; exact (Fb.mk0 ha hb _ _).below ((Below.refl _ _).alloc (Nat.le_refl _) _))
    have HRB := hide (show Rb v (w.heap.size + 2) by rw [← hW]; exact Rb.mk0 _ (by simp))
    obtain ⟨a0, a1, b0, b1⟩ := HFB.out.ca
    obtain ⟨r0, r1, rf, rz, -⟩ := HRB.out
    have hz := HFB.out.sz
    clear hW ha hb
    go_wp2_with ((go_at_call 46; (with_reducible refine (r2check_any _ a l k HFB.out.qa).mono ?_); rintro e w1 ⟨he, hb1⟩; rw [HA.out] at he; subst he; have HF1 := hide (HFB.out.below hb1); have HR1 := hide (HRB.out.below hb1); obtain ⟨c0, c1, c2, c3⟩ := HF1.out.ca; obtain ⟨x0, x1, x2, x3, -⟩ := HR1.out; clear hb1))
    refine bodyPost_ret (v := .tuple #[.agg #[.slice none 0 0, .slice none 0 0], .int .i64 1]) (by simp [results, Try.results48, go_sem, *]) rfl ⟨⟨none, 0, 0, none, 0, 0⟩, by rw [mulR, opR_none_l], by rw [mulR, opR_none_l]; exact Fo.nil _, Rb.end0 HF1.out.bw (by omega) _ _⟩
  rcases hB : fracOf l' k' with _ | s
  · have HA := hide hA
    have HB := hide hB
    clear hA hB
    go_enter Try.func48, Try.ntmps48
    go_upto_region 1 with (fail)
    generalize hW : World.alloc (World.alloc (World.alloc w _) _) _ = v
    have HFB := hide (show Fb w v a b _ _ _ _ by rw [← hW]; exact (Fb.mk0 ha hb _ _).below ((Below.refl _ _).alloc (Nat.le_refl _) _))
    have HRB := hide (show Rb v (w.heap.size + 2) by rw [← hW]; exact Rb.mk0 _ (by simp))
    obtain ⟨a0, a1, b0, b1⟩ := HFB.out.ca
    obtain ⟨r0, r1, rf, rz, -⟩ := HRB.out
    have hz := HFB.out.sz
    clear hW ha hb
    go_wp2_with (first | (go_at_call 46; (with_reducible refine (r2check_any _ a l k HFB.out.qa).mono ?_); rintro e w1 ⟨he, hb1⟩; rw [HA.out] at he; subst he; have HF1 := hide (HFB.out.below hb1); have HR1 := hide (HRB.out.below hb1); obtain ⟨c0, c1, c2, c3⟩ := HF1.out.ca; obtain ⟨x0, x1, x2, x3, -⟩ := HR1.out; clear hb1) | (go_at_call 46; (with_reducible refine (r2check_any _ b l' k' HF1.out.qb).mono ?_); rintro e w2 ⟨he, hb2⟩; rw [HB.out] at he; subst he; have HF2 := hide (HF1.out.below hb2); have HR2 := hide (HR1.out.below hb2); obtain ⟨e0, e1, e2, e3⟩ := HF2.out.ca; obtain ⟨y0, y1, y2, y3, -⟩ := HR2.out; clear hb2))
    refine bodyPost_ret (v := .tuple #[.agg #[.slice none 0 0, .slice none 0 0], .int .i64 1]) (by simp [results, Try.results48, go_sem, *]) rfl ⟨⟨none, 0, 0, none, 0, 0⟩, by rw [mulR, opR_none_r], by rw [mulR, opR_none_r]; exact Fo.nil _, Rb.end0 HF2.out.bw (by omega) _ _⟩
  have HA := hide hA
  have HB := hide hB
  obtain ⟨rfl, rfl, hr0, hr⟩ := fracOf_some hA
  obtain ⟨rfl, rfl, hs0, hs⟩ := fracOf_some hB
  obtain ⟨hz1, hz2⟩ := Fq.small ha hr
  obtain ⟨hz3, hz4⟩ := Fq.small hb hs
  clear hA hB
  have HX := hide (show mulR (some r) (some s) = limR (r * s) from rfl)
  have hrs : 0 ≤ r * s := Rat.mul_nonneg hr0 hs0
  have HM := hide (mk_mul hr0 hs0)
  have hdp : 0 < r.den * s.den := Nat.mul_pos r.den_pos s.den_pos
  obtain ⟨hL1, hL2⟩ := fits_len hr
  obtain ⟨hL3, hL4⟩ := fits_len hs
  go_enter Try.func48, Try.ntmps48
  go_upto_region 1 with (fail)
  generalize hW : World.alloc (World.alloc (World.alloc w _) _) _ = v
  have HFB := hide (show Fb w v a b _ _ _ _ by rw [← hW]; exact (Fb.mk0 ha hb _ _).below ((Below.refl _ _).alloc (Nat.le_refl _) _))
  have HRB := hide (show Rb v (w.heap.size + 2) by rw [← hW]; exact Rb.mk0 _ (by simp))
  obtain ⟨a0, a1, b0, b1⟩ := HFB.out.ca
  obtain ⟨r0, r1, rf, rz, -⟩ := HRB.out
  have hz := HFB.out.sz
  clear hW ha hb
  go_upto_region 3 with (first | (go_at_call 46; (with_reducible refine (r2check_any _ a _ _ HFB.out.qa).mono ?_); rintro e w1 ⟨he, hb1⟩; rw [HA.out] at he; subst he; have HF1 := hide (HFB.out.below hb1); have HR1 := hide (HRB.out.below hb1); obtain ⟨c0, c1, c2, c3⟩ := HF1.out.ca; obtain ⟨x0, x1, x2, x3, -⟩ := HR1.out; clear hb1) | (go_at_call 46; (with_reducible refine (r2check_any _ b _ _ HF1.out.qb).mono ?_); rintro e w2 ⟨he, hb2⟩; rw [HB.out] at he; subst he; have HF2 := hide (HF1.out.below hb2); have HR2 := hide (HR1.out.below hb2); obtain ⟨e0, e1, e2, e3⟩ := HF2.out.ca; obtain ⟨y0, y1, y2, y3, -⟩ := HR2.out; clear hb2))
  go_region_held3 (fun W => (W.cell? ⟨w.heap.size, 0, none⟩ = some (.slice a.A a.n a.c) ∧ W.cell? ⟨w.heap.size, 1, none⟩ = some (.slice a.B a.m a.d) ∧ W.cell? ⟨w.heap.size + 1, 0, none⟩ = some (.slice b.A b.n b.c) ∧ W.cell? ⟨w.heap.size + 1, 1, none⟩ = some (.slice b.B b.m b.d))) (first | with_reducible exact keep_put (Nat.lt_succ_self _) k5 | with_reducible exact k5 | with_reducible exact k8 | with_reducible exact k4 | with_reducible exact k3 | exact ⟨e0, e1, e2, e3⟩) (first
    | (go_at_call 67; (with_reducible refine (r1times_any _ none none a.A a.n a.c b.A b.n b.c (rn r) (rn s) (by first | exact HF2.out.qa.u | exact HF2.out.drew.qa.u) (by first | exact HF2.out.qb.u | exact HF2.out.drew.qb.u) (by omega) (by omega)).mono ?_); rintro e w3 ⟨A1, m1, d1, rfl, hd1, hu1, hb3⟩; have hl1 := lm_length_mul (rn r) (rn s); rw [hu1.len] at hl1; have hM1 : m1 ≤ 256 := (by omega); have HU1 := hide hu1; have HF3 := hide ((by first | exact HF2.out.below hb3 | exact HF2.out.drew.below hb3) : Fb w w3 a b _ _ _ _); have HR3 := hide ((by first | exact HR2.out.below hb3 | exact HR2.out.drew.below hb3) : Rb w3 (w.heap.size + 2)); have k3 := HF3.out.ca; clear hu1 hb3)
    | (go_at_call 67; (with_reducible refine (r1times_any _ none none a.B a.m a.d b.B b.m b.d r.den s.den HF3.out.qa.v HF3.out.qb.v (by omega) (by omega)).mono ?_); rintro e w4 ⟨A2, m2, d2, rfl, hd2, hu2, hb4⟩; have hl2 := lm_length_mul r.den s.den; rw [hu2.len] at hl2; have hM2 : m2 ≤ 256 := (by omega); have HU2 := hide hu2; have HU1b := hide (HU1.out.below hb4); have HF4 := hide (HF3.out.below hb4); have HR4 := hide (HR3.out.below hb4); have k4 := HF4.out.ca; clear hu2 hb4)
    | (go_at_call 66; (with_reducible refine (r2lowest_any _ none none A1 m1 d1 A2 m2 d2 _ _ HU1b.out HU2.out (by omega) (by omega) hdp).mono ?_); rintro e w8 ⟨c, rfl, ho, hb5⟩; rw [HM.out] at ho; have HO3 := hide ho; have HF8 := hide (HF4.out.below hb5); have HR8 := hide (HR4.out.below hb5); have k8 := HF8.out.ca; clear ho hb5)
    | (go_at_call 64; (with_reducible refine (r2limited_any _ c (r * s) hrs HO3.out).mono ?_); rintro e w9 ⟨q, rfl, ho, hb5⟩; rw [← HX.out] at ho; have HO := hide ho; have HF5 := hide (HF8.out.below hb5); have HR5 := hide (HR8.out.below hb5); have k5 := HF5.out.ca; obtain ⟨q0, q1, q2, q3, -⟩ := HR5.out; clear ho hb5))
  go_wp2_with fail
  refine bodyPost_ret (v := .tuple #[.agg #[.slice q.A q.n q.c, .slice q.B q.m q.d], .int .i64 (limR (r * s)).2]) (by simp [results, Try.results48, go_sem, *]) rfl ⟨q, by rw [HX.out], HO.out.put2 HR5.out.nb _ _ (by simp), Rb.end0 HF5.out.bw (by omega) _ _⟩
end Go.Proofs.Ytnofljgmkdommaa

/- Contracts: the reference's fractions: Pow. -/
namespace Go.Proofs.Ytnofljgmkdommaa
open Go.RowKit

theorem r1pow_yes (w : World) (av : Option Nat) (A : Option Addr) (n c : Nat) (a k : Nat) (hU : Ul w av A n (lm a)) (hn : n ≤ 128) (hk : k ≤ 65536) (h : (lm (a ^ k)).length ≤ 128) :
    Calls Try.prog 63 #[.slice A n c, .int .i64 (k : Int)] w fun e w' => ∃ A' m' c', e = .returned (.tuple #[.slice A' m' c', .int .i64 0]) ∧ m' ≤ c' ∧ m' ≤ 1000 ∧ Ul w' none A' m' (lm (a ^ k)) ∧ Below w.heap.size w w' := by
  refine (r1pow_any w av A n c a k hU hn hk).mono ?_
  rintro e w' ⟨A', m', c', ok, rfl, hc, hok, hu, hb⟩
  obtain rfl : ok = true := by rw [hok.out]; exact decide_eq_true h
  rw [if_pos rfl] at hu ⊢
  exact ⟨A', m', c', rfl, hc, by rw [← hu.len]; omega, hu, hb⟩
theorem r1pow_no (w : World) (av : Option Nat) (A : Option Addr) (n c : Nat) (a k : Nat) (hU : Ul w av A n (lm a)) (hn : n ≤ 128) (hk : k ≤ 65536) (h : ¬ (lm (a ^ k)).length ≤ 128) :
    Calls Try.prog 63 #[.slice A n c, .int .i64 (k : Int)] w fun e w' => ∃ A' m' c', e = .returned (.tuple #[.slice A' m' c', .int .i64 2]) ∧ Below w.heap.size w w' := by
  refine (r1pow_any w av A n c a k hU hn hk).mono ?_
  rintro e w' ⟨A', m', c', ok, rfl, hc, hok, hu, hb⟩
  obtain rfl : ok = false := by rw [hok.out]; exact decide_eq_false h
  exact ⟨A', m', c', rfl, hb⟩
set_option maxRecDepth 100000 in
set_option maxHeartbeats 8000000 in
theorem r2pow_any (w : World) (a : Fa) (l k : List Nat) (n : Int) (hq : Fq w a l k) (hn : -9223372036854775808 ≤ n) (hn2 : n < 9223372036854775808) :
    Calls Try.prog 38 #[.agg #[.slice a.A a.n a.c, .slice a.B a.m a.d], .int .i64 n] w fun e w' => Ret w (powR (fracOf l k) n) e w' := by
  rcases hA : fracOf l k with _ | r
  · have HA := hide hA
    clear hA
    go_enter Try.func38, Try.ntmps38
    go_upto_region 1 with (fail)
    generalize hW : World.alloc (World.alloc w _) _ = v
    have HF := hide (show F1 w v a (l) (k) by rw [← hW]; exact F1.mk0 hq _ _)
    obtain ⟨a0, a1, az, r0, r1, rf⟩ := HF.out.ca
    clear hW hq
    go_wp2_with (go_at_call 46; (with_reducible refine (r2check_any _ a (l) (k) HF.out.q).mono ?_); rintro e w1 ⟨he, hb⟩; rw [HA.out] at he; subst he; have HF1 := hide (HF.out.below hb); obtain ⟨e0, e1, ez, s0, s1, sf⟩ := HF1.out.ca; clear hb)
    refine bodyPost_ret (v := .tuple #[.agg #[.slice none 0 0, .slice none 0 0], .int .i64 1]) (by simp [results, Try.results38, go_sem, *]) rfl (HF1.out.err rfl)
  · have HA := hide hA
    obtain ⟨rfl, rfl, hr0, hr⟩ := fracOf_some hA
    obtain ⟨hz1, hz2⟩ := Fq.small hq hr
    clear hA
    by_cases h0 : n < 0
    · have HX := hide (show powR (some r) n = (none, 3) from if_pos (Or.inl h0))
      go_enter Try.func38, Try.ntmps38
      go_upto_region 1 with (fail)
      generalize hW : World.alloc (World.alloc w _) _ = v
      have HF := hide (show F1 w v a (lm (rn r)) (lm r.den) by rw [← hW]; exact F1.mk0 hq _ _)
      obtain ⟨a0, a1, az, r0, r1, rf⟩ := HF.out.ca
      clear hW hq
      go_wp2_with (go_at_call 46; (with_reducible refine (r2check_any _ a (lm (rn r)) (lm r.den) HF.out.q).mono ?_); rintro e w1 ⟨he, hb⟩; rw [HA.out] at he; subst he; have HF1 := hide (HF.out.below hb); obtain ⟨e0, e1, ez, s0, s1, sf⟩ := HF1.out.ca; clear hb)
      refine bodyPost_ret (v := .tuple #[.agg #[.slice none 0 0, .slice none 0 0], .int .i64 3]) (by simp [results, Try.results38, go_sem, *]) rfl (HF1.out.err HX.out)
    · by_cases h6 : 65536 < n
      · have HX := hide (show powR (some r) n = (none, 3) from if_pos (Or.inr h6))
        go_enter Try.func38, Try.ntmps38
        go_upto_region 1 with (fail)
        generalize hW : World.alloc (World.alloc w _) _ = v
        have HF := hide (show F1 w v a (lm (rn r)) (lm r.den) by rw [← hW]; exact F1.mk0 hq _ _)
        obtain ⟨a0, a1, az, r0, r1, rf⟩ := HF.out.ca
        clear hW hq
        go_wp2_with (go_at_call 46; (with_reducible refine (r2check_any _ a (lm (rn r)) (lm r.den) HF.out.q).mono ?_); rintro e w1 ⟨he, hb⟩; rw [HA.out] at he; subst he; have HF1 := hide (HF.out.below hb); obtain ⟨e0, e1, ez, s0, s1, sf⟩ := HF1.out.ca; clear hb)
        refine bodyPost_ret (v := .tuple #[.agg #[.slice none 0 0, .slice none 0 0], .int .i64 3]) (by simp [results, Try.results38, go_sem, *]) rfl (HF1.out.err HX.out)
      · obtain ⟨m, rfl⟩ : ∃ m : Nat, n = m := ⟨n.toNat, by omega⟩
        have HX := hide (show powR (some r) m = limR (r ^ m) from if_neg (by omega))
        have hp0 : 0 ≤ r ^ m := Rat.pow_nonneg hr0
        have HM := hide (show m ≤ 65536 by omega)
        have d0 : decide ((m : Int) < 0) = false := decide_eq_false h0
        have d6 : decide ((m : Int) > 65536) = false := decide_eq_false h6
        clear h0 h6
        obtain ⟨hL1, hL2⟩ := fits_len hr
        have hqn : a.n ≤ 128 := by rw [← hq.u.len]; exact hL1
        have hqm : a.m ≤ 128 := by rw [← hq.v.len]; exact hL2
        by_cases hu : (lm (rn r ^ m)).length ≤ 128
        · by_cases hv : (lm (r.den ^ m)).length ≤ 128
          · have HY := hide (show fitsR (r ^ m) = true by unfold fitsR; rw [rn_pow hr0, rn_den_pow]; simp [hu, hv])
            go_enter Try.func38, Try.ntmps38
            go_upto_region 1 with (fail)
            generalize hW : World.alloc (World.alloc w _) _ = v
            have HF := hide (show F1 w v a (lm (rn r)) (lm r.den) by rw [← hW]; exact F1.mk0 hq _ _)
            obtain ⟨a0, a1, az, r0, r1, rf⟩ := HF.out.ca
            clear hW hq
            go_wp2_with (first | (go_at_call 46; (with_reducible refine (r2check_any _ a (lm (rn r)) (lm r.den) HF.out.q).mono ?_); rintro e w1 ⟨he, hb⟩; rw [HA.out] at he; subst he; have HF1 := hide (HF.out.below hb); obtain ⟨e0, e1, ez, s0, s1, sf⟩ := HF1.out.ca; clear hb) | (go_at_call 63; (with_reducible refine (r1pow_yes _ none a.A a.n a.c (rn r) m HF1.out.q.u hqn HM.out hu).mono ?_); rintro e w2 ⟨A1, m1, c1, rfl, hmc, hm1, hu1, hb⟩; have HU1 := hide hu1; have HF2 := hide (HF1.out.below hb); obtain ⟨g0, g1, gz, -⟩ := HF2.out.ca; clear hb hu1) | (go_at_call 63; (with_reducible refine (r1pow_yes _ none a.B a.m a.d r.den m HF2.out.q.v hqm HM.out hv).mono ?_); rintro e w3 ⟨A2, m2, c2, rfl, hmc2, hm2, hu1, hb⟩; have HU2 := hide hu1; have HF3 := hide (HF2.out.below hb); have HB3 := hide hb; obtain ⟨i0, i1, iz, t0, t1, tf⟩ := HF3.out.ca; clear hb hu1))
            have HU1b := hide (HU1.out.below HB3.out)
            refine bodyPost_ret (v := .tuple #[.agg #[.slice A1 m1 c1, .slice A2 m2 c2], .int .i64 0]) (by simp [results, Try.results38, go_sem, *]) rfl (HF3.out.end (c := ⟨A1, m1, c1, A2, m2, c2⟩) (by rw [HX.out, limR_fit HY.out]) ?_)
            rw [HX.out, limR_fit HY.out]
            refine ⟨⟨?_, ?_, hmc, hmc2, Nat.le_trans hm1 (by omega), Nat.le_trans hm2 (by omega)⟩, hp0, HY.out⟩
            · show Ul _ none A1 m1 (lm (rn (r ^ m))); rw [rn_pow hr0]; exact HU1b.out
            · show Ul _ none A2 m2 (lm (r ^ m).den); rw [rn_den_pow]; exact HU2.out
          · have HY := hide (show fitsR (r ^ m) = false by unfold fitsR; rw [rn_pow hr0, rn_den_pow]; simp; omega)
            go_enter Try.func38, Try.ntmps38
            go_upto_region 1 with (fail)
            generalize hW : World.alloc (World.alloc w _) _ = v
            have HF := hide (show F1 w v a (lm (rn r)) (lm r.den) by rw [← hW]; exact F1.mk0 hq _ _)
            obtain ⟨a0, a1, az, r0, r1, rf⟩ := HF.out.ca
            clear hW hq
            go_wp2_with (first | (go_at_call 46; (with_reducible refine (r2check_any _ a (lm (rn r)) (lm r.den) HF.out.q).mono ?_); rintro e w1 ⟨he, hb⟩; rw [HA.out] at he; subst he; have HF1 := hide (HF.out.below hb); obtain ⟨e0, e1, ez, s0, s1, sf⟩ := HF1.out.ca; clear hb) | (go_at_call 63; (with_reducible refine (r1pow_yes _ none a.A a.n a.c (rn r) m HF1.out.q.u hqn HM.out hu).mono ?_); rintro e w2 ⟨A1, m1, c1, rfl, hmc, hm1, hu1, hb⟩; have HU1 := hide hu1; have HF2 := hide (HF1.out.below hb); obtain ⟨g0, g1, gz, -⟩ := HF2.out.ca; clear hb hu1) | (go_at_call 63; (with_reducible refine (r1pow_no _ none a.B a.m a.d r.den m HF2.out.q.v hqm HM.out hv).mono ?_); rintro e w3 ⟨A2, m2, c2, rfl, hb⟩; have HF3 := hide (HF2.out.below hb); obtain ⟨i0, i1, iz, t0, t1, tf⟩ := HF3.out.ca; clear hb))
            refine bodyPost_ret (v := .tuple #[.agg #[.slice none 0 0, .slice none 0 0], .int .i64 2]) (by simp [results, Try.results38, go_sem, *]) rfl (HF3.out.err (by rw [HX.out, limR_no HY.out]))
        · have HY := hide (show fitsR (r ^ m) = false by unfold fitsR; rw [rn_pow hr0, rn_den_pow]; simp; omega)
          by_cases hv : (lm (r.den ^ m)).length ≤ 128
          · skip
            go_enter Try.func38, Try.ntmps38
            go_upto_region 1 with (fail)
            generalize hW : World.alloc (World.alloc w _) _ = v
            have HF := hide (show F1 w v a (lm (rn r)) (lm r.den) by rw [← hW]; exact F1.mk0 hq _ _)
            obtain ⟨a0, a1, az, r0, r1, rf⟩ := HF.out.ca
            clear hW hq
            go_wp2_with (first | (go_at_call 46; (with_reducible refine (r2check_any _ a (lm (rn r)) (lm r.den) HF.out.q).mono ?_); rintro e w1 ⟨he, hb⟩; rw [HA.out] at he; subst he; have HF1 := hide (HF.out.below hb); obtain ⟨e0, e1, ez, s0, s1, sf⟩ := HF1.out.ca; clear hb) | (go_at_call 63; (with_reducible refine (r1pow_no _ none a.A a.n a.c (rn r) m HF1.out.q.u hqn HM.out hu).mono ?_); rintro e w2 ⟨A1, m1, c1, rfl, hb⟩; have HF2 := hide (HF1.out.below hb); obtain ⟨g0, g1, gz, -⟩ := HF2.out.ca; clear hb) | (go_at_call 63; (with_reducible refine (r1pow_yes _ none a.B a.m a.d r.den m HF2.out.q.v hqm HM.out hv).mono ?_); rintro e w3 ⟨A2, m2, c2, rfl, hmc2, hm2, hu1, hb⟩; have HU2 := hide hu1; have HF3 := hide (HF2.out.below hb); have HB3 := hide hb; obtain ⟨i0, i1, iz, t0, t1, tf⟩ := HF3.out.ca; clear hb hu1))
            refine bodyPost_ret (v := .tuple #[.agg #[.slice none 0 0, .slice none 0 0], .int .i64 2]) (by simp [results, Try.results38, go_sem, *]) rfl (HF3.out.err (by rw [HX.out, limR_no HY.out]))
          · skip
            go_enter Try.func38, Try.ntmps38
            go_upto_region 1 with (fail)
            generalize hW : World.alloc (World.alloc w _) _ = v
            have HF := hide (show F1 w v a (lm (rn r)) (lm r.den) by rw [← hW]; exact F1.mk0 hq _ _)
            obtain ⟨a0, a1, az, r0, r1, rf⟩ := HF.out.ca
            clear hW hq
            go_wp2_with (first | (go_at_call 46; (with_reducible refine (r2check_any _ a (lm (rn r)) (lm r.den) HF.out.q).mono ?_); rintro e w1 ⟨he, hb⟩; rw [HA.out] at he; subst he; have HF1 := hide (HF.out.below hb); obtain ⟨e0, e1, ez, s0, s1, sf⟩ := HF1.out.ca; clear hb) | (go_at_call 63; (with_reducible refine (r1pow_no _ none a.A a.n a.c (rn r) m HF1.out.q.u hqn HM.out hu).mono ?_); rintro e w2 ⟨A1, m1, c1, rfl, hb⟩; have HF2 := hide (HF1.out.below hb); obtain ⟨g0, g1, gz, -⟩ := HF2.out.ca; clear hb) | (go_at_call 63; (with_reducible refine (r1pow_no _ none a.B a.m a.d r.den m HF2.out.q.v hqm HM.out hv).mono ?_); rintro e w3 ⟨A2, m2, c2, rfl, hb⟩; have HF3 := hide (HF2.out.below hb); obtain ⟨i0, i1, iz, t0, t1, tf⟩ := HF3.out.ca; clear hb))
            refine bodyPost_ret (v := .tuple #[.agg #[.slice none 0 0, .slice none 0 0], .int .i64 2]) (by simp [results, Try.results38, go_sem, *]) rfl (HF3.out.err (by rw [HX.out, limR_no HY.out]))
end Go.Proofs.Ytnofljgmkdommaa
