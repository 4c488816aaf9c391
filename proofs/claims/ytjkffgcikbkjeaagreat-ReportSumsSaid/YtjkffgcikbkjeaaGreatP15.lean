/- Contracts of the functions that these laws reach: part 15: Contracts: the reference's fractions: lowest, limited, Make, Of; Contracts: the reference's fractions: Make, Of; Contracts: the reference's fractions: Check; Contracts: the reference's fractions: order, Compare; Contracts: the reference's fractions: plus, Add, Sub, Mul. -/
import Derived.Test.YtjkffgcikbkjeaaGreatP14
set_option linter.unusedVariables false
set_option linter.unusedSimpArgs false

/- Contracts: the reference's fractions: lowest, limited, Make, Of. -/
namespace Go.Proofs.YtjkffgcikbkjeaaGreat
open Go.RowKit

/-- The slices read as a fraction of any size. -/
def Lo (w : World) (a : Fa) (r : Rat) : Prop := Fq w a (lm (rn r)) (lm r.den)
theorem Fq.put2 {w : World} {a : Fa} {l k : List Nat} (h : Fq w a l k) {g : Nat} (hg : NB w g) (x y : Value) (hx : ∀ i, x ≠ .int .u32 i) : Fq ((w.setCell ⟨g, 0, none⟩ x).setCell ⟨g, 1, none⟩ y) a l k := (h.put hg _ _).put (hg.put _ hx) _ _
set_option maxRecDepth 100000 in
set_option maxHeartbeats 8000000 in
theorem r2lowest_any (w : World) (av av' : Option Nat) (A : Option Addr) (n c : Nat) (B : Option Addr) (m d : Nat) (x y : Nat) (hU : Ul w av A n (lm x)) (hV : Ul w av' B m (lm y)) (hn : n ≤ 1000) (hm : m ≤ 1000) (hy : 0 < y) :
    Calls Tryz.prog 123 #[.slice A n c, .slice B m d] w fun e w' => ∃ a : Fa, e = .returned (.agg #[.slice a.A a.n a.c, .slice a.B a.m a.d]) ∧ Lo w' a (mkRat x y) ∧ Below w.heap.size w w' := by
  have hgp := gcd_pos' (x := x) hy
  have HN := hide (mk_num x y hy)
  have HD := hide (mk_den x y hy)
  go_enter Tryz.func123, Tryz.ntmps123
  go_upto_region 1 with (fail)
  generalize hW : World.alloc w _ = v
  have HRB := hide (show Rb v w.heap.size by rw [← hW]; exact Rb.mk0 _ rfl)
  have HBV := hide (show Below w.heap.size w v by rw [← hW]; exact (Below.refl _ _).alloc (Nat.le_refl _) _)
  have HU := hide (show Ul v av A n (lm x) by rw [← hW]; exact hU.alloc _)
  have HV := hide (show Ul v av' B m (lm y) by rw [← hW]; exact hV.alloc _)
  clear hW hU hV
  go_wp2_with (first
    | (go_at_call 106; (with_reducible refine (r1common_any _ av av' A n c B m d x y HU.out HV.out (by omega) (by omega)).mono ?_); rintro e w1 ⟨A1, m1, c1, rfl, hc1, hu1, hb1⟩; have hl1 := lm_length_mono (Nat.le_of_dvd hy (Nat.gcd_dvd_right x y)); rw [hu1.len, HV.out.len] at hl1; have HU1 := hide hu1; have HB1 := hide (HBV.out.trans (hb1.mono HBV.out.size)); have HR1 := hide (HRB.out.below hb1); have HUa := hide (HU.out.below hb1); have HVa := hide (HV.out.below hb1); clear hu1 hb1)
    | (go_at_call 139; (with_reducible refine (r1split_any _ av none A n c A1 m1 c1 x (Nat.gcd x y) HUa.out HU1.out (by omega) (by omega) hgp).mono ?_); rintro e w2 ⟨A2, m2, c2, A3, m3, c3, rfl, hc2, hc3, hu2, hu3, hb2⟩; have HU2 := hide hu2; have HB2 := hide (HB1.out.trans (hb2.mono HB1.out.size)); have HR2 := hide (HR1.out.below hb2); have HVb := hide (HVa.out.below hb2); have HU1b := hide (HU1.out.below hb2); clear hu2 hu3 hb2)
    | (go_at_call 139; (with_reducible refine (r1split_any _ av' none B m d A1 m1 c1 y (Nat.gcd x y) HVb.out HU1b.out (by omega) (by omega) hgp).mono ?_); rintro e w4 ⟨A4, m4, c4, A5, m5, c5, rfl, hc4, hc5, hu4, hu5, hb4⟩; have HU4 := hide hu4; have HB4 := hide (HB2.out.trans (hb4.mono HB2.out.size)); have HR4 := hide (HR2.out.below hb4); have HU2b := hide (HU2.out.below hb4); obtain ⟨z0, z1, zf, zz, -⟩ := HR4.out; clear hu4 hu5 hb4))
  have h2 : m2 ≤ 1000 := by
    rw [← HU2b.out.len]
    exact Nat.le_trans (lm_length_mono (Nat.div_le_self x _)) (by rw [HU.out.len]; exact hn)
  have h4 : m4 ≤ 1000 := by
    rw [← HU4.out.len]
    exact Nat.le_trans (lm_length_mono (Nat.div_le_self y _)) (by rw [HV.out.len]; exact hm)
  have HQ : Lo w4 ⟨A2, m2, c2, A4, m4, c4⟩ (mkRat x y) := by
    refine ⟨?_, ?_, hc2, hc4, by show m2 ≤ _; omega, by show m4 ≤ _; omega⟩
    · rw [HN.out]; exact HU2b.out
    · rw [HD.out]; exact HU4.out
  refine bodyPost_ret (v := .agg #[.slice A2 m2 c2, .slice A4 m4 c4]) (by simp [results, Tryz.results123, go_sem, *]) rfl ⟨⟨A2, m2, c2, A4, m4, c4⟩, rfl, Fq.put2 HQ HR4.out.nb _ _ (by simp), Rb.end0 HB4.out (Nat.le_refl _) _ _⟩
set_option maxRecDepth 100000 in
set_option maxHeartbeats 8000000 in
theorem r2limited_any (w : World) (a : Fa) (r : Rat) (h0 : 0 ≤ r) (hq : Lo w a r) :
    Calls Tryz.prog 121 #[.agg #[.slice a.A a.n a.c, .slice a.B a.m a.d]] w fun e w' => Ret w (limR r) e w' := by
  have hul := hq.u.len
  have hvl := hq.v.len
  by_cases h1 : a.n ≤ 128
  · have d1 : decide ((128 : Int) < (a.n : Int)) = false := decide_eq_false (by omega)
    by_cases h2 : a.m ≤ 128
    · have d2 : decide ((128 : Int) < (a.m : Int)) = false := decide_eq_false (by omega)
      have hf : fitsR r = true := by unfold fitsR; rw [hul, hvl]; simp [h1, h2]
      have HX := hide (limR_fit hf)
      have HOK := hide (show okR (some r) from ⟨h0, hf⟩)
      clear h1 h2 hf hul hvl
      go_enter Tryz.func121, Tryz.ntmps121
      go_upto_region 1 with (fail)
      generalize hW : World.alloc (World.alloc w _) _ = v
      have HF := hide (show F1 w v a (lm (rn r)) (lm r.den) by rw [← hW]; exact F1.mk0 hq _ _)
      obtain ⟨a0, a1, az, r0, r1, rf⟩ := HF.out.ca
      clear hW hq
      go_wp2_with fail
      refine bodyPost_ret (v := .tuple #[.agg #[.slice a.A a.n a.c, .slice a.B a.m a.d], .int .i64 0]) (by simp [results, Tryz.results121, go_sem, *]) rfl (HF.out.end (c := a) (by rw [HX.out]) (by rw [HX.out]; exact ⟨HF.out.q, HOK.out⟩))
    · have d2 : decide ((128 : Int) < (a.m : Int)) = true := decide_eq_true (by omega)
      have hf : fitsR r = false := by unfold fitsR; rw [hul, hvl]; simp; omega
      have HX := hide (limR_no hf)
      clear h1 h2 hf hul hvl
      go_enter Tryz.func121, Tryz.ntmps121
      go_upto_region 1 with (fail)
      generalize hW : World.alloc (World.alloc w _) _ = v
      have HF := hide (show F1 w v a (lm (rn r)) (lm r.den) by rw [← hW]; exact F1.mk0 hq _ _)
      obtain ⟨a0, a1, az, r0, r1, rf⟩ := HF.out.ca
      clear hW hq
      go_wp2_with fail
      refine bodyPost_ret (v := .tuple #[.agg #[.slice none 0 0, .slice none 0 0], .int .i64 2]) (by simp [results, Tryz.results121, go_sem, *]) rfl (HF.out.err HX.out)
  · have d1 : decide ((128 : Int) < (a.n : Int)) = true := decide_eq_true (by omega)
    have hf : fitsR r = false := by unfold fitsR; rw [hul, hvl]; simp; omega
    have HX := hide (limR_no hf)
    clear h1 hf hul hvl
    go_enter Tryz.func121, Tryz.ntmps121
    go_upto_region 1 with (fail)
    generalize hW : World.alloc (World.alloc w _) _ = v
    have HF := hide (show F1 w v a (lm (rn r)) (lm r.den) by rw [← hW]; exact F1.mk0 hq _ _)
    obtain ⟨a0, a1, az, r0, r1, rf⟩ := HF.out.ca
    clear hW hq
    go_wp2_with fail
    refine bodyPost_ret (v := .tuple #[.agg #[.slice none 0 0, .slice none 0 0], .int .i64 2]) (by simp [results, Tryz.results121, go_sem, *]) rfl (HF.out.err HX.out)
end Go.Proofs.YtjkffgcikbkjeaaGreat

/- Contracts: the reference's fractions: Make, Of. -/
namespace Go.Proofs.YtjkffgcikbkjeaaGreat
open Go.RowKit

theorem fits_mk {x y : Nat} (hx : (lm x).length ≤ 128) (hy : (lm y).length ≤ 128) (h0 : 0 < y) : fitsR (mkRat x y) = true := by
  unfold fitsR
  rw [mk_num x y h0, mk_den x y h0]
  have h1 := lm_length_mono (Nat.div_le_self x (Nat.gcd x y))
  have h2 := lm_length_mono (Nat.div_le_self y (Nat.gcd x y))
  simp; omega
theorem Lo.fo {w : World} {a : Fa} {r : Rat} (h : Lo w a r) (h0 : 0 ≤ r) (hf : fitsR r = true) : Fo w a (some r) := ⟨h, h0, hf⟩
set_option maxRecDepth 100000 in
set_option maxHeartbeats 8000000 in
theorem r2make_nat (w : World) (A : Option Addr) (n c : Nat) (B : Option Addr) (m d : Nat) (x y : Nat) (hU : Ul w none A n (lm x)) (hV : Ul w none B m (lm y)) (hn : n ≤ 128) (hm : m ≤ 128) (hy : 0 < y) :
    Calls Tryz.prog 103 #[.slice A n c, .slice B m d] w fun e w' => Ret w (some (mkRat x y), 0) e w' := by
  have hm0 := lm_pos_len1 hy hV.len
  have dm0 : ((m : Int) == 0) = false := by simp; omega
  have HC := hide (show natB (lm x) = true by rw [natB_lm, hU.len]; simp [hn])
  have HD := hide (show natB (lm y) = true by rw [natB_lm, hV.len]; simp [hm])
  have HF := hide (fits_mk (x := x) (y := y) (by rw [hU.len]; exact hn) (by rw [hV.len]; exact hm) hy)
  go_enter Tryz.func103, Tryz.ntmps103
  go_upto_region 1 with (fail)
  generalize hW : World.alloc w _ = v
  have HRB := hide (show Rb v w.heap.size by rw [← hW]; exact Rb.mk0 _ rfl)
  have HBV := hide (show Below w.heap.size w v by rw [← hW]; exact (Below.refl _ _).alloc (Nat.le_refl _) _)
  have HU := hide (show Ul v none A n (lm x) by rw [← hW]; exact hU.alloc _)
  have HV := hide (show Ul v none B m (lm y) by rw [← hW]; exact hV.alloc _)
  clear hW hU hV
  go_wp2_with (first
    | ((go_at_call 104; (with_reducible refine (r1check_any _ none A n c (lm x) HU.out (by omega)).mono ?_); rintro e w' ⟨rfl, hw⟩; subst w'; rw [HC.out]))
    | ((go_at_call 104; (with_reducible refine (r1check_any _ none B m d (lm y) HV.out (by omega)).mono ?_); rintro e w' ⟨rfl, hw⟩; subst w'; rw [HD.out]))
    | (go_at_call 123; (with_reducible refine (r2lowest_any _ none none A n c B m d x y HU.out HV.out (by omega) (by omega) hy).mono ?_); rintro e w5 ⟨q, rfl, ho, hb5⟩; have HO := hide ho; have HB5 := hide (HBV.out.trans (hb5.mono HBV.out.size)); have HR5 := hide (HRB.out.below hb5); obtain ⟨z0, z1, z2, z3, -⟩ := HR5.out; clear ho hb5))
  refine bodyPost_ret (v := .tuple #[.agg #[.slice q.A q.n q.c, .slice q.B q.m q.d], .int .i64 0]) (by simp [results, Tryz.results103, go_sem, *]) rfl (Ret.mk0 (x := (some (mkRat x y), 0)) rfl (HO.out.fo (mk_nonneg x y) HF.out) HR5.out HB5.out (Nat.le_refl _))
set_option maxRecDepth 100000 in
set_option maxHeartbeats 8000000 in
theorem r2of_any (w : World) (x y : Nat) (hx : x < 9223372036854775808) (hy : y < 9223372036854775808) (h0 : 0 < y) :
    Calls Tryz.prog 85 #[.int .i64 (x : Int), .int .i64 (y : Int)] w fun e w' => Ret w (some (mkRat x y), 0) e w' := by
  have hw1 : IntKind.u64.wrap (x : Int) = (x : Int) := by
    show (x : Int) % 18446744073709551616 = x
    omega
  have hw2 : IntKind.u64.wrap (y : Int) = (y : Int) := by
    show (y : Int) % 18446744073709551616 = y
    omega
  go_enter Tryz.func85, Tryz.ntmps85
  go_upto_region 1 with (fail)
  generalize hW : World.alloc w _ = v
  have HRB := hide (show Rb v w.heap.size by rw [← hW]; exact Rb.mk0 _ rfl)
  have HBV := hide (show Below w.heap.size w v by rw [← hW]; exact (Below.refl _ _).alloc (Nat.le_refl _) _)
  clear hW
  go_wp2_with (first
    | (go_at_call 100; (with_reducible refine (r1of_any _ x (by omega)).mono ?_); rintro e w1 ⟨A1, m1, c1, rfl, hc1, hm1, hu1, hb1⟩; have HU1 := hide hu1; have HB1 := hide (HBV.out.trans (hb1.mono HBV.out.size)); have HR1 := hide (HRB.out.below hb1); clear hu1 hb1)
    | (go_at_call 100; (with_reducible refine (r1of_any _ y (by omega)).mono ?_); rintro e w2 ⟨A2, m2, c2, rfl, hc2, hm2, hu2, hb2⟩; have HU2 := hide hu2; have HU1b := hide (HU1.out.below hb2); have HB2 := hide (HB1.out.trans (hb2.mono HB1.out.size)); have HR2 := hide (HR1.out.below hb2); clear hu2 hb2)
    | (go_at_call 103; (with_reducible refine (r2make_nat _ A1 m1 c1 A2 m2 c2 x y HU1b.out HU2.out (by omega) (by omega) h0).mono ?_); rintro e w5 ⟨q, rfl, ho, hb5⟩; have HO := hide ho; have HB5 := hide (HB2.out.trans (hb5.mono HB2.out.size)); have HR5 := hide (HR2.out.below hb5); obtain ⟨z0, z1, z2, z3, -⟩ := HR5.out; clear ho hb5))
  refine bodyPost_ret (v := .tuple #[.agg #[.slice q.A q.n q.c, .slice q.B q.m q.d], .int .i64 0]) (by simp [results, Tryz.results85, go_sem, *]) rfl (Ret.mk0 (x := (some (mkRat x y), 0)) rfl HO.out HR5.out HB5.out (Nat.le_refl _))
end Go.Proofs.YtjkffgcikbkjeaaGreat

/- Contracts: the reference's fractions: Check. -/
namespace Go.Proofs.YtjkffgcikbkjeaaGreat
open Go.RowKit

/-- One operand's box at the world's end. -/
structure F0 (w0 v : World) (a : Fa) (l k : List Nat) : Prop where
  bw : Below w0.heap.size w0 v
  c0 : v.cell? ⟨w0.heap.size, 0, none⟩ = some (.slice a.A a.n a.c)
  c1 : v.cell? ⟨w0.heap.size, 1, none⟩ = some (.slice a.B a.m a.d)
  sz : w0.heap.size < v.heap.size
  q : Fq v a l k
theorem F0.mk0 {w0 : World} {a : Fa} {l k : List Nat} (h : Fq w0 a l k) (t : TypeId) : F0 w0 (w0.alloc (.cells #[.slice a.A a.n a.c, .slice a.B a.m a.d] t)) a l k :=
  ⟨(Below.refl _ _).alloc (Nat.le_refl _) _, by simp [go_sem], by simp [go_sem], by simp, h.alloc _⟩
theorem ul_lm1 (w : World) (t : TypeId) : Ul (w.alloc (.cells #[.int .u32 1] t)) none (some ⟨w.heap.size, 0, none⟩) 1 (lm 1) := by
  rw [lm_one]
  exact ul_one (x := 1) (by omega) t rfl
set_option maxRecDepth 100000 in
set_option maxHeartbeats 8000000 in
theorem r2check_any (w : World) (a : Fa) (l k : List Nat) (hq : Fq w a l k) :
    Calls Tryz.prog 86 #[.agg #[.slice a.A a.n a.c, .slice a.B a.m a.d]] w fun e w' => e = .returned (.bool (fracOf l k).isSome) ∧ Below w.heap.size w w' := by
  have hqn := hq.n
  have hqm := hq.m
  by_cases h1 : natB l = false
  · have HF := hide (fracOf_false (l := l) (k := k) (.inl h1))
    have HB := hide h1
    clear h1
    go_enter Tryz.func86, Tryz.ntmps86
    go_upto_region 1 with (fail)
    generalize hW : World.alloc w _ = v
    have HQ := hide (show F0 w v a l k by rw [← hW]; exact F0.mk0 hq _)
    have hc0 := HQ.out.c0
    have hc1 := HQ.out.c1
    clear hW hq
    go_wp2_with ((go_at_call 104; (with_reducible refine (r1check_any _ none a.A a.n a.c l HQ.out.q.u (by omega)).mono ?_); rintro e w' ⟨rfl, hw⟩; subst w'; rw [HB.out]))
    refine bodyPost_ret (v := .bool false) (by simp [results, Tryz.results86, go_sem, *]) rfl ⟨by rw [HF.out]; rfl, HQ.out.bw⟩
  · have h1' : natB l = true := by simpa using h1
    by_cases h2 : natB k = false
    · have HF := hide (fracOf_false (l := l) (.inr (.inl h2)))
      have HB := hide h1'
      have HC := hide h2
      clear h1 h1' h2
      go_enter Tryz.func86, Tryz.ntmps86
      go_upto_region 1 with (fail)
      generalize hW : World.alloc w _ = v
      have HQ := hide (show F0 w v a l k by rw [← hW]; exact F0.mk0 hq _)
      have hc0 := HQ.out.c0
      have hc1 := HQ.out.c1
      clear hW hq
      go_wp2_with (first | ((go_at_call 104; (with_reducible refine (r1check_any _ none a.A a.n a.c l HQ.out.q.u (by omega)).mono ?_); rintro e w' ⟨rfl, hw⟩; subst w'; rw [HB.out])) | ((go_at_call 104; (with_reducible refine (r1check_any _ none a.B a.m a.d k HQ.out.q.v (by omega)).mono ?_); rintro e w' ⟨rfl, hw⟩; subst w'; rw [HC.out])))
      refine bodyPost_ret (v := .bool false) (by simp [results, Tryz.results86, go_sem, *]) rfl ⟨by rw [HF.out]; rfl, HQ.out.bw⟩
    · have h2' : natB k = true := by simpa using h2
      have HB := hide h1'
      have HC := hide h2'
      have hl := (natB_iff.1 h1').2
      have hk := (natB_iff.1 h2').2
      have HL := hide hl
      have HK := hide hk
      by_cases h0 : a.m = 0
      · have hk0 : k = [] := List.eq_nil_of_length_eq_zero (hq.v.len.trans h0)
        have HF := hide (fracOf_false (l := l) (.inr (.inr hk0)))
        have d0 : decide ((0 : Int) < (a.m : Int)) = false := decide_eq_false (by omega)
        have d0' : decide (0 < a.m) = false := decide_eq_false (by omega)
        clear h0 h1 h1' h2 h2' hl hk
        go_enter Tryz.func86, Tryz.ntmps86
        go_upto_region 1 with (fail)
        generalize hW : World.alloc w _ = v
        have HQ := hide (show F0 w v a l k by rw [← hW]; exact F0.mk0 hq _)
        have hc0 := HQ.out.c0
        have hc1 := HQ.out.c1
        clear hW hq
        go_wp2_with (first | ((go_at_call 104; (with_reducible refine (r1check_any _ none a.A a.n a.c l HQ.out.q.u (by omega)).mono ?_); rintro e w' ⟨rfl, hw⟩; subst w'; rw [HB.out])) | ((go_at_call 104; (with_reducible refine (r1check_any _ none a.B a.m a.d k HQ.out.q.v (by omega)).mono ?_); rintro e w' ⟨rfl, hw⟩; subst w'; rw [HC.out])))
        refine bodyPost_ret (v := .bool false) (by simp [results, Tryz.results86, go_sem, *]) rfl ⟨by rw [HF.out]; rfl, HQ.out.bw⟩
      · have hk0 : lv k ≠ 0 := by
          intro h
          apply h0
          have := hq.v.len
          rw [hk, h, lm_zero] at this
          exact this.symm
        have d0 : decide ((0 : Int) < (a.m : Int)) = true := decide_eq_true (by omega)
        have d0' : decide (0 < a.m) = true := decide_eq_true (by omega)
        have HF := hide (show (fracOf l k).isSome = (cmpN (Nat.gcd (lv l) (lv k)) 1 == 0) by
          unfold fracOf
          by_cases hg : Nat.gcd (lv l) (lv k) = 1
          · rw [if_pos ⟨h1', h2', hk0, hg⟩, hg, cmpN_eq]; rfl
          · rw [if_neg (fun h => hg h.2.2.2)]
            have : cmpN (Nat.gcd (lv l) (lv k)) 1 ≠ 0 := fun h => hg (cmpN_zero.1 h)
            simp [this])
        have hkp := Nat.pos_of_ne_zero hk0
        have hn128 : a.n ≤ 128 := by have h3 := (natB_iff.1 h1').1; have h4 := hq.u.len; omega
        have hm128 : a.m ≤ 128 := by have h3 := (natB_iff.1 h2').1; have h4 := hq.v.len; omega
        have hgl : Nat.gcd (lv l) (lv k) ≤ lv k := Nat.le_of_dvd hkp (Nat.gcd_dvd_right _ _)
        have HG := hide (show (lm (Nat.gcd (lv l) (lv k))).length ≤ 1000 by
          have := lm_length_mono hgl
          rw [← hk, hq.v.len] at this
          omega)
        clear h1 h1' h2 h2' hl hk hk0 h0
        go_enter Tryz.func86, Tryz.ntmps86
        go_upto_region 1 with (fail)
        generalize hW : World.alloc w _ = v
        have HQ := hide (show F0 w v a l k by rw [← hW]; exact F0.mk0 hq _)
        have hc0 := HQ.out.c0
        have hc1 := HQ.out.c1
        clear hW hq
        have HLK := hide (show Ul v none a.A a.n (lm (lv l)) ∧ Ul v none a.B a.m (lm (lv k)) from ⟨by rw [← HL.out]; exact HQ.out.q.u, by rw [← HK.out]; exact HQ.out.q.v⟩)
        go_wp2_with (first
          | ((go_at_call 104; (with_reducible refine (r1check_any _ none a.A a.n a.c l HQ.out.q.u (by omega)).mono ?_); rintro e w' ⟨rfl, hw⟩; subst w'; rw [HB.out]))
          | ((go_at_call 104; (with_reducible refine (r1check_any _ none a.B a.m a.d k HQ.out.q.v (by omega)).mono ?_); rintro e w' ⟨rfl, hw⟩; subst w'; rw [HC.out]))
          | (go_at_call 106; (with_reducible refine (r1common_any _ none none a.A a.n a.c a.B a.m a.d (lv l) (lv k) HLK.out.1 HLK.out.2 (by omega) (by omega)).mono ?_); rintro e w1 ⟨A1, m1, c1, rfl, hc1, hu1, hb1⟩; have HU1 := hide hu1; have HM1 := hide (show m1 ≤ 1000 by rw [← hu1.len]; exact HG.out); have HB1 := hide (HQ.out.bw.trans (hb1.mono HQ.out.bw.size)); clear hu1 hb1)
          | (go_at_call 105; (with_reducible refine (r1order_any _ none none A1 m1 c1 _ 1 1 (Nat.gcd (lv l) (lv k)) 1 (HU1.out.alloc _) (ul_lm1 _ _) (Nat.le_trans HM1.out (by omega)) (by omega)).mono ?_); rintro e w3 ⟨rfl, hd⟩; have HB3 := hide ((HB1.out.alloc HB1.out.size _).trans (hd.below.mono (by have := HB1.out.size; simp; omega))); clear hd))
        refine bodyPost_ret (v := .bool (cmpN (Nat.gcd (lv l) (lv k)) 1 == 0)) (by simp [results, Tryz.results86, go_sem, *]) rfl ⟨by rw [HF.out], HB3.out⟩
end Go.Proofs.YtjkffgcikbkjeaaGreat

/- Contracts: the reference's fractions: order, Compare. -/
namespace Go.Proofs.YtjkffgcikbkjeaaGreat
open Go.RowKit

set_option maxRecDepth 100000 in
set_option maxHeartbeats 8000000 in
theorem r2order_any (w : World) (a b : Fa) (r s : Rat) (hr0 : 0 ≤ r) (hs0 : 0 ≤ s) (hr : fitsR r = true) (hs : fitsR s = true) (ha : Lo w a r) (hb : Lo w b s) :
    Calls Tryz.prog 87 #[.agg #[.slice a.A a.n a.c, .slice a.B a.m a.d], .agg #[.slice b.A b.n b.c, .slice b.B b.m b.d]] w fun e w' => e = .returned (.int .i64 (cmpQ r s)) ∧ Below w.heap.size w w' := by
  obtain ⟨hn1, hn2⟩ := Fq.small ha hr
  obtain ⟨hn3, hn4⟩ := Fq.small hb hs
  have HC := hide (cmp_eq hr0 hs0)
  have hL1 : (lm (rn r)).length ≤ 1000 := by rw [ha.u.len]; omega
  have hL2 : (lm r.den).length ≤ 1000 := by rw [ha.v.len]; omega
  have hL3 : (lm (rn s)).length ≤ 1000 := by rw [hb.u.len]; omega
  have hL4 : (lm s.den).length ≤ 1000 := by rw [hb.v.len]; omega
  unfold Lo at ha hb
  go_enter Tryz.func87, Tryz.ntmps87
  go_upto_region 1 with (fail)
  generalize hW : World.alloc (World.alloc w _) _ = v
  have HFB := hide (show Fb w v a b _ _ _ _ by rw [← hW]; exact Fb.mk0 ha hb _ _)
  obtain ⟨a0, a1, b0, b1⟩ := HFB.out.ca
  have hz := HFB.out.sz
  clear hW ha hb
  go_region_held3 (fun W => (W.cell? ⟨w.heap.size, 0, none⟩ = some (.slice a.A a.n a.c) ∧ W.cell? ⟨w.heap.size, 1, none⟩ = some (.slice a.B a.m a.d) ∧ W.cell? ⟨w.heap.size + 1, 0, none⟩ = some (.slice b.A b.n b.c) ∧ W.cell? ⟨w.heap.size + 1, 1, none⟩ = some (.slice b.B b.m b.d))) (first | with_reducible exact k4 | with_reducible exact k2 | with_reducible exact k1 | exact ⟨a0, a1, b0, b1⟩) (first
    | (go_at_call 107; (with_reducible refine (r1times_any _ none none a.A a.n a.c b.B b.m b.d (rn r) s.den (by first | exact HFB.out.qa.u | exact HFB.out.drew.qa.u) (by first | exact HFB.out.qb.v | exact HFB.out.drew.qb.v) (by omega) (by omega)).mono ?_); rintro e w1 ⟨A1, m1, c1, rfl, hc1, hu1, hb1⟩; have hl1 := lm_length_mul (rn r) s.den; rw [hu1.len] at hl1; have hM1 : m1 ≤ 2000 := (by omega); have HU1 := hide hu1; have HF1 := hide ((by first | exact HFB.out.below hb1 | exact HFB.out.drew.below hb1) : Fb w w1 a b _ _ _ _); have k1 := HF1.out.ca; clear hu1 hb1)
    | (go_at_call 107; (with_reducible refine (r1times_any _ none none b.A b.n b.c a.B a.m a.d (rn s) r.den (by first | exact HF1.out.qb.u | exact HF1.out.drew.qb.u) (by first | exact HF1.out.qa.v | exact HF1.out.drew.qa.v) (by omega) (by omega)).mono ?_); rintro e w2 ⟨A2, m2, c2, rfl, hc2, hu2, hb2⟩; have hl2 := lm_length_mul (rn s) r.den; rw [hu2.len] at hl2; have hM2 : m2 ≤ 2000 := (by omega); have HU2 := hide hu2; have HU1b := hide (HU1.out.below hb2); have HF2 := hide (HF1.out.below hb2); have k2 := HF2.out.ca; clear hu2 hb2)
    | (go_at_call 105; (with_reducible refine (r1order_any _ none none A1 m1 c1 A2 m2 c2 _ _ HU1b.out HU2.out (by omega) (by omega)).mono ?_); rintro e w4 ⟨he, hd⟩; rw [HC.out] at he; subst he; have HD := hide (HF2.out.below hd.below); have k4 := HD.out.ca; clear hd))
  go_wp2_with fail
  refine bodyPost_ret (v := .int .i64 (cmpQ r s)) (by simp [results, Tryz.results87, go_sem, *]) rfl ⟨rfl, HD.out.bw⟩
set_option maxRecDepth 100000 in
set_option maxHeartbeats 8000000 in
theorem r2cmp_any (w : World) (a b : Fa) (l k l' k' : List Nat) (ha : Fq w a l k) (hb : Fq w b l' k') :
    Calls Tryz.prog 61 #[.agg #[.slice a.A a.n a.c, .slice a.B a.m a.d], .agg #[.slice b.A b.n b.c, .slice b.B b.m b.d]] w fun e w' => e = .returned (.int .i64 (cmpO (fracOf l k) (fracOf l' k'))) ∧ Below w.heap.size w w' := by
  rcases hA : fracOf l k with _ | r
  · have HA := hide hA
    clear hA
    go_enter Tryz.func61, Tryz.ntmps61
    go_upto_region 1 with (fail)
    generalize hW : World.alloc (World.alloc w _) _ = v
    have HFB := hide (show Fb w v a b _ _ _ _ by rw [← hW]; exact Fb.mk0 ha hb _ _)
    obtain ⟨a0, a1, b0, b1⟩ := HFB.out.ca
    have hz := HFB.out.sz
    clear hW ha hb
    go_wp2_with ((go_at_call 86; (with_reducible refine (r2check_any _ a l k HFB.out.qa).mono ?_); rintro e w1 ⟨he, hb1⟩; rw [HA.out] at he; subst he; have HF1 := hide (HFB.out.below hb1); obtain ⟨c0, c1, c2, c3⟩ := HF1.out.ca; clear hb1))
    refine bodyPost_ret (v := .int .i64 0) (by simp [results, Tryz.results61, go_sem, *]) rfl ⟨by rw [cmpO_none_l], HF1.out.bw⟩
  · rcases hB : fracOf l' k' with _ | s
    · have HA := hide hA
      have HB := hide hB
      clear hA hB
      go_enter Tryz.func61, Tryz.ntmps61
      go_upto_region 1 with (fail)
      generalize hW : World.alloc (World.alloc w _) _ = v
      have HFB := hide (show Fb w v a b _ _ _ _ by rw [← hW]; exact Fb.mk0 ha hb _ _)
      obtain ⟨a0, a1, b0, b1⟩ := HFB.out.ca
      have hz := HFB.out.sz
      clear hW ha hb
      go_wp2_with (first | (go_at_call 86; (with_reducible refine (r2check_any _ a l k HFB.out.qa).mono ?_); rintro e w1 ⟨he, hb1⟩; rw [HA.out] at he; subst he; have HF1 := hide (HFB.out.below hb1); obtain ⟨c0, c1, c2, c3⟩ := HF1.out.ca; clear hb1) | (go_at_call 86; (with_reducible refine (r2check_any _ b l' k' HF1.out.qb).mono ?_); rintro e w2 ⟨he, hb2⟩; rw [HB.out] at he; subst he; have HF2 := hide (HF1.out.below hb2); obtain ⟨e0, e1, e2, e3⟩ := HF2.out.ca; clear hb2))
      refine bodyPost_ret (v := .int .i64 0) (by simp [results, Tryz.results61, go_sem, *]) rfl ⟨by rw [cmpO_none_r], HF2.out.bw⟩
    · have HA := hide hA
      have HB := hide hB
      obtain ⟨rfl, rfl, hr0, hr⟩ := fracOf_some hA
      obtain ⟨rfl, rfl, hs0, hs⟩ := fracOf_some hB
      obtain ⟨hz1, hz2⟩ := Fq.small ha hr
      obtain ⟨hz3, hz4⟩ := Fq.small hb hs
      clear hA hB
      go_enter Tryz.func61, Tryz.ntmps61
      go_upto_region 1 with (fail)
      generalize hW : World.alloc (World.alloc w _) _ = v
      have HFB := hide (show Fb w v a b _ _ _ _ by rw [← hW]; exact Fb.mk0 ha hb _ _)
      obtain ⟨a0, a1, b0, b1⟩ := HFB.out.ca
      have hz := HFB.out.sz
      clear hW ha hb
      go_wp2_with (first
        | (go_at_call 86; (with_reducible refine (r2check_any _ a _ _ HFB.out.qa).mono ?_); rintro e w1 ⟨he, hb1⟩; rw [HA.out] at he; subst he; have HF1 := hide (HFB.out.below hb1); obtain ⟨c0, c1, c2, c3⟩ := HF1.out.ca; clear hb1)
        | (go_at_call 86; (with_reducible refine (r2check_any _ b _ _ HF1.out.qb).mono ?_); rintro e w2 ⟨he, hb2⟩; rw [HB.out] at he; subst he; have HF2 := hide (HF1.out.below hb2); obtain ⟨e0, e1, e2, e3⟩ := HF2.out.ca; clear hb2)
        | (go_at_call 87; refine (r2order_any _ a b r s hr0 hs0 hr hs HF2.out.qa HF2.out.qb).mono ?_; rintro e w3 ⟨rfl, hb3⟩; have HF3 := hide (HF2.out.below hb3); clear hb3))
      refine bodyPost_ret (v := .int .i64 (cmpQ r s)) (by simp [results, Tryz.results61, go_sem, *]) rfl ⟨rfl, HF3.out.bw⟩
end Go.Proofs.YtjkffgcikbkjeaaGreat

/- Contracts: the reference's fractions: plus, Add, Sub, Mul. -/
namespace Go.Proofs.YtjkffgcikbkjeaaGreat
open Go.RowKit

theorem lm_length_add2 {x y k : Nat} (hx : (lm x).length ≤ k) (hy : (lm y).length ≤ k) : (lm (x + y)).length ≤ k + 1 := by
  rw [lm_length_le] at hx hy ⊢
  have : 4294967296 ^ (k + 1) = 4294967296 ^ k * 4294967296 := by rw [Nat.pow_succ]
  omega
theorem fits_len {r : Rat} (h : fitsR r = true) : (lm (rn r)).length ≤ 128 ∧ (lm r.den).length ≤ 128 := by
  simpa only [fitsR, Bool.and_eq_true, decide_eq_true_eq] using h
set_option maxRecDepth 100000 in
set_option maxHeartbeats 8000000 in
theorem r2plus_any (w : World) (a b : Fa) (r s : Rat) (hr0 : 0 ≤ r) (hs0 : 0 ≤ s) (hr : fitsR r = true) (hs : fitsR s = true) (ha : Lo w a r) (hb : Lo w b s) :
    Calls Tryz.prog 122 #[.agg #[.slice a.A a.n a.c, .slice a.B a.m a.d], .agg #[.slice b.A b.n b.c, .slice b.B b.m b.d]] w fun e w' => ∃ c : Fa, e = .returned (.agg #[.slice c.A c.n c.c, .slice c.B c.m c.d]) ∧ Lo w' c (r + s) ∧ Below w.heap.size w w' := by
  obtain ⟨hn1, hn2⟩ := Fq.small ha hr
  obtain ⟨hn3, hn4⟩ := Fq.small hb hs
  obtain ⟨hL1, hL2⟩ := fits_len hr
  obtain ⟨hL3, hL4⟩ := fits_len hs
  have HM := hide (mk_add hr0 hs0)
  have hdp : 0 < r.den * s.den := Nat.mul_pos r.den_pos s.den_pos
  unfold Lo at ha hb
  go_enter Tryz.func122, Tryz.ntmps122
  go_upto_region 1 with (fail)
  generalize hW : World.alloc (World.alloc (World.alloc w _) _) _ = v
  have HFB := hide (show Fb w v a b _ _ _ _ by rw [← hW]; exact (Fb.mk0 ha hb _ _).below ((Below.refl _ _).alloc (Nat.le_refl _) _))
  have HRB := hide (show Rb v (w.heap.size + 2) by rw [← hW]; exact Rb.mk0 _ (by simp))
  obtain ⟨a0, a1, b0, b1⟩ := HFB.out.ca
  obtain ⟨r0, r1, rf, rz, -⟩ := HRB.out
  have hz := HFB.out.sz
  clear hW ha hb
  go_region_held3 (fun W => (W.cell? ⟨w.heap.size, 0, none⟩ = some (.slice a.A a.n a.c) ∧ W.cell? ⟨w.heap.size, 1, none⟩ = some (.slice a.B a.m a.d) ∧ W.cell? ⟨w.heap.size + 1, 0, none⟩ = some (.slice b.A b.n b.c) ∧ W.cell? ⟨w.heap.size + 1, 1, none⟩ = some (.slice b.B b.m b.d))) (first | with_reducible exact keep_put (Nat.lt_succ_self _) k5 | with_reducible exact k5 | with_reducible exact k4 | with_reducible exact k3 | with_reducible exact k2 | with_reducible exact k1 | exact ⟨a0, a1, b0, b1⟩) (first
    | (go_at_call 107; (with_reducible refine (r1times_any _ none none a.A a.n a.c b.B b.m b.d (rn r) s.den (by first | exact HFB.out.qa.u | exact HFB.out.drew.qa.u) (by first | exact HFB.out.qb.v | exact HFB.out.drew.qb.v) (by omega) (by omega)).mono ?_); rintro e w1 ⟨A1, m1, c1, rfl, hc1, hu1, hb1⟩; have hl1 := lm_length_mul (rn r) s.den; rw [hu1.len] at hl1; have hM1 : m1 ≤ 256 := (by omega); have HU1 := hide hu1; have HF1 := hide ((by first | exact HFB.out.below hb1 | exact HFB.out.drew.below hb1) : Fb w w1 a b _ _ _ _); have HR1 := hide ((by first | exact HRB.out.below hb1 | exact HRB.out.drew.below hb1) : Rb w1 (w.heap.size + 2)); have k1 := HF1.out.ca; clear hu1 hb1)
    | (go_at_call 107; (with_reducible refine (r1times_any _ none none b.A b.n b.c a.B a.m a.d (rn s) r.den (by first | exact HF1.out.qb.u | exact HF1.out.drew.qb.u) (by first | exact HF1.out.qa.v | exact HF1.out.drew.qa.v) (by omega) (by omega)).mono ?_); rintro e w2 ⟨A2, m2, c2, rfl, hc2, hu2, hb2⟩; have hl2 := lm_length_mul (rn s) r.den; rw [hu2.len] at hl2; have hM2 : m2 ≤ 256 := (by omega); have HU2 := hide hu2; have HU1b := hide (HU1.out.below hb2); have HF2 := hide (HF1.out.below hb2); have HR2 := hide (HR1.out.below hb2); have k2 := HF2.out.ca; clear hu2 hb2)
    | (go_at_call 138; (with_reducible refine (r1plus_any _ none none A1 m1 c1 A2 m2 c2 _ _ HU1b.out HU2.out (by omega) (by omega)).mono ?_); rintro e w3 ⟨A3, m3, c3, rfl, hc3, hu3, hb3⟩; have hl3 := lm_length_add2 (k := 256) (by rw [HU1b.out.len]; exact hM1) (by rw [HU2.out.len]; exact hM2); rw [hu3.len] at hl3; have HU3 := hide hu3; have HF3 := hide (HF2.out.below hb3); have HR3 := hide (HR2.out.below hb3); have k3 := HF3.out.ca; clear hu3 hb3)
    | (go_at_call 107; (with_reducible refine (r1times_any _ none none a.B a.m a.d b.B b.m b.d r.den s.den HF3.out.qa.v HF3.out.qb.v (by omega) (by omega)).mono ?_); rintro e w4 ⟨A4, m4, c4, rfl, hc4, hu4, hb4⟩; have hl4 := lm_length_mul r.den s.den; rw [hu4.len] at hl4; have hM4 : m4 ≤ 256 := (by omega); have HU4 := hide hu4; have HU3b := hide (HU3.out.below hb4); have HF4 := hide (HF3.out.below hb4); have HR4 := hide (HR3.out.below hb4); have k4 := HF4.out.ca; clear hu4 hb4)
    | (go_at_call 123; (with_reducible refine (r2lowest_any _ none none A3 m3 c3 A4 m4 c4 _ _ HU3b.out HU4.out (by omega) (by omega) hdp).mono ?_); rintro e w5 ⟨c, rfl, ho, hb5⟩; rw [HM.out] at ho; have HO := hide ho; have HF5 := hide (HF4.out.below hb5); have HR5 := hide (HR4.out.below hb5); have k5 := HF5.out.ca; obtain ⟨q0, q1, q2, q3, -⟩ := HR5.out; clear ho hb5))
  go_wp2_with fail
  refine bodyPost_ret (v := .agg #[.slice c.A c.n c.c, .slice c.B c.m c.d]) (by simp [results, Tryz.results122, go_sem, *]) rfl ⟨c, rfl, Fq.put2 HO.out HR5.out.nb _ _ (by simp), Rb.end0 HF5.out.bw (by omega) _ _⟩
set_option maxRecDepth 100000 in
set_option maxHeartbeats 8000000 in
theorem r2add_any (w : World) (a b : Fa) (l k l' k' : List Nat) (ha : Fq w a l k) (hb : Fq w b l' k') :
    Calls Tryz.prog 102 #[.agg #[.slice a.A a.n a.c, .slice a.B a.m a.d], .agg #[.slice b.A b.n b.c, .slice b.B b.m b.d]] w fun e w' => Ret w (addR (fracOf l k) (fracOf l' k')) e w' := by
  rcases hA : fracOf l k with _ | r
  · have HA := hide hA
    clear hA
    go_enter Tryz.func102, Tryz.ntmps102
    go_upto_region 1 with (fail)
    generalize hW : World.alloc (World.alloc (World.alloc w _) _) _ = v
    have HFB := hide (show Fb w v a b _ _ _ _ by rw [← hW]; exact (Fb.mk0 ha hb _ _).below ((Below.refl _ _).alloc (Nat.le_refl _) _))
    have HRB := hide (show Rb v (w.heap.size + 2) by rw [← hW]; exact Rb.mk0 _ (by simp))
    obtain ⟨a0, a1, b0, b1⟩ := HFB.out.ca
    obtain ⟨r0, r1, rf, rz, -⟩ := HRB.out
    have hz := HFB.out.sz
    clear hW ha hb
    go_wp2_with ((go_at_call 86; (with_reducible refine (r2check_any _ a l k HFB.out.qa).mono ?_); rintro e w1 ⟨he, hb1⟩; rw [HA.out] at he; subst he; have HF1 := hide (HFB.out.below hb1); have HR1 := hide (HRB.out.below hb1); obtain ⟨c0, c1, c2, c3⟩ := HF1.out.ca; obtain ⟨x0, x1, x2, x3, -⟩ := HR1.out; clear hb1))
    refine bodyPost_ret (v := .tuple #[.agg #[.slice none 0 0, .slice none 0 0], .int .i64 1]) (by simp [results, Tryz.results102, go_sem, *]) rfl ⟨⟨none, 0, 0, none, 0, 0⟩, by rw [addR, opR_none_l], by rw [addR, opR_none_l]; exact Fo.nil _, Rb.end0 HF1.out.bw (by omega) _ _⟩
  rcases hB : fracOf l' k' with _ | s
  · have HA := hide hA
    have HB := hide hB
    clear hA hB
    go_enter Tryz.func102, Tryz.ntmps102
    go_upto_region 1 with (fail)
    generalize hW : World.alloc (World.alloc (World.alloc w _) _) _ = v
    have HFB := hide (show Fb w v a b _ _ _ _ by rw [← hW]; exact (Fb.mk0 ha hb _ _).below ((Below.refl _ _).alloc (Nat.le_refl _) _))
    have HRB := hide (show Rb v (w.heap.size + 2) by rw [← hW]; exact Rb.mk0 _ (by simp))
    obtain ⟨a0, a1, b0, b1⟩ := HFB.out.ca
    obtain ⟨r0, r1, rf, rz, -⟩ := HRB.out
    have hz := HFB.out.sz
    clear hW ha hb
    go_wp2_with (first | (go_at_call 86; (with_reducible refine (r2check_any _ a l k HFB.out.qa).mono ?_); rintro e w1 ⟨he, hb1⟩; rw [HA.out] at he; subst he; have HF1 := hide (HFB.out.below hb1); have HR1 := hide (HRB.out.below hb1); obtain ⟨c0, c1, c2, c3⟩ := HF1.out.ca; obtain ⟨x0, x1, x2, x3, -⟩ := HR1.out; clear hb1) | (go_at_call 86; (with_reducible refine (r2check_any _ b l' k' HF1.out.qb).mono ?_); rintro e w2 ⟨he, hb2⟩; rw [HB.out] at he; subst he; have HF2 := hide (HF1.out.below hb2); have HR2 := hide (HR1.out.below hb2); obtain ⟨e0, e1, e2, e3⟩ := HF2.out.ca; obtain ⟨y0, y1, y2, y3, -⟩ := HR2.out; clear hb2))
    refine bodyPost_ret (v := .tuple #[.agg #[.slice none 0 0, .slice none 0 0], .int .i64 1]) (by simp [results, Tryz.results102, go_sem, *]) rfl ⟨⟨none, 0, 0, none, 0, 0⟩, by rw [addR, opR_none_r], by rw [addR, opR_none_r]; exact Fo.nil _, Rb.end0 HF2.out.bw (by omega) _ _⟩
  have HA := hide hA
  have HB := hide hB
  obtain ⟨rfl, rfl, hr0, hr⟩ := fracOf_some hA
  obtain ⟨rfl, rfl, hs0, hs⟩ := fracOf_some hB
  obtain ⟨hz1, hz2⟩ := Fq.small ha hr
  obtain ⟨hz3, hz4⟩ := Fq.small hb hs
  clear hA hB
  have HX := hide (show addR (some r) (some s) = limR (r + s) from rfl)
  have hrs : 0 ≤ r + s := Rat.add_nonneg hr0 hs0
  go_enter Tryz.func102, Tryz.ntmps102
  go_upto_region 1 with (fail)
  generalize hW : World.alloc (World.alloc (World.alloc w _) _) _ = v
  have HFB := hide (show Fb w v a b _ _ _ _ by rw [← hW]; exact (Fb.mk0 ha hb _ _).below ((Below.refl _ _).alloc (Nat.le_refl _) _))
  have HRB := hide (show Rb v (w.heap.size + 2) by rw [← hW]; exact Rb.mk0 _ (by simp))
  obtain ⟨a0, a1, b0, b1⟩ := HFB.out.ca
  obtain ⟨r0, r1, rf, rz, -⟩ := HRB.out
  have hz := HFB.out.sz
  clear hW ha hb
  go_wp2_with (first
    | (go_at_call 86; (with_reducible refine (r2check_any _ a _ _ HFB.out.qa).mono ?_); rintro e w1 ⟨he, hb1⟩; rw [HA.out] at he; subst he; have HF1 := hide (HFB.out.below hb1); have HR1 := hide (HRB.out.below hb1); obtain ⟨c0, c1, c2, c3⟩ := HF1.out.ca; obtain ⟨x0, x1, x2, x3, -⟩ := HR1.out; clear hb1)
    | (go_at_call 86; (with_reducible refine (r2check_any _ b _ _ HF1.out.qb).mono ?_); rintro e w2 ⟨he, hb2⟩; rw [HB.out] at he; subst he; have HF2 := hide (HF1.out.below hb2); have HR2 := hide (HR1.out.below hb2); obtain ⟨e0, e1, e2, e3⟩ := HF2.out.ca; obtain ⟨y0, y1, y2, y3, -⟩ := HR2.out; clear hb2)
    | (go_at_call 122; (refine (r2plus_any _ a b r s hr0 hs0 hr hs HF2.out.qa HF2.out.qb).mono ?_); rintro e w3 ⟨c, rfl, ho, hb3⟩; have HO3 := hide ho; have HF3 := hide (HF2.out.below hb3); have HR3 := hide (HR2.out.below hb3); obtain ⟨z0, z1, z2, z3, -⟩ := HR3.out; clear ho hb3)
    | (go_at_call 121; (with_reducible refine (r2limited_any _ c (r + s) hrs HO3.out).mono ?_); rintro e w5 ⟨q, rfl, ho, hb5⟩; rw [← HX.out] at ho; have HO := hide ho; have HF5 := hide (HF3.out.below hb5); have HR5 := hide (HR3.out.below hb5); obtain ⟨q0, q1, q2, q3, -⟩ := HR5.out; clear ho hb5))
  refine bodyPost_ret (v := .tuple #[.agg #[.slice q.A q.n q.c, .slice q.B q.m q.d], .int .i64 (limR (r + s)).2]) (by simp [results, Tryz.results102, go_sem, *]) rfl ⟨q, by rw [HX.out], HO.out.put2 HR5.out.nb _ _ (by simp), Rb.end0 HF5.out.bw (by omega) _ _⟩
end Go.Proofs.YtjkffgcikbkjeaaGreat
