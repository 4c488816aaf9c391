/- Contracts of the functions that these laws reach: part 10: Contracts: fraction.Make, Of, Pow; Plain laws of the chances of a number of failures; Contracts: noise.whole, other, Chance; Contracts: noise.Chance; Contracts: fraction.Pow. -/
import Derived.Test.YtnofljgmkdommaaG9
import Derived.Test.YtnofljgmkdommaaG5
import Derived.Deep.RegionWith
import Derived.Deep.RegionHeld3
import Derived.Deep.CutRange
set_option linter.unusedVariables false
set_option linter.unusedSimpArgs false

/- Contracts: fraction.Make, Of, Pow. -/
namespace Go.Proofs.Ytnofljgmkdommaa
open Go.RowKit

/-- What Make returns. -/
def mkR (l k : List Nat) : Option Rat × Int := if natB l = true ∧ natB k = true then (if k = [] then (none, 4) else limR (mkRat (lv l) (lv k))) else (none, 1)
theorem Ret.mk0 {w v : World} {c : Fa} {x : Option Rat × Int} {er : Int} {g : Nat} (h1 : er = x.2) (h2 : Fo v c x.1) (hr : Rb v g) (hb : Below w.heap.size w v) (hg : w.heap.size ≤ g) :
    Ret w x (.returned (.tuple #[.agg #[.slice c.A c.n c.c, .slice c.B c.m c.d], .int .i64 er])) ((v.setCell ⟨g, 0, none⟩ (.slice c.A c.n c.c)).setCell ⟨g, 1, none⟩ (.slice c.B c.m c.d)) :=
  ⟨c, by rw [h1], h2.put2 hr.nb _ _ (by simp), Rb.end0 hb hg _ _⟩
theorem Ret.err0 {w v : World} {x : Option Rat × Int} {er : Int} {g : Nat} (h : x = (none, er)) (hr : Rb v g) (hb : Below w.heap.size w v) (hg : w.heap.size ≤ g) :
    Ret w x (.returned (.tuple #[.agg #[.slice none 0 0, .slice none 0 0], .int .i64 er])) ((v.setCell ⟨g, 0, none⟩ (.slice none 0 0)).setCell ⟨g, 1, none⟩ (.slice none 0 0)) := by
  subst h
  exact Ret.mk0 (c := ⟨none, 0, 0, none, 0, 0⟩) rfl (Fo.nil _) hr hb hg
set_option maxRecDepth 100000 in
set_option maxHeartbeats 8000000 in
theorem fmake_any (w : World) (A : Option Addr) (n c : Nat) (B : Option Addr) (m d : Nat) (l k : List Nat) (hU : Ul w none A n l) (hV : Ul w none B m k) (hn : n ≤ 1000) (hm : m ≤ 1000) :
    Calls Try.prog 75 #[.slice A n c, .slice B m d] w fun e w' => Ret w (mkR l k) e w' := by
  have hU0 := hU
  have hV0 := hV
  by_cases h1 : natB l = true ∧ natB k = true
  · obtain ⟨h1, h2⟩ := h1
    have HB := hide h1
    have HC := hide h2
    by_cases h0 : m = 0
    · have hk0 : k = [] := List.eq_nil_of_length_eq_zero (hV.len.trans h0)
      have HX := hide (show mkR l k = (none, 4) by unfold mkR; rw [if_pos ⟨h1, h2⟩, if_pos hk0])
      have d0 : ((m : Int) == 0) = true := by simp [h0]
      clear h0 h1 h2 hk0
      go_enter Try.func75, Try.ntmps75
      go_upto_region 1 with (fail)
      generalize hW : World.alloc w _ = v
      have HRB := hide (show Rb v w.heap.size by rw [← hW]; exact Rb.mk0 _ rfl)
      have HBV := hide (show Below w.heap.size w v by rw [← hW]; exact (Below.refl _ _).alloc (Nat.le_refl _) _)
      have HU := hide (show Ul v none A n l by rw [← hW]; exact hU.alloc _)
      have HV := hide (show Ul v none B m k by rw [← hW]; exact hV.alloc _)
      obtain ⟨r0, r1, rf, rz, -⟩ := HRB.out
      clear hW hU hV hU0 hV0
      go_wp2_with (first
        | (go_at_call 68; (with_reducible refine (ncheck_any _ none A n c l HU.out (by omega)).mono ?_); rintro e w' ⟨rfl, rfl⟩; rw [HB.out])
        | (go_at_call 68; (with_reducible refine (ncheck_any _ none B m d k HV.out (by omega)).mono ?_); rintro e w' ⟨rfl, rfl⟩; rw [HC.out]))
      refine bodyPost_ret (v := .tuple #[.agg #[.slice none 0 0, .slice none 0 0], .int .i64 4]) (by simp [results, Try.results75, go_sem, *]) rfl (Ret.err0 HX.out HRB.out HBV.out (Nat.le_refl _))
    · have d0 : ((m : Int) == 0) = false := by simp; omega
      have hk0 : k ≠ [] := by rintro rfl; exact h0 hV.len.symm
      have hl := (natB_iff.1 h1).2
      have hk := (natB_iff.1 h2).2
      have hkp : 0 < lv k := by
        rcases Nat.eq_zero_or_pos (lv k) with h | h
        · rw [h, lm_zero] at hk; exact absurd hk hk0
        · exact h
      have HX := hide (show mkR l k = limR (mkRat (lv l) (lv k)) by unfold mkR; rw [if_pos ⟨h1, h2⟩, if_neg hk0])
      have HL := hide hl
      have HK := hide hk
      clear h1 h2 hk0 hl hk
      go_enter Try.func75, Try.ntmps75
      go_upto_region 1 with (fail)
      generalize hW : World.alloc w _ = v
      have HRB := hide (show Rb v w.heap.size by rw [← hW]; exact Rb.mk0 _ rfl)
      have HBV := hide (show Below w.heap.size w v by rw [← hW]; exact (Below.refl _ _).alloc (Nat.le_refl _) _)
      have HU := hide (show Ul v none A n l by rw [← hW]; exact hU.alloc _)
      have HV := hide (show Ul v none B m k by rw [← hW]; exact hV.alloc _)
      obtain ⟨r0, r1, rf, rz, -⟩ := HRB.out
      clear hW hU hV hU0 hV0
      go_wp2_with (first
        | (go_at_call 68; (with_reducible refine (ncheck_any _ none A n c l HU.out (by omega)).mono ?_); rintro e w' ⟨rfl, rfl⟩; rw [HB.out])
        | (go_at_call 68; (with_reducible refine (ncheck_any _ none B m d k HV.out (by omega)).mono ?_); rintro e w' ⟨rfl, rfl⟩; rw [HC.out])
        | (go_at_call 60; refine (fexact_any _ none none A n c B m d (lv l) (lv k) (by rw [← HL.out]; exact HU.out) (by rw [← HK.out]; exact HV.out) hn hm hkp).mono ?_; rintro e w5 ⟨q, er, rfl, her, ho, hb5⟩; have HER := her; have HO := ho; have HB5 := hide (HBV.out.trans (hb5.mono HBV.out.size)); have HR5 := hide (HRB.out.below hb5); obtain ⟨z0, z1, z2, z3, -⟩ := HR5.out; clear her ho hb5))
      refine bodyPost_ret (v := .tuple #[.agg #[.slice q.A q.n q.c, .slice q.B q.m q.d], .int .i64 er]) (by simp [results, Try.results75, go_sem, *]) rfl (Ret.mk0 (by rw [HX.out]; exact HER.out) (by rw [HX.out]; exact HO.out) HR5.out HB5.out (Nat.le_refl _))
  · have HX := hide (show mkR l k = (none, 1) from if_neg h1)
    by_cases h2 : natB l = true
    · have HB := hide h2
      have HC := hide (show natB k = false from Bool.eq_false_iff.2 (fun h => h1 ⟨h2, h⟩))
      clear h1 h2
      go_enter Try.func75, Try.ntmps75
      go_upto_region 1 with (fail)
      generalize hW : World.alloc w _ = v
      have HRB := hide (show Rb v w.heap.size by rw [← hW]; exact Rb.mk0 _ rfl)
      have HBV := hide (show Below w.heap.size w v by rw [← hW]; exact (Below.refl _ _).alloc (Nat.le_refl _) _)
      have HU := hide (show Ul v none A n l by rw [← hW]; exact hU.alloc _)
      have HV := hide (show Ul v none B m k by rw [← hW]; exact hV.alloc _)
      obtain ⟨r0, r1, rf, rz, -⟩ := HRB.out
      clear hW hU hV hU0 hV0
      go_wp2_with (first
        | (go_at_call 68; (with_reducible refine (ncheck_any _ none A n c l HU.out (by omega)).mono ?_); rintro e w' ⟨rfl, rfl⟩; rw [HB.out])
        | (go_at_call 68; (with_reducible refine (ncheck_any _ none B m d k HV.out (by omega)).mono ?_); rintro e w' ⟨rfl, rfl⟩; rw [HC.out]))
      refine bodyPost_ret (v := .tuple #[.agg #[.slice none 0 0, .slice none 0 0], .int .i64 1]) (by simp [results, Try.results75, go_sem, *]) rfl (Ret.err0 HX.out HRB.out HBV.out (Nat.le_refl _))
    · have HB := hide (show natB l = false by simpa using h2)
      clear h1 h2
      go_enter Try.func75, Try.ntmps75
      go_upto_region 1 with (fail)
      generalize hW : World.alloc w _ = v
      have HRB := hide (show Rb v w.heap.size by rw [← hW]; exact Rb.mk0 _ rfl)
      have HBV := hide (show Below w.heap.size w v by rw [← hW]; exact (Below.refl _ _).alloc (Nat.le_refl _) _)
      have HU := hide (show Ul v none A n l by rw [← hW]; exact hU.alloc _)
      obtain ⟨r0, r1, rf, rz, -⟩ := HRB.out
      clear hW hU hV hU0 hV0
      go_wp2_with (go_at_call 68; (with_reducible refine (ncheck_any _ none A n c l HU.out (by omega)).mono ?_); rintro e w' ⟨rfl, rfl⟩; rw [HB.out])
      refine bodyPost_ret (v := .tuple #[.agg #[.slice none 0 0, .slice none 0 0], .int .i64 1]) (by simp [results, Try.results75, go_sem, *]) rfl (Ret.err0 HX.out HRB.out HBV.out (Nat.le_refl _))

theorem lm64 {x : Nat} (h : x < 18446744073709551616) : (lm x).length ≤ 2 := lm_length_le.2 (by omega)
theorem natB64 {x : Nat} (h : x < 18446744073709551616) : natB (lm x) = true := by
  rw [natB_lm]; have := lm64 h; simp; omega
theorem fits64 {x y : Nat} (hx : x < 18446744073709551616) (hy : y < 18446744073709551616) (h0 : 0 < y) : fitsR (mkRat x y) = true := by
  unfold fitsR
  rw [mk_num x y h0, mk_den x y h0]
  have h1 := lm64 (Nat.lt_of_le_of_lt (Nat.div_le_self x (Nat.gcd x y)) hx)
  have h2 := lm64 (Nat.lt_of_le_of_lt (Nat.div_le_self y (Nat.gcd x y)) hy)
  simp; omega
theorem mkR_64 {x y : Nat} (hx : x < 18446744073709551616) (hy : y < 18446744073709551616) (h0 : 0 < y) : mkR (lm x) (lm y) = (some (mkRat x y), 0) := by
  unfold mkR
  rw [if_pos ⟨natB64 hx, natB64 hy⟩, if_neg (fun h => by have := lm_eq_nil.1 h; omega), lv_lm, lv_lm, limR_fit (fits64 hx hy h0)]
set_option maxRecDepth 100000 in
set_option maxHeartbeats 8000000 in
theorem fof_any (w : World) (x y : Nat) (hx : x < 9223372036854775808) (hy : y < 9223372036854775808) (h0 : 0 < y) :
    Calls Try.prog 53 #[.int .i64 (x : Int), .int .i64 (y : Int)] w fun e w' => Ret w (some (mkRat x y), 0) e w' := by
  have HM := hide (mkR_64 (x := x) (y := y) (by omega) (by omega) h0)
  have hw1 : IntKind.u64.wrap (x : Int) = (x : Int) := by
    show (x : Int) % 18446744073709551616 = x
    omega
  have hw2 : IntKind.u64.wrap (y : Int) = (y : Int) := by
    show (y : Int) % 18446744073709551616 = y
    omega
  go_enter Try.func53, Try.ntmps53
  go_upto_region 1 with (fail)
  generalize hW : World.alloc w _ = v
  have HRB := hide (show Rb v w.heap.size by rw [← hW]; exact Rb.mk0 _ rfl)
  have HBV := hide (show Below w.heap.size w v by rw [← hW]; exact (Below.refl _ _).alloc (Nat.le_refl _) _)
  obtain ⟨r0, r1, rf, rz, -⟩ := HRB.out
  clear hW
  go_wp2_with (first
    | (go_at_call 76; (with_reducible refine (nof_any _ x (by omega)).mono ?_); rintro e w1 ⟨A, m, c, rfl, h1, h2, hu, hb⟩; have HU1 := hide hu; have HB1 := hide hb; clear hu hb)
    | (go_at_call 76; (with_reducible refine (nof_any _ y (by omega)).mono ?_); rintro e w2 ⟨A2, m2, c2, rfl, h3, h4, hu, hb⟩; have HU2 := hide hu; have HU1b := hide (HU1.out.below hb); have HR2 := hide ((HRB.out.below HB1.out).below hb); have HB2 := hide ((HBV.out.trans (HB1.out.mono HBV.out.size)).trans (hb.mono (Nat.le_trans HBV.out.size HB1.out.size))); clear hu hb)
    | (go_at_call 75; (with_reducible refine (fmake_any _ A m c A2 m2 c2 _ _ HU1b.out HU2.out (by omega) (by omega)).mono ?_); rintro e w5 ⟨q, rfl, ho, hb5⟩; rw [HM.out] at ho; have HO := hide ho; have HB5 := hide (HB2.out.trans (hb5.mono HB2.out.size)); have HR5 := hide (HR2.out.below hb5); obtain ⟨z0, z1, z2, z3, -⟩ := HR5.out; clear ho hb5))
  have HX := hide (show (mkR (lm x) (lm y)).2 = 0 by rw [HM.out])
  refine bodyPost_ret (v := .tuple #[.agg #[.slice q.A q.n q.c, .slice q.B q.m q.d], .int .i64 (mkR (lm x) (lm y)).2]) (by simp [results, Try.results53, go_sem, *]) rfl (Ret.mk0 (by rw [HX.out]) HO.out HR5.out HB5.out (Nat.le_refl _))
end Go.Proofs.Ytnofljgmkdommaa

/- Plain laws of the chances of a number of failures. -/
namespace Go.Proofs.Ytnofljgmkdommaa

/-- A number that has the denominator D fits where D and its numerator do. -/
theorem fits_of {r : Rat} {x D : Nat} (hD : 0 < D) (h : r * (D : Rat) = (x : Rat)) (hx : x < 4294967296 ^ 128) (hd : D < 4294967296 ^ 128) : fitsR r = true := by
  have hD0 : (D : Rat) ≠ 0 := by
    intro h0
    have : D = 0 := by exact_mod_cast h0
    omega
  have e : r = mkRat (x : Int) D := by
    rw [Rat.mkRat_eq_div]
    have : ((x : Int) : Rat) = (x : Rat) := rfl
    rw [this, ← h]
    grind
  have h1 := mk_num x D hD
  have h2 := mk_den x D hD
  rw [← e] at h1 h2
  unfold fitsR
  rw [h1, h2]
  simp only [Bool.and_eq_true, decide_eq_true_eq]
  exact ⟨lm_length_le.2 (Nat.lt_of_le_of_lt (Nat.div_le_self _ _) hx), lm_length_le.2 (Nat.lt_of_le_of_lt (Nat.div_le_self _ _) hd)⟩
theorem rpow_add (a : Rat) (m : Nat) : ∀ n, a ^ (m + n) = a ^ m * a ^ n
  | 0 => by rw [Nat.add_zero, Rat.pow_zero]; grind
  | n + 1 => by rw [← Nat.add_assoc, Rat.pow_succ, Rat.pow_succ, rpow_add a m n]; grind
/-- r has the denominator d ^ n. -/
def Sc (d n : Nat) (r : Rat) : Prop := ∃ x : Nat, r * (d : Rat) ^ n = (x : Rat)
theorem Sc.nat (d : Nat) (x : Nat) : Sc d 0 (x : Rat) := ⟨x, by grind⟩
theorem Sc.up {d n : Nat} {r : Rat} (h : Sc d n r) (k : Nat) : Sc d (n + k) r := by
  obtain ⟨x, h⟩ := h
  refine ⟨x * d ^ k, ?_⟩
  rw [Rat.natCast_mul, Rat.natCast_pow, ← h, rpow_add]
  grind
theorem Sc.le {d n m : Nat} {r : Rat} (h : Sc d n r) (k : n ≤ m) : Sc d m r := by
  have := h.up (m - n)
  rwa [Nat.add_sub_cancel' k] at this
theorem Sc.mul {d n m : Nat} {r s : Rat} (h : Sc d n r) (k : Sc d m s) : Sc d (n + m) (r * s) := by
  obtain ⟨x, h⟩ := h
  obtain ⟨y, k⟩ := k
  refine ⟨x * y, ?_⟩
  rw [Rat.natCast_mul, ← h, ← k, rpow_add]
  grind
theorem Sc.add {d n : Nat} {r s : Rat} (h : Sc d n r) (k : Sc d n s) : Sc d n (r + s) := by
  obtain ⟨x, h⟩ := h
  obtain ⟨y, k⟩ := k
  refine ⟨x + y, ?_⟩
  rw [Rat.natCast_add, ← h, ← k]
  grind
theorem Sc.pow {d n : Nat} {r : Rat} (h : Sc d n r) : ∀ k, Sc d (n * k) (r ^ k)
  | 0 => by
    have := Sc.nat d 1
    simpa using this
  | k + 1 => by
    rw [Rat.pow_succ, Nat.mul_succ]
    exact (h.pow k).mul h
theorem cast_nonneg (n : Nat) : (0 : Rat) ≤ (n : Rat) := by exact_mod_cast Nat.zero_le n
theorem Sc.fits {d n : Nat} {r : Rat} (h : Sc d n r) (hd : 0 < d) (hd2 : d ≤ 1000000) (hn : n ≤ 128) (hr : r ≤ ((4294967296 ^ 4 : Nat) : Rat)) : fitsR r = true := by
  obtain ⟨x, h⟩ := h
  have hp : d ^ n ≤ 4294967296 ^ 96 := by
    have h1 : d ^ n ≤ 1000000 ^ n := Nat.pow_le_pow_left hd2 n
    have h2 : 1000000 ^ n ≤ 1000000 ^ 128 := Nat.pow_le_pow_right (by omega) hn
    have h3 : 1000000 ^ 128 ≤ 4294967296 ^ 96 := by decide +kernel
    omega
  have hx : x ≤ 4294967296 ^ 4 * d ^ n := by
    have : (x : Rat) ≤ ((4294967296 ^ 4 * d ^ n : Nat) : Rat) := by
      rw [← h, Rat.natCast_mul, Rat.natCast_pow d n]
      exact Rat.mul_le_mul_of_nonneg_right hr (Rat.pow_nonneg (cast_nonneg d))
    exact_mod_cast this
  refine fits_of (x := x) (D := d ^ n) (Nat.pow_pos hd) (by rw [Rat.natCast_pow]; exact h) ?_ ?_
  · have h4 : 4294967296 ^ 4 * d ^ n ≤ 4294967296 ^ 4 * 4294967296 ^ 96 := Nat.mul_le_mul_left _ hp
    have h5 : 4294967296 ^ 4 * 4294967296 ^ 96 < 4294967296 ^ 128 := by decide +kernel
    omega
  · have h5 : 4294967296 ^ 96 < 4294967296 ^ 128 := by decide +kernel
    omega

/-- The numbers of sets of k elements of n. -/
def ch : Nat → Nat → Nat
  | _, 0 => 1
  | 0, _ + 1 => 0
  | n + 1, k + 1 => ch n k + ch n (k + 1)
theorem ch_zero (n : Nat) : ch n 0 = 1 := by cases n <;> rfl
theorem ch_over : ∀ {n k : Nat}, n < k → ch n k = 0
  | 0, k + 1, _ => rfl
  | n + 1, k + 1, h => by
    show ch n k + ch n (k + 1) = 0
    rw [ch_over (by omega), ch_over (by omega)]
theorem ch_self : ∀ n, ch n n = 1
  | 0 => rfl
  | n + 1 => by
    show ch n n + ch n (n + 1) = 1
    rw [ch_self n, ch_over (by omega)]
theorem ch_le : ∀ n k : Nat, ch n k ≤ 2 ^ n
  | n, 0 => by rw [ch_zero]; exact Nat.pow_pos (by omega)
  | 0, k + 1 => by show 0 ≤ _; omega
  | n + 1, k + 1 => by
    have h1 := ch_le n k
    have h2 := ch_le n (k + 1)
    show ch n k + ch n (k + 1) ≤ _
    rw [Nat.pow_succ]; omega

/-- The chance of k failures of n. -/
def tm (r : Rat) (n k : Nat) : Rat := (ch n k : Rat) * r ^ k * (1 - r) ^ (n - k)
/-- The chances of those numbers of failures below m that count. -/
def sm (r : Rat) (n : Nat) (f : Nat → Bool) : Nat → Rat
  | 0 => 0
  | m + 1 => sm r n f m + if f m then tm r n m else 0
def tot (r : Rat) (n : Nat) (f : Nat → Bool) : Rat := sm r n f (n + 1)
theorem tm_over {r : Rat} {n k : Nat} (h : n < k) : tm r n k = 0 := by
  unfold tm
  rw [ch_over h]
  have : ((0 : Nat) : Rat) = 0 := rfl
  rw [this]; grind
theorem tm_step (r : Rat) (n k : Nat) : tm r (n + 1) (k + 1) = r * tm r n k + (1 - r) * tm r n (k + 1) := by
  by_cases hk : k + 1 ≤ n
  · unfold tm
    obtain ⟨j, rfl⟩ : ∃ j, n = k + 1 + j := ⟨n - (k + 1), by omega⟩
    have e1 : k + 1 + j + 1 - (k + 1) = j + 1 := by omega
    have e2 : k + 1 + j - k = j + 1 := by omega
    have e3 : k + 1 + j - (k + 1) = j := by omega
    rw [e1, e2, e3]
    show ((ch (k + 1 + j) k + ch (k + 1 + j) (k + 1) : Nat) : Rat) * _ * _ = _
    rw [Rat.natCast_add, Rat.pow_succ r, Rat.pow_succ (1 - r)]
    grind
  · rw [tm_over (n := n) (k := k + 1) (by omega)]
    by_cases hk2 : k = n
    · subst hk2
      unfold tm
      rw [ch_self, ch_self, Nat.sub_self, Nat.sub_self, Rat.pow_succ]
      grind
    · rw [tm_over (by omega), tm_over (by omega)]; grind
theorem tm_nonneg {r : Rat} (h0 : 0 ≤ r) (h1 : r ≤ 1) (n k : Nat) : 0 ≤ tm r n k :=
  Rat.mul_nonneg (Rat.mul_nonneg (cast_nonneg _) (Rat.pow_nonneg h0)) (Rat.pow_nonneg (by grind))
theorem sm_step (r : Rat) (n : Nat) (f : Nat → Bool) : ∀ m, sm r (n + 1) f (m + 1) = r * sm r n (fun i => f (i + 1)) m + (1 - r) * sm r n f (m + 1)
  | 0 => by
    show (0 : Rat) + (if f 0 then tm r (n + 1) 0 else 0) = r * 0 + (1 - r) * (0 + if f 0 then tm r n 0 else 0)
    have : tm r (n + 1) 0 = (1 - r) * tm r n 0 := by
      unfold tm
      rw [ch_zero, ch_zero, Nat.sub_zero, Nat.sub_zero, Rat.pow_succ (1 - r)]
      grind
    rw [this]
    split <;> grind
  | m + 1 => by
    show sm r (n + 1) f (m + 1) + (if f (m + 1) then tm r (n + 1) (m + 1) else 0) = r * (sm r n (fun i => f (i + 1)) m + if f (m + 1) then tm r n m else 0) + (1 - r) * (sm r n f (m + 1) + if f (m + 1) then tm r n (m + 1) else 0)
    rw [sm_step r n f m, tm_step]
    split <;> grind
theorem tot_step (r : Rat) (n : Nat) (f : Nat → Bool) : tot r (n + 1) f = r * tot r n (fun i => f (i + 1)) + (1 - r) * tot r n f := by
  unfold tot
  rw [sm_step]
  show _ = _ + (1 - r) * sm r n f (n + 1)
  have : sm r n f (n + 1 + 1) = sm r n f (n + 1) := by
    show sm r n f (n + 1) + (if f (n + 1) then tm r n (n + 1) else 0) = _
    rw [tm_over (by omega)]
    split <;> grind
  rw [this]
theorem tot_zero (r : Rat) (f : Nat → Bool) : tot r 0 f = if f 0 then 1 else 0 := by
  show (0 : Rat) + (if f 0 then tm r 0 0 else 0) = _
  have : tm r 0 0 = 1 := by
    unfold tm
    rw [ch_zero]
    simp
  rw [this]
  split <;> grind
theorem sm_mono {r : Rat} (h0 : 0 ≤ r) (h1 : r ≤ 1) {n : Nat} {f g : Nat → Bool} (h : ∀ i, f i = true → g i = true) : ∀ m, sm r n f m ≤ sm r n g m
  | 0 => Rat.le_refl
  | m + 1 => by
    show sm r n f m + (if f m then tm r n m else 0) ≤ sm r n g m + (if g m then tm r n m else 0)
    have h2 := sm_mono h0 h1 (n := n) h m
    have h3 := tm_nonneg h0 h1 n m
    have h4 := h m
    cases hf : f m
    · split <;> grind
    · rw [h4 hf]; grind
theorem tot_mono {r : Rat} (h0 : 0 ≤ r) (h1 : r ≤ 1) {n : Nat} {f g : Nat → Bool} (h : ∀ i, f i = true → g i = true) : tot r n f ≤ tot r n g := sm_mono h0 h1 h _
theorem tot_more {r : Rat} (h0 : 0 ≤ r) (h1 : r ≤ 1) {n : Nat} {f : Nat → Bool} (h : ∀ i, f i = true → f (i + 1) = true) : tot r n f ≤ tot r (n + 1) f := by
  rw [tot_step]
  have h2 := tot_mono h0 h1 (n := n) h
  have h3 : 0 ≤ r * (tot r n (fun i => f (i + 1)) - tot r n f) := Rat.mul_nonneg h0 (by grind)
  grind
theorem tot_grow {r s : Rat} (h0 : 0 ≤ r) (h1 : s ≤ 1) (h : r ≤ s) : ∀ {n : Nat} {f : Nat → Bool}, (∀ i, f i = true → f (i + 1) = true) → tot r n f ≤ tot s n f
  | 0, f, _ => by rw [tot_zero, tot_zero]; exact Rat.le_refl
  | n + 1, f, hf => by
    rw [tot_step, tot_step]
    have i1 := tot_grow h0 h1 h (n := n) (f := fun i => f (i + 1)) (fun i hi => hf _ hi)
    have i2 := tot_grow h0 h1 h (n := n) hf
    have i3 := tot_mono h0 (Rat.le_trans h h1) (n := n) hf
    have j1 : 0 ≤ s * (tot s n (fun i => f (i + 1)) - tot r n (fun i => f (i + 1))) := Rat.mul_nonneg (Rat.le_trans h0 h) (by grind)
    have j2 : 0 ≤ (1 - s) * (tot s n f - tot r n f) := Rat.mul_nonneg (by grind) (by grind)
    have j3 : 0 ≤ (s - r) * (tot r n (fun i => f (i + 1)) - tot r n f) := Rat.mul_nonneg (by grind) (by grind)
    grind
theorem sm_split (r : Rat) (n : Nat) (f : Nat → Bool) : ∀ m, sm r n f m + sm r n (fun i => !f i) m = sm r n (fun _ => true) m
  | 0 => by show (0 : Rat) + 0 = 0; grind
  | m + 1 => by
    have := sm_split r n f m
    show sm r n f m + (if f m then tm r n m else 0) + (sm r n (fun i => !f i) m + if (!f m) then tm r n m else 0) = sm r n (fun _ => true) m + if true then tm r n m else 0
    rw [← this]
    cases f m <;> simp <;> grind
theorem tot_all (r : Rat) : ∀ n, tot r n (fun _ => true) = 1
  | 0 => by rw [tot_zero]; rfl
  | n + 1 => by rw [tot_step, tot_all r n]; grind
theorem tot_split (r : Rat) (n : Nat) (f : Nat → Bool) : tot r n f + tot r n (fun i => !f i) = 1 := by
  rw [← tot_all r n]; exact sm_split r n f _
theorem sm_nonneg {r : Rat} (h0 : 0 ≤ r) (h1 : r ≤ 1) (n : Nat) (f : Nat → Bool) : ∀ m, 0 ≤ sm r n f m
  | 0 => Rat.le_refl
  | m + 1 => by
    show 0 ≤ sm r n f m + (if f m then tm r n m else 0)
    have h2 := sm_nonneg h0 h1 n f m
    have h3 := tm_nonneg h0 h1 n m
    split <;> grind
theorem sm_le_tot {r : Rat} (h0 : 0 ≤ r) (h1 : r ≤ 1) (n : Nat) (f : Nat → Bool) : ∀ k, sm r n f (n + 1 - k) ≤ tot r n f
  | 0 => Rat.le_refl
  | k + 1 => by
    have h2 := sm_le_tot h0 h1 n f k
    by_cases hk : k < n + 1
    · obtain ⟨j, hj⟩ : ∃ j, n + 1 - k = j + 1 := ⟨n - k, by omega⟩
      have e : n + 1 - (k + 1) = j := by omega
      rw [hj] at h2
      rw [e]
      have h3 := tm_nonneg h0 h1 n j
      have h4 : sm r n f (j + 1) = sm r n f j + if f j then tm r n j else 0 := rfl
      rw [h4] at h2
      revert h2
      split <;> intro h2 <;> grind
    · have e : n + 1 - (k + 1) = n + 1 - k := by omega
      rw [e]; exact h2
theorem sm_le_one {r : Rat} (h0 : 0 ≤ r) (h1 : r ≤ 1) (n : Nat) (f : Nat → Bool) {m : Nat} (hm : m ≤ n + 1) : sm r n f m ≤ 1 := by
  have h2 := sm_le_tot h0 h1 n f (n + 1 - m)
  have e : n + 1 - (n + 1 - m) = m := by omega
  rw [e] at h2
  have h3 := tot_mono h0 h1 (n := n) (f := f) (g := fun _ => true) (fun _ _ => rfl)
  rw [tot_all] at h3
  exact Rat.le_trans h2 h3
/-- Their denominators. -/
theorem sc_tm {d : Nat} {r : Rat} (h : Sc d 1 r) (h' : Sc d 1 (1 - r)) {n k : Nat} (hk : k ≤ n) : Sc d n (tm r n k) := by
  have := ((Sc.nat d (ch n k)).mul (h.pow k)).mul (h'.pow (n - k))
  have e : 0 + 1 * k + 1 * (n - k) = n := by omega
  rwa [e] at this
theorem sc_sm {d : Nat} {r : Rat} (h : Sc d 1 r) (h' : Sc d 1 (1 - r)) {n : Nat} (f : Nat → Bool) : ∀ {m : Nat}, m ≤ n + 1 → Sc d n (sm r n f m)
  | 0, _ => (Sc.nat d 0).le (Nat.zero_le n)
  | m + 1, hm => by
    show Sc d n (sm r n f m + if f m then _ else 0)
    refine (sc_sm h h' f (by omega)).add ?_
    split
    · exact sc_tm h h' (by omega)
    · exact (Sc.nat d 0).le (Nat.zero_le n)
end Go.Proofs.Ytnofljgmkdommaa

/- Contracts: noise.whole, other, Chance. -/
namespace Go.Proofs.Ytnofljgmkdommaa
open Go.RowKit

/-- The box g holds the fraction c. -/
structure Bq (v : World) (g : Nat) (c : Fa) : Prop where
  c0 : v.cell? ⟨g, 0, none⟩ = some (.slice c.A c.n c.c)
  c1 : v.cell? ⟨g, 1, none⟩ = some (.slice c.B c.m c.d)
  fz : ∀ j, v.frozen? ⟨g, j, none⟩ = false
  sz : g < v.heap.size
  nb : NB v g
abbrev fa0 : Fa := ⟨none, 0, 0, none, 0, 0⟩
theorem Bq.below {v v' : World} {g : Nat} {c : Fa} (h : Bq v g c) (hb : Below v.heap.size v v') : Bq v' g c := by
  have h1 := h.sz
  refine ⟨?_, ?_, fun j => ?_, Nat.lt_of_lt_of_le h.sz hb.size, fun j x => ?_⟩
  · rw [hb.cell (by simp; omega)]; exact h.c0
  · rw [hb.cell (by simp; omega)]; exact h.c1
  · rw [hb.frozen (by simp; omega)]; exact h.fz j
  · rw [hb.cell (by simp; omega)]; exact h.nb j x
theorem Bq.drewN {v : World} {g : Nat} {c : Fa} (h : Bq v g c) (n : Nat) : Bq (v.drewN n) g c := ⟨h.c0, h.c1, h.fz, h.sz, h.nb⟩
theorem Bq.drew {v : World} {g : Nat} {c : Fa} (h : Bq v g c) : Bq v.drew g c := h.drewN 1
theorem Bq.alloc {v : World} {g : Nat} {c : Fa} (h : Bq v g c) (o : Obj) : Bq (v.alloc o) g c := h.below ((Below.refl _ _).alloc (Nat.le_refl _) _)
theorem Bq.mk0 {w : World} (t : TypeId) (c : Fa) {g : Nat} (hg : g = w.heap.size) : Bq (w.alloc (.cells #[.slice c.A c.n c.c, .slice c.B c.m c.d] t)) g c := by
  subst hg
  refine ⟨by simp [go_sem], by simp [go_sem], fun j => by simp [go_sem], by simp, fun j x h => ?_⟩
  rcases j with _ | _ | j <;> simp [go_sem] at h
theorem Rb.bq {v : World} {g : Nat} (h : Rb v g) : Bq v g fa0 := ⟨h.c0, h.c1, h.fz, h.sz, h.nb⟩
theorem Bq.rb {v : World} {g : Nat} (h : Bq v g fa0) : Rb v g := ⟨h.c0, h.c1, h.fz, h.sz, h.nb⟩
/-- Another fraction is stored. -/
theorem Bq.fill {v : World} {g : Nat} {c : Fa} (h : Bq v g c) (x : Fa) : Bq ((v.setCell ⟨g, 0, none⟩ (.slice x.A x.n x.c)).setCell ⟨g, 1, none⟩ (.slice x.B x.m x.d)) g x := by
  have h1 := h.c0
  have h2 := h.c1
  refine ⟨by simp [go_sem, *], by simp [go_sem, *], fun j => by have := h.fz j; simp [go_sem, *], by have := h.sz; simpa using this, (h.nb.put 0 (by simp)).put 1 (by simp)⟩
theorem NB.far {w : World} {g g' : Nat} (h : NB w g) (hg : g' ≠ g) (i : Nat) (v : Value) : NB (w.setCell ⟨g', i, none⟩ v) g := by
  intro j x
  rw [World.cell?_setCell_other _ _ _ _ (by intro h; injection h; omega)]
  exact h j x
theorem Bq.far {v : World} {g g' : Nat} {c : Fa} (h : Bq v g c) (hg : g' ≠ g) (x y : Value) : Bq ((v.setCell ⟨g', 0, none⟩ x).setCell ⟨g', 1, none⟩ y) g c := by
  refine ⟨?_, ?_, fun j => ?_, by have := h.sz; simpa using this, (h.nb.far hg _ _).far hg _ _⟩
  · rw [World.cell?_setCell_other _ _ _ _ (by intro h; injection h; omega), World.cell?_setCell_other _ _ _ _ (by intro h; injection h; omega)]; exact h.c0
  · rw [World.cell?_setCell_other _ _ _ _ (by intro h; injection h; omega), World.cell?_setCell_other _ _ _ _ (by intro h; injection h; omega)]; exact h.c1
  · have := h.fz j; simp [go_sem, *]
theorem Fo.fill {w : World} {a : Fa} {o : Option Rat} (h : Fo w a o) {g : Nat} {c : Fa} (hg : Bq w g c) (x : Fa) : Fo ((w.setCell ⟨g, 0, none⟩ (.slice x.A x.n x.c)).setCell ⟨g, 1, none⟩ (.slice x.B x.m x.d)) a o := h.put2 hg.nb _ _ (by simp)
/-- A fraction is returned. -/
def Ret1 (w : World) (o : Option Rat) (e : Ending) (w' : World) : Prop := ∃ c : Fa, e = .returned (.agg #[.slice c.A c.n c.c, .slice c.B c.m c.d]) ∧ Fo w' c o ∧ Below w.heap.size w w'
theorem mk_one (n : Nat) : mkRat (n : Int) 1 = (n : Rat) := by rw [Rat.mkRat_one]; rfl
theorem Below.of_drew {v w : World} (h : Below v.drew.heap.size v.drew w) : Below v.heap.size v w := (Dr.below ⟨1, rfl⟩).trans h
theorem Below.of_alloc {v w : World} {o : Obj} (h : Below (v.alloc o).heap.size (v.alloc o) w) : Below v.heap.size v w := ((Below.refl _ _).alloc (Nat.le_refl _) _).trans (h.mono (by simp))
theorem fadd_o (w : World) (a b : Fa) (o o' : Option Rat) (ha : Fo w a o) (hb : Fo w b o') : Calls Try.prog 36 #[.agg #[.slice a.A a.n a.c, .slice a.B a.m a.d], .agg #[.slice b.A b.n b.c, .slice b.B b.m b.d]] w fun e w' => Ret w (addR o o') e w' := by
  have := fadd_any w a b _ _ _ _ ha.1 hb.1
  rwa [fracOf_self ha.2, fracOf_self hb.2] at this
theorem fmul_o (w : World) (a b : Fa) (o o' : Option Rat) (ha : Fo w a o) (hb : Fo w b o') : Calls Try.prog 45 #[.agg #[.slice a.A a.n a.c, .slice a.B a.m a.d], .agg #[.slice b.A b.n b.c, .slice b.B b.m b.d]] w fun e w' => Ret w (mulR o o') e w' := by
  have := fmul_any w a b _ _ _ _ ha.1 hb.1
  rwa [fracOf_self ha.2, fracOf_self hb.2] at this
theorem fcmp_o (w : World) (a b : Fa) (o o' : Option Rat) (ha : Fo w a o) (hb : Fo w b o') : Calls Try.prog 19 #[.agg #[.slice a.A a.n a.c, .slice a.B a.m a.d], .agg #[.slice b.A b.n b.c, .slice b.B b.m b.d]] w fun e w' => e = .returned (.int .i64 (cmpO o o')) ∧ Below w.heap.size w w' := by
  have := fcmp_any w a b _ _ _ _ ha.1 hb.1
  rwa [fracOf_self ha.2, fracOf_self hb.2] at this
end Go.Proofs.Ytnofljgmkdommaa

/- Contracts: noise.Chance. -/
namespace Go.Proofs.Ytnofljgmkdommaa
open Go.RowKit

/-- A chance: at most 1, with a denominator of at most 1000. -/
def chO : Option Rat → Bool
  | some r => decide (r ≤ 1) && decide (r.den ≤ 1000)
  | none => false
theorem nof1000 (w : World) : Calls Try.prog 76 #[.int .u64 1000] w fun e w' => ∃ A m c, e = .returned (.slice A m c) ∧ m ≤ c ∧ m ≤ 2 ∧ Ul w' none A m (lm 1000) ∧ Below w.heap.size w w' := nof_any w 1000 (by omega)
end Go.Proofs.Ytnofljgmkdommaa

/- Contracts: fraction.Pow. -/
namespace Go.Proofs.Ytnofljgmkdommaa
open Go.RowKit

/-- One operand's box at the world's end, the result's box behind it. -/
structure F1 (w0 v : World) (a : Fa) (l k : List Nat) : Prop where
  bw : Below w0.heap.size w0 v
  c0 : v.cell? ⟨w0.heap.size, 0, none⟩ = some (.slice a.A a.n a.c)
  c1 : v.cell? ⟨w0.heap.size, 1, none⟩ = some (.slice a.B a.m a.d)
  sz : w0.heap.size + 1 < v.heap.size
  q : Fq v a l k
  rb : Rb v (w0.heap.size + 1)
theorem F1.below {w0 v v' : World} {a : Fa} {l k : List Nat} (h : F1 w0 v a l k) (hb : Below v.heap.size v v') : F1 w0 v' a l k := by
  have h1 := h.sz
  refine ⟨h.bw.trans (hb.mono h.bw.size), ?_, ?_, Nat.lt_of_lt_of_le h.sz hb.size, h.q.below hb, h.rb.below hb⟩
  · rw [hb.cell (by simp; omega)]; exact h.c0
  · rw [hb.cell (by simp; omega)]; exact h.c1
theorem F1.mk0 {w0 : World} {a : Fa} {l k : List Nat} (h : Fq w0 a l k) (t t' : TypeId) : F1 w0 ((w0.alloc (.cells #[.slice a.A a.n a.c, .slice a.B a.m a.d] t)).alloc (.cells #[.slice none 0 0, .slice none 0 0] t')) a l k :=
  ⟨((Below.refl _ _).alloc (Nat.le_refl _) _).alloc (by simp) _, by simp [go_sem], by simp [go_sem], by simp, (h.alloc _).alloc _, Rb.mk0 _ (by simp)⟩
theorem F1.ca {w0 v : World} {a : Fa} {l k : List Nat} (h : F1 w0 v a l k) : v.cell? ⟨w0.heap.size, 0, none⟩ = some (.slice a.A a.n a.c) ∧ v.cell? ⟨w0.heap.size, 1, none⟩ = some (.slice a.B a.m a.d) ∧ w0.heap.size + 1 < v.heap.size ∧
  v.cell? ⟨w0.heap.size + 1, 0, none⟩ = some (.slice none 0 0) ∧ v.cell? ⟨w0.heap.size + 1, 1, none⟩ = some (.slice none 0 0) ∧ (∀ j, v.frozen? ⟨w0.heap.size + 1, j, none⟩ = false) := ⟨h.c0, h.c1, h.sz, h.rb.c0, h.rb.c1, h.rb.fz⟩
theorem F1.end {w0 v : World} {a : Fa} {l k : List Nat} (h : F1 w0 v a l k) {c : Fa} {x : Option Rat × Int} {er : Int} (h1 : er = x.2) (h2 : Fo v c x.1) :
    Ret w0 x (.returned (.tuple #[.agg #[.slice c.A c.n c.c, .slice c.B c.m c.d], .int .i64 er])) ((v.setCell ⟨w0.heap.size + 1, 0, none⟩ (.slice c.A c.n c.c)).setCell ⟨w0.heap.size + 1, 1, none⟩ (.slice c.B c.m c.d)) := Ret.mk0 h1 h2 h.rb h.bw (by omega)
theorem F1.err {w0 v : World} {a : Fa} {l k : List Nat} (h : F1 w0 v a l k) {x : Option Rat × Int} {er : Int} (h1 : x = (none, er)) :
    Ret w0 x (.returned (.tuple #[.agg #[.slice none 0 0, .slice none 0 0], .int .i64 er])) ((v.setCell ⟨w0.heap.size + 1, 0, none⟩ (.slice none 0 0)).setCell ⟨w0.heap.size + 1, 1, none⟩ (.slice none 0 0)) := Ret.err0 h1 h.rb h.bw (by omega)
theorem lpow128 (w : World) (A : Option Addr) (n c : Nat) (a k : Nat) (hU : Ul w none A n (lm a)) (hn : n ≤ 1000) (hk : k ≤ 65536) :
    Calls Try.prog 81 #[.slice A n c, .int .i64 (k : Int), .int .i64 128] w fun e w' => ∃ A' m' c' ok, e = .returned (.tuple #[.slice A' m' c', .bool ok]) ∧ m' ≤ c' ∧ Hid (ok = decide ((lm (a ^ k)).length ≤ 128)) ∧ Ul w' none A' m' (if ok then lm (a ^ k) else []) ∧ Below w.heap.size w w' :=
  lpow_any w none A n c a k 128 hU hn hk (by omega) (by omega)
theorem rn_den_pow (r : Rat) (n : Nat) : (r ^ n).den = r.den ^ n := Rat.den_pow r n
set_option maxRecDepth 100000 in
set_option maxHeartbeats 8000000 in
theorem fpow_any (w : World) (a : Fa) (l k : List Nat) (n : Int) (hq : Fq w a l k) (hn : -9223372036854775808 ≤ n) (hn2 : n < 9223372036854775808) :
    Calls Try.prog 59 #[.agg #[.slice a.A a.n a.c, .slice a.B a.m a.d], .int .i64 n] w fun e w' => Ret w (powR (fracOf l k) n) e w' := by
  rcases hA : fracOf l k with _ | r
  · have HA := hide hA
    clear hA
    go_enter Try.func59, Try.ntmps59
    go_upto_region 1 with (fail)
    generalize hW : World.alloc (World.alloc w _) _ = v
    have HF := hide (show F1 w v a (l) (k) by rw [← hW]; exact F1.mk0 hq _ _)
    obtain ⟨a0, a1, az, r0, r1, rf⟩ := HF.out.ca
    clear hW hq
    go_wp2_with (go_at_call 41; (with_reducible refine (fcheck_any _ a (l) (k) HF.out.q).mono ?_); rintro e w1 ⟨he, hb⟩; rw [HA.out] at he; subst he; have HF1 := hide (HF.out.below hb); obtain ⟨e0, e1, ez, s0, s1, sf⟩ := HF1.out.ca; clear hb)
    refine bodyPost_ret (v := .tuple #[.agg #[.slice none 0 0, .slice none 0 0], .int .i64 1]) (by simp [results, Try.results59, go_sem, *]) rfl (HF1.out.err rfl)
  · have HA := hide hA
    obtain ⟨rfl, rfl, hr0, hr⟩ := fracOf_some hA
    obtain ⟨hz1, hz2⟩ := Fq.small hq hr
    clear hA
    by_cases h0 : n < 0
    · have HX := hide (show powR (some r) n = (none, 3) from if_pos (Or.inl h0))
      go_enter Try.func59, Try.ntmps59
      go_upto_region 1 with (fail)
      generalize hW : World.alloc (World.alloc w _) _ = v
      have HF := hide (show F1 w v a (lm (rn r)) (lm r.den) by rw [← hW]; exact F1.mk0 hq _ _)
      obtain ⟨a0, a1, az, r0, r1, rf⟩ := HF.out.ca
      clear hW hq
      go_wp2_with (go_at_call 41; (with_reducible refine (fcheck_any _ a (lm (rn r)) (lm r.den) HF.out.q).mono ?_); rintro e w1 ⟨he, hb⟩; rw [HA.out] at he; subst he; have HF1 := hide (HF.out.below hb); obtain ⟨e0, e1, ez, s0, s1, sf⟩ := HF1.out.ca; clear hb)
      refine bodyPost_ret (v := .tuple #[.agg #[.slice none 0 0, .slice none 0 0], .int .i64 3]) (by simp [results, Try.results59, go_sem, *]) rfl (HF1.out.err HX.out)
    · by_cases h6 : 65536 < n
      · have HX := hide (show powR (some r) n = (none, 3) from if_pos (Or.inr h6))
        go_enter Try.func59, Try.ntmps59
        go_upto_region 1 with (fail)
        generalize hW : World.alloc (World.alloc w _) _ = v
        have HF := hide (show F1 w v a (lm (rn r)) (lm r.den) by rw [← hW]; exact F1.mk0 hq _ _)
        obtain ⟨a0, a1, az, r0, r1, rf⟩ := HF.out.ca
        clear hW hq
        go_wp2_with (go_at_call 41; (with_reducible refine (fcheck_any _ a (lm (rn r)) (lm r.den) HF.out.q).mono ?_); rintro e w1 ⟨he, hb⟩; rw [HA.out] at he; subst he; have HF1 := hide (HF.out.below hb); obtain ⟨e0, e1, ez, s0, s1, sf⟩ := HF1.out.ca; clear hb)
        refine bodyPost_ret (v := .tuple #[.agg #[.slice none 0 0, .slice none 0 0], .int .i64 3]) (by simp [results, Try.results59, go_sem, *]) rfl (HF1.out.err HX.out)
      · obtain ⟨m, rfl⟩ : ∃ m : Nat, n = m := ⟨n.toNat, by omega⟩
        have HX := hide (show powR (some r) m = limR (r ^ m) from if_neg (by omega))
        have hp0 : 0 ≤ r ^ m := Rat.pow_nonneg hr0
        have HM := hide (show m ≤ 65536 by omega)
        have d0 : decide ((m : Int) < 0) = false := decide_eq_false h0
        have d6 : decide ((m : Int) > 65536) = false := decide_eq_false h6
        clear h0 h6
        have hqn : a.n ≤ 1000 := by omega
        have hqm : a.m ≤ 1000 := by omega
        by_cases hu : (lm (rn r ^ m)).length ≤ 128
        · by_cases hv : (lm (r.den ^ m)).length ≤ 128
          · have HY := hide (show fitsR (r ^ m) = true by unfold fitsR; rw [rn_pow hr0, rn_den_pow]; simp [hu, hv])
            go_enter Try.func59, Try.ntmps59
            go_upto_region 1 with (fail)
            generalize hW : World.alloc (World.alloc w _) _ = v
            have HF := hide (show F1 w v a (lm (rn r)) (lm r.den) by rw [← hW]; exact F1.mk0 hq _ _)
            obtain ⟨a0, a1, az, r0, r1, rf⟩ := HF.out.ca
            clear hW hq
            go_wp2_with (first
              | (go_at_call 41; (with_reducible refine (fcheck_any _ a (lm (rn r)) (lm r.den) HF.out.q).mono ?_); rintro e w1 ⟨he, hb⟩; rw [HA.out] at he; subst he; have HF1 := hide (HF.out.below hb); obtain ⟨e0, e1, ez, s0, s1, sf⟩ := HF1.out.ca; clear hb)
              | (go_at_call 81; (with_reducible refine (lpow128 _ a.A a.n a.c (rn r) m HF1.out.q.u hqn HM.out).mono ?_); rintro e w2 ⟨A1, m1, c1, ok, rfl, hmc, hok, hu1, hb⟩; obtain rfl : ok = true := (by rw [hok.out]; exact decide_eq_true hu); have HU1 := hide hu1; have HF2 := hide (HF1.out.below hb); obtain ⟨g0, g1, gz, -⟩ := HF2.out.ca; clear hb hok hu1)
              | (go_at_call 81; (with_reducible refine (lpow128 _ a.B a.m a.d r.den m HF2.out.q.v hqm HM.out).mono ?_); rintro e w3 ⟨A2, m2, c2, ok, rfl, hmc2, hok, hu1, hb⟩; obtain rfl : ok = true := (by rw [hok.out]; exact decide_eq_true hv); have HU2 := hide hu1; have HU1b := hide (HU1.out.below hb); have HF3 := hide (HF2.out.below hb); obtain ⟨i0, i1, iz, t0, t1, tf⟩ := HF3.out.ca; clear hb hok hu1))
            have h3 := HU1b.out.len
            have h4 := HU2.out.len
            simp only [if_true] at h3 h4
            refine bodyPost_ret (v := .tuple #[.agg #[.slice A1 m1 c1, .slice A2 m2 c2], .int .i64 0]) (by simp [results, Try.results59, go_sem, *]) rfl (HF3.out.end (c := ⟨A1, m1, c1, A2, m2, c2⟩) (by rw [HX.out, limR_fit HY.out]) ?_)
            rw [HX.out, limR_fit HY.out]
            refine ⟨⟨?_, ?_, hmc, hmc2, by show m1 ≤ 9223372036854775807; omega, by show m2 ≤ 9223372036854775807; omega⟩, hp0, HY.out⟩
            · show Ul _ none A1 m1 (lm (rn (r ^ m))); rw [rn_pow hr0]; exact HU1b.out
            · show Ul _ none A2 m2 (lm (r ^ m).den); rw [rn_den_pow]; exact HU2.out
          · have HY := hide (show fitsR (r ^ m) = false by unfold fitsR; rw [rn_pow hr0, rn_den_pow]; simp; omega)
            go_enter Try.func59, Try.ntmps59
            go_upto_region 1 with (fail)
            generalize hW : World.alloc (World.alloc w _) _ = v
            have HF := hide (show F1 w v a (lm (rn r)) (lm r.den) by rw [← hW]; exact F1.mk0 hq _ _)
            obtain ⟨a0, a1, az, r0, r1, rf⟩ := HF.out.ca
            clear hW hq
            go_wp2_with (first
              | (go_at_call 41; (with_reducible refine (fcheck_any _ a (lm (rn r)) (lm r.den) HF.out.q).mono ?_); rintro e w1 ⟨he, hb⟩; rw [HA.out] at he; subst he; have HF1 := hide (HF.out.below hb); obtain ⟨e0, e1, ez, s0, s1, sf⟩ := HF1.out.ca; clear hb)
              | (go_at_call 81; (with_reducible refine (lpow128 _ a.A a.n a.c (rn r) m HF1.out.q.u hqn HM.out).mono ?_); rintro e w2 ⟨A1, m1, c1, ok, rfl, hmc, hok, hu1, hb⟩; obtain rfl : ok = true := (by rw [hok.out]; exact decide_eq_true hu); have HF2 := hide (HF1.out.below hb); obtain ⟨g0, g1, gz, -⟩ := HF2.out.ca; clear hb hok hu1)
              | (go_at_call 81; (with_reducible refine (lpow128 _ a.B a.m a.d r.den m HF2.out.q.v hqm HM.out).mono ?_); rintro e w3 ⟨A2, m2, c2, ok, rfl, hmc2, hok, hu1, hb⟩; obtain rfl : ok = false := (by rw [hok.out]; exact decide_eq_false hv); have HF3 := hide (HF2.out.below hb); obtain ⟨i0, i1, iz, t0, t1, tf⟩ := HF3.out.ca; clear hb hok hu1))
            refine bodyPost_ret (v := .tuple #[.agg #[.slice none 0 0, .slice none 0 0], .int .i64 2]) (by simp [results, Try.results59, go_sem, *]) rfl (HF3.out.err (by rw [HX.out, limR_no HY.out]))
        · have HY := hide (show fitsR (r ^ m) = false by unfold fitsR; rw [rn_pow hr0, rn_den_pow]; simp; omega)
          go_enter Try.func59, Try.ntmps59
          go_upto_region 1 with (fail)
          generalize hW : World.alloc (World.alloc w _) _ = v
          have HF := hide (show F1 w v a (lm (rn r)) (lm r.den) by rw [← hW]; exact F1.mk0 hq _ _)
          obtain ⟨a0, a1, az, r0, r1, rf⟩ := HF.out.ca
          clear hW hq
          go_wp2_with (first
            | (go_at_call 41; (with_reducible refine (fcheck_any _ a (lm (rn r)) (lm r.den) HF.out.q).mono ?_); rintro e w1 ⟨he, hb⟩; rw [HA.out] at he; subst he; have HF1 := hide (HF.out.below hb); obtain ⟨e0, e1, ez, s0, s1, sf⟩ := HF1.out.ca; clear hb)
            | (go_at_call 81; (with_reducible refine (lpow128 _ a.A a.n a.c (rn r) m HF1.out.q.u hqn HM.out).mono ?_); rintro e w2 ⟨A1, m1, c1, ok, rfl, hmc, hok, hu1, hb⟩; obtain rfl : ok = false := (by rw [hok.out]; exact decide_eq_false hu); have HF2 := hide (HF1.out.below hb); obtain ⟨g0, g1, gz, -⟩ := HF2.out.ca; clear hb hok hu1)
            | (go_at_call 81; (with_reducible refine (lpow128 _ a.B a.m a.d r.den m HF2.out.q.v hqm HM.out).mono ?_); rintro e w3 ⟨A2, m2, c2, ok, rfl, hmc2, hok, hu1, hb⟩; have HF3 := hide (HF2.out.below hb); obtain ⟨i0, i1, iz, t0, t1, tf⟩ := HF3.out.ca; clear hb hok hu1))
          refine bodyPost_ret (v := .tuple #[.agg #[.slice none 0 0, .slice none 0 0], .int .i64 2]) (by simp [results, Try.results59, go_sem, *]) rfl (HF3.out.err (by rw [HX.out, limR_no HY.out]))
theorem fpow_o (w : World) (a : Fa) (o : Option Rat) (n : Int) (ha : Fo w a o) (hn : -9223372036854775808 ≤ n) (hn2 : n < 9223372036854775808) : Calls Try.prog 59 #[.agg #[.slice a.A a.n a.c, .slice a.B a.m a.d], .int .i64 n] w fun e w' => Ret w (powR o n) e w' := by
  have := fpow_any w a _ _ n ha.1 hn hn2
  rwa [fracOf_self ha.2] at this
end Go.Proofs.Ytnofljgmkdommaa
