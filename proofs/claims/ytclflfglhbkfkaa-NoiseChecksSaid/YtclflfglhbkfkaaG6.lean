/- Contracts of the functions that these laws reach: part 6: Contracts: limbs.Gcd, Pow; Plain laws of fractions in lowest terms; Contracts: natural.Of, Check, all, Compare; Contracts: fraction.exact, Make, Of. -/
import Derived.Test.YtclflfglhbkfkaaG5
import Derived.Deep.LoopGhost
import Derived.Test.YtclflfglhbkfkaaG2
set_option linter.unusedVariables false
set_option linter.unusedSimpArgs false

/- Contracts: limbs.Gcd, Pow. -/
namespace Go.Proofs.Ytclflfglhbkfkaa
open Go.RowKit

set_option maxRecDepth 100000 in
set_option maxHeartbeats 4000000 in
theorem lgcd_any (w : World) (av av' : Option Nat) (A : Option Addr) (n c : Nat) (B : Option Addr) (m d : Nat) (x y : Nat) (hU : Ul w av A n (lm x)) (hV : Ul w av' B m (lm y)) (hn : n ≤ 1000000) (hm : m ≤ 1000000) :
    Calls Try.prog 76 #[.slice A n c, .slice B m d] w fun e w' => ∃ A' m' c', e = .returned (.slice A' m' c') ∧ m' ≤ c' ∧ Ul w' none A' m' (lm (Nat.gcd x y)) ∧ Below w.heap.size w w' := by
  have HU := hide hU.weak
  have HV := hide hV.weak
  clear hU hV
  go_enter Try.func76, Try.ntmps76
  go_wp2
  go_loopg [0, 1] y (fun g s0 s1 wr => ∃ (A : Option Addr) (n c : Nat) (B : Option Addr) (m d : Nat) (a b : Nat), n ≤ 1000000 ∧ m ≤ 1000000 ∧ s0 = .slice A n c ∧ s1 = .slice B m d ∧ Hid (g = b) ∧ Hid (Ul wr none A n (lm a)) ∧ Hid (Ul wr none B m (lm b)) ∧ Hid (Nat.gcd a b = Nat.gcd x y) ∧ Hid (Below w.heap.size w wr))
  case atStart => exact ⟨A, n, c, B, m, d, x, y, hn, hm, rfl, rfl, hide rfl, HU, HV, hide rfl, hide (Below.refl _ _)⟩
  case round =>
    obtain ⟨A, n, c, B, m, d, a, b, hn, hm, rfl, rfl, HG, HU, HV, HI, HB⟩ := hrel
    by_cases hm0 : m = 0
    · subst hm0
      have hb0 : b = 0 := lm_eq_nil.1 (List.eq_nil_of_length_eq_zero HV.out.len)
      have HI2 := hide (show a = Nat.gcd x y by rw [← HI.out, hb0, Nat.gcd_zero_right])
      clear hb0
      go_wp2_with (go_at_call 97; refine (lclone_any _ none A n c (lm a) HU.out (by omega)).mono ?_; rintro e w2 ⟨A2, c2, rfl, ho2⟩; have HO2 := hide ho2; clear ho2)
      go_ret
      exact ⟨A2, n, c2, rfl, HO2.out.cap, by rw [← HI2.out]; exact HO2.out.ul, HB.out.trans ((fr_below HO2.out.fr).mono HB.out.size)⟩
    · have hb0 : 0 < b := by
        rcases Nat.eq_zero_or_pos b with h | h
        · exfalso
          have := HV.out.len
          rw [h, lm_zero] at this
          exact hm0 this.symm
        · exact h
      have d1 : decide ((0 : Int) < (m : Int)) = true := decide_eq_true (by omega)
      have HGS := hide (show Nat.gcd b (a % b) = Nat.gcd x y by rw [gcd_step, HI.out])
      have HLT := hide (Nat.mod_lt a hb0)
      go_wp2_with (go_at_call 86; refine (ldiv_any _ none none A n c B m d a b HU.out HV.out (by omega) (by omega) hb0).mono ?_; rintro e w2 ⟨A1, m1, c1, A2, m2, c2, rfl, -, hc2, -, hu2, hb2⟩; have HU2 := hide hu2; have HV2 := hide (HV.out.below hb2); have HB2 := hide (HB.out.trans (hb2.mono HB.out.size)); clear hu2 hb2)
      go_roundg (a % b)
      case rel =>
        have hl : m2 ≤ m := by
          have h1 := lm_length_mono (Nat.le_of_lt HLT.out)
          rwa [HU2.out.len, HV2.out.len] at h1
        exact ⟨B, m, d, A2, m2, c2, b, a % b, hm, by omega, rfl, rfl, hide rfl, HV2, HU2, HGS, HB2⟩
      case measure => rw [HG.out]; exact HLT.out

theorem ofInt_i64' (a : Nat) (ha : a < 9223372036854775808) : (BitVec.ofInt 64 (a : Int)).toNat = a := by
  rw [BitVec.ofInt_natCast, BitVec.toNat_ofNat]; exact Nat.mod_eq_of_lt (by omega)
theorem i64_and_one (a : Nat) (ha : a < 9223372036854775808) : bits .and .i64 (a : Int) 1 = ((a % 2 : Nat) : Int) := by
  show IntKind.i64.wrap ((BitVec.ofInt 64 (a : Int) &&& BitVec.ofInt 64 1).toNat : Int) = _
  rw [BitVec.toNat_and, ofInt_i64' a ha, show (BitVec.ofInt 64 1).toNat = 1 from rfl, Nat.and_one_is_mod, IntKind.wrap_i64]
  omega
theorem pow_bits (a n j : Nat) : a ^ (n / 2 ^ j) = a ^ (n / 2 ^ (j + 1)) * a ^ (n / 2 ^ (j + 1)) * (if n / 2 ^ j % 2 = 1 then a else 1) := by
  have e : n / 2 ^ (j + 1) = n / 2 ^ j / 2 := by rw [Nat.pow_succ, Nat.div_div_eq_div_mul]
  rw [e]
  generalize n / 2 ^ j = k
  by_cases h : k % 2 = 1
  · rw [if_pos h]
    conv => lhs; rw [show k = k / 2 + k / 2 + 1 by omega]
    rw [Nat.pow_succ, Nat.pow_add]
  · rw [if_neg h, Nat.mul_one, ← Nat.pow_add]
    congr 1; omega
theorem lm_pow_mono {a k n : Nat} (h : k ≤ n) (hl : 0 < (lm (a ^ k)).length) : (lm (a ^ k)).length ≤ (lm (a ^ n)).length ∨ a = 0 := by
  rcases Nat.eq_zero_or_pos a with h0 | h0
  · exact .inr h0
  · exact .inl (lm_length_mono (Nat.pow_le_pow_right h0 h))
theorem len_zero_pow (k : Nat) : (lm (0 ^ k)).length ≤ 1 := by
  rcases Nat.eq_zero_or_pos k with h | h
  · subst h; rw [Nat.pow_zero, lm_one]; simp
  · rw [Nat.zero_pow h, lm_zero]; simp
/-- Too long on the way is too long at the end. -/
theorem pow_over {a n j most : Nat} (hm : 1 ≤ most) (h : most < (lm (a ^ (n / 2 ^ j))).length) : most < (lm (a ^ n)).length := by
  rcases lm_pow_mono (a := a) (k := n / 2 ^ j) (n := n) (Nat.div_le_self _ _) (by omega) with h1 | h1
  · omega
  · subst h1
    have := len_zero_pow (n / 2 ^ j)
    omega
set_option maxRecDepth 100000 in
set_option maxHeartbeats 8000000 in
theorem lpow_any (w : World) (av : Option Nat) (A : Option Addr) (n c : Nat) (a k most : Nat) (hU : Ul w av A n (lm a)) (hn : n ≤ 1000) (hk : k ≤ 65536) (hm : 1 ≤ most) (hm2 : most ≤ 1000) :
    Calls Try.prog 96 #[.slice A n c, .int .i64 (k : Int), .int .i64 (most : Int)] w fun e w' => ∃ A' m' c' ok, e = .returned (.tuple #[.slice A' m' c', .bool ok]) ∧ m' ≤ c' ∧ Hid (ok = decide ((lm (a ^ k)).length ≤ most)) ∧ Ul w' none A' m' (if ok then lm (a ^ k) else []) ∧ Below w.heap.size w w' := by
  have HU := hide hU
  clear hU
  go_enter Try.func96, Try.ntmps96
  go_wp2_with (first
    | (go_at_call 89; refine (lof_any _ 1 (by omega)).mono ?_; rintro e w1 ⟨A1, m1, c1, rfl, hc1, hm1, hu1, hb1⟩; have HU1 := hide hu1; have HB1 := hide hb1; clear hu1 hb1)
    | (go_at_call 113; refine (blen_any _ k (by omega)).mono ?_; rintro e w2 ⟨L, rfl, hL, rfl⟩; have hL32 : L ≤ 32 := hL.2.1; have HL := hide hL; clear hL))
  have HU0 := hide (HU.out.below HB1.out)
  go_loopg [8, 9] L (fun g s8 s9 wr => ∃ (j : Nat) (A1 : Option Addr) (m1 c1 : Nat), s8 = .slice A1 m1 c1 ∧ s9 = .int .i64 ((j : Int) - 1) ∧ j ≤ 32 ∧ m1 ≤ most ∧ m1 ≤ c1 ∧ Hid (g = j) ∧ Hid (Ul wr none A1 m1 (lm (a ^ (k / 2 ^ j)))) ∧ Hid (Below w.heap.size w wr))
  case atStart =>
    refine ⟨L, A1, m1, c1, rfl, rfl, hL32, ?_, hc1, hide rfl, hide ?_, HB1⟩
    · have := HU1.out.len
      rw [lm_one] at this
      simp at this
      omega
    · rw [Nat.div_eq_of_lt HL.out.1, Nat.pow_zero]
      exact HU1.out
  case round =>
    obtain ⟨j, A1, m1, c1, rfl, rfl, hj, hm1, hc1, HG, HU1, HB1⟩ := hrel
    clear HU0
    have HU0 := hide (HU.out.below HB1.out)
    by_cases hj0 : j = 0
    · subst hj0
      have HE := hide (show a ^ (k / 2 ^ 0) = a ^ k by simp)
      rw [HE.out] at HU1
      go_wp2
      go_ret2
      have hle : (lm (a ^ k)).length ≤ most := by rw [HU1.out.len]; exact hm1
      exact ⟨A1, m1, c1, true, rfl, hc1, hide (by simp [hle]), by simpa using HU1.out, HB1.out⟩
    · obtain ⟨i, rfl⟩ : ∃ i, j = i + 1 := ⟨j - 1, by omega⟩
      have gi0 : (0 : Int) ≤ (i : Int) := by omega
      have hand : bits BinOp.and IntKind.i64 ((k : Int) / 2 ^ i) 1 = ((k / 2 ^ i % 2 : Nat) : Int) := by
        rw [← natCast_div2]; exact i64_and_one _ (by have := Nat.div_le_self k (2 ^ i); omega)
      have HPB := hide (pow_bits a k i)
      obtain ⟨r, hr⟩ : ∃ r, r = a ^ (k / 2 ^ (i + 1)) := ⟨_, rfl⟩
      rw [← hr] at HU1 HPB
      have hmo : m1 ≤ 1000000 := by omega
      by_cases hb : k / 2 ^ i % 2 = 1
      · rw [hb] at hand
        have HPB2 := hide (show a ^ (k / 2 ^ i) = r * r * a by have := HPB.out; rwa [if_pos hb] at this)
        clear hr hb HPB
        go_wp2_with (first
          | (go_at_call 60; (with_reducible refine (lmul_any _ none none A1 m1 c1 A1 m1 c1 r r HU1.out HU1.out hmo hmo).mono ?_); rintro e w3 ⟨A3, m3, c3, rfl, hc3, hu3, hb3⟩; have hl3 := lm_length_mul r r; rw [hu3.len, HU1.out.len] at hl3; have HU3 := hide hu3; have HB3 := hide (HB1.out.trans (hb3.mono HB1.out.size)); have HU03 := hide (HU0.out.below hb3); clear hu3 hb3)
          | (go_at_call 60; refine (lmul_any _ none av A3 m3 c3 A n c (r * r) a HU3.out HU03.out (by omega) (by omega)).mono ?_; rintro e w4 ⟨A4, m4, c4, rfl, hc4, hu4, hb4⟩; rw [← HPB2.out] at hu4; have HU4 := hide hu4; have HB4 := hide (HB3.out.trans (hb4.mono HB3.out.size)); clear hu4 hb4))
        · go_ret2
          have hgt : most < m4 := by omega
          have ho := pow_over (a := a) (n := k) (j := i) hm (by rw [HU4.out.len]; exact hgt)
          exact ⟨none, 0, 0, false, rfl, by omega, hide (by simp; omega), Ul.nil, HB4.out⟩
        · have hle : m4 ≤ most := by omega
          go_roundg i
          case rel => exact ⟨i, A4, m4, c4, rfl, rfl, by omega, hle, hc4, hide rfl, HU4, HB4⟩
          case measure => rw [HG.out]; omega
      · have hb' : k / 2 ^ i % 2 = 0 := by omega
        rw [hb'] at hand
        have HPB2 := hide (show a ^ (k / 2 ^ i) = r * r by have := HPB.out; rwa [if_neg hb, Nat.mul_one] at this)
        clear hr hb HPB hb'
        go_wp2_with (first
          | (go_at_call 60; (with_reducible refine (lmul_any _ none none A1 m1 c1 A1 m1 c1 r r HU1.out HU1.out hmo hmo).mono ?_); rintro e w4 ⟨A4, m4, c4, rfl, hc4, hu4, hb4⟩; rw [← HPB2.out] at hu4; have HU4 := hide hu4; have HB4 := hide (HB1.out.trans (hb4.mono HB1.out.size)); clear hu4 hb4))
        · go_ret2
          have hgt : most < m4 := by omega
          have ho := pow_over (a := a) (n := k) (j := i) hm (by rw [HU4.out.len]; exact hgt)
          exact ⟨none, 0, 0, false, rfl, by omega, hide (by simp; omega), Ul.nil, HB4.out⟩
        · have hle : m4 ≤ most := by omega
          go_roundg i
          case rel => exact ⟨i, A4, m4, c4, rfl, rfl, by omega, hle, hc4, hide rfl, HU4, HB4⟩
          case measure => rw [HG.out]; omega
end Go.Proofs.Ytclflfglhbkfkaa

/- Plain laws of fractions in lowest terms. -/
namespace Go.Proofs.Ytclflfglhbkfkaa

def rn (r : Rat) : Nat := r.num.toNat
/-- What a fraction's limbs may be. -/
def fitsR (r : Rat) : Bool := decide ((lm (rn r)).length ≤ 128) && decide ((lm r.den).length ≤ 128)
def numL : Option Rat → List Nat
  | some r => lm (rn r)
  | none => []
def denL : Option Rat → List Nat
  | some r => lm r.den
  | none => []
/-- Not negative, and not too long. -/
def okR : Option Rat → Prop
  | some r => 0 ≤ r ∧ fitsR r = true
  | none => True
def natB (l : List Nat) : Bool := decide (l.length ≤ 128) && decide (l = lm (lv l))
/-- The fraction that two lists of limbs are, if they are well-formed. -/
def fracOf (l k : List Nat) : Option Rat := if natB l = true ∧ natB k = true ∧ lv k ≠ 0 ∧ Nat.gcd (lv l) (lv k) = 1 then some (mkRat (lv l) (lv k)) else none

theorem mk_num (x y : Nat) (hy : 0 < y) : rn (mkRat x y) = x / Nat.gcd x y := by
  unfold rn
  rw [Rat.num_mkRat, if_neg (by omega), Nat.gcd_comm]
  show ((x : Int) / ((Nat.gcd x y : Nat) : Int)).toNat = _
  rw [← Int.natCast_ediv]
  exact Int.toNat_natCast _
theorem mk_den (x y : Nat) (hy : 0 < y) : (mkRat x y).den = y / Nat.gcd x y := by
  rw [Rat.den_mkRat, if_neg (by omega), Nat.gcd_comm]
  rfl
theorem mk_nonneg (x y : Nat) : (0 : Rat) ≤ mkRat x y := by
  rw [← Rat.divInt_ofNat]
  exact Rat.divInt_nonneg (by omega) (by omega)
theorem rn_cast {r : Rat} (h : 0 ≤ r) : ((rn r : Nat) : Int) = r.num := by
  unfold rn
  exact Int.toNat_of_nonneg (Rat.num_nonneg.2 h)
theorem mk_self {r : Rat} (h : 0 ≤ r) : mkRat (rn r) r.den = r := by
  rw [rn_cast h]; exact Rat.mkRat_self r
theorem gcd_self {r : Rat} (h : 0 ≤ r) : Nat.gcd (rn r) r.den = 1 := by
  have := r.reduced
  have e : r.num.natAbs = rn r := by have := rn_cast h; omega
  rw [e] at this
  exact this
theorem mk_add {r s : Rat} (hr : 0 ≤ r) (hs : 0 ≤ s) : mkRat ((rn r * s.den + rn s * r.den : Nat) : Int) (r.den * s.den) = r + s := by
  rw [Rat.add_def', Int.natCast_add, Int.natCast_mul, Int.natCast_mul, rn_cast hr, rn_cast hs]
theorem mk_sub {r s : Rat} (hr : 0 ≤ r) (hs : 0 ≤ s) (h : s ≤ r) : mkRat ((rn r * s.den - rn s * r.den : Nat) : Int) (r.den * s.den) = r - s := by
  have h1 := (Rat.le_iff s r).1 h
  rw [← rn_cast hr, ← rn_cast hs, ← Int.natCast_mul, ← Int.natCast_mul] at h1
  rw [Rat.sub_def', Int.natCast_sub (by omega), Int.natCast_mul, Int.natCast_mul, rn_cast hr, rn_cast hs]
theorem mk_mul {r s : Rat} (hr : 0 ≤ r) (hs : 0 ≤ s) : mkRat ((rn r * rn s : Nat) : Int) (r.den * s.den) = r * s := by
  rw [Rat.mul_def', Int.natCast_mul, rn_cast hr, rn_cast hs]
theorem rn_pow {r : Rat} (hr : 0 ≤ r) (n : Nat) : rn (r ^ n) = rn r ^ n := by
  have : ((rn (r ^ n) : Nat) : Int) = ((rn r ^ n : Nat) : Int) := by
    rw [rn_cast (Rat.pow_nonneg hr), Rat.num_pow, Int.natCast_pow, rn_cast hr]
  exact Int.ofNat.inj this
theorem le_iff_n {r s : Rat} (hr : 0 ≤ r) (hs : 0 ≤ s) : r ≤ s ↔ rn r * s.den ≤ rn s * r.den := by
  rw [Rat.le_iff, ← rn_cast hr, ← rn_cast hs, ← Int.natCast_mul, ← Int.natCast_mul]
  omega
theorem lt_iff_n {r s : Rat} (hr : 0 ≤ r) (hs : 0 ≤ s) : r < s ↔ rn r * s.den < rn s * r.den := by
  rw [Rat.lt_iff, ← rn_cast hr, ← rn_cast hs, ← Int.natCast_mul, ← Int.natCast_mul]
  omega
/-- -1, 0 or 1. -/
def cmpQ (r s : Rat) : Int := if r < s then -1 else if r = s then 0 else 1
theorem cmp_eq {r s : Rat} (hr : 0 ≤ r) (hs : 0 ≤ s) : cmpN (rn r * s.den) (rn s * r.den) = cmpQ r s := by
  unfold cmpN cmpQ
  have h1 := lt_iff_n hr hs
  have h2 := le_iff_n hr hs
  by_cases h3 : r < s
  · rw [if_pos h3, if_pos (h1.1 h3)]
  · rw [if_neg h3, if_neg (fun h => h3 (h1.2 h))]
    by_cases h4 : r = s
    · rw [if_pos h4, if_pos (by rw [h4])]
    · rw [if_neg h4, if_neg]
      intro h
      have h5 : r ≤ s := h2.2 (by omega)
      exact h3 (Rat.lt_of_le_of_ne h5 h4)
theorem cmpQ_neg {r s : Rat} : cmpQ r s < 0 ↔ r < s := by
  unfold cmpQ; split
  · simp [*]
  · split <;> simp [*]
theorem cmpQ_le {r s : Rat} : cmpQ r s ≤ 0 ↔ r ≤ s := by
  unfold cmpQ; split
  · rename_i h; simp [Rat.le_of_lt h]
  · rename_i h
    split
    · rename_i h2; subst h2; simp [Rat.le_refl]
    · rename_i h2
      constructor
      · intro h3; omega
      · intro h3; exact absurd (Rat.lt_of_le_of_ne h3 h2) h
theorem rn_zero : rn 0 = 0 := rfl
theorem rn_one : rn 1 = 1 := rfl
theorem rn_eq_zero {r : Rat} (h : 0 ≤ r) : rn r = 0 ↔ r = 0 := by
  rw [← Rat.num_eq_zero]
  have := rn_cast h
  omega
theorem natB_lm (x : Nat) : natB (lm x) = decide ((lm x).length ≤ 128) := by simp [natB, lv_lm]
/-- What is well-formed reads as itself. -/
theorem fracOf_self {o : Option Rat} (h : okR o) : fracOf (numL o) (denL o) = o := by
  cases o with
  | none => simp [fracOf, numL, denL, lv]
  | some r =>
    obtain ⟨h0, hf⟩ := h
    simp only [fitsR, Bool.and_eq_true, decide_eq_true_eq] at hf
    unfold fracOf numL denL
    rw [natB_lm, natB_lm, lv_lm, lv_lm, if_pos ⟨by simp [hf.1], by simp [hf.2], r.den_nz, gcd_self h0⟩, mk_self h0]
theorem fracOf_ok (l k : List Nat) : okR (fracOf l k) ∧ ((fracOf l k).isSome → numL (fracOf l k) = l ∧ denL (fracOf l k) = k) := by
  unfold fracOf
  by_cases h : natB l = true ∧ natB k = true ∧ lv k ≠ 0 ∧ Nat.gcd (lv l) (lv k) = 1
  · rw [if_pos h]
    obtain ⟨h1, h2, h3, h4⟩ := h
    simp only [natB, Bool.and_eq_true, decide_eq_true_eq] at h1 h2
    have e1 : rn (mkRat (lv l) (lv k)) = lv l := by rw [mk_num _ _ (by omega), h4, Nat.div_one]
    have e2 : (mkRat (lv l) (lv k)).den = lv k := by rw [mk_den _ _ (by omega), h4, Nat.div_one]
    refine ⟨⟨mk_nonneg _ _, ?_⟩, fun _ => ⟨?_, ?_⟩⟩
    · unfold fitsR
      rw [e1, e2, ← h1.2, ← h2.2]
      simp [h1.1, h2.1]
    · show lm (rn _) = l
      rw [e1, ← h1.2]
    · show lm (Rat.den _) = k
      rw [e2, ← h2.2]
  · rw [if_neg h]
    exact ⟨trivial, fun h => by simp at h⟩
/-- The results of the operations, with their errors. -/
def limR (r : Rat) : Option Rat × Int := if fitsR r then (some r, 0) else (none, 2)
def opR (f : Rat → Rat → Option Rat × Int) : Option Rat → Option Rat → Option Rat × Int
  | some r, some s => f r s
  | _, _ => (none, 1)
def addR := opR fun r s => limR (r + s)
def subR := opR fun r s => if r < s then (none, 5) else limR (r - s)
def mulR := opR fun r s => limR (r * s)
def powR (o : Option Rat) (n : Int) : Option Rat × Int := match o with
  | none => (none, 1)
  | some r => if n < 0 ∨ 65536 < n then (none, 3) else limR (r ^ n.toNat)
def cmpO : Option Rat → Option Rat → Int
  | some r, some s => cmpQ r s
  | _, _ => 0
theorem limR_ok {r : Rat} (h : 0 ≤ r) : okR (limR r).1 := by
  unfold limR
  by_cases hf : fitsR r = true
  · rw [if_pos hf]; exact ⟨h, hf⟩
  · rw [if_neg hf]; exact trivial
theorem limR_fit {r : Rat} (h : fitsR r = true) : limR r = (some r, 0) := by simp [limR, h]
theorem limR_no {r : Rat} (h : fitsR r = false) : limR r = (none, 2) := by simp [limR, h]
theorem sub_nonneg' {r s : Rat} (h : ¬ r < s) : 0 ≤ r - s := by
  rw [← Rat.le_iff_sub_nonneg]
  exact Rat.not_lt.1 h
theorem addR_ok {x y : Option Rat} (hx : okR x) (hy : okR y) : okR (addR x y).1 := by
  cases x <;> cases y <;> simp only [addR, opR] <;> first | exact trivial | exact limR_ok (Rat.add_nonneg hx.1 hy.1)
theorem subR_ok {x y : Option Rat} : okR (subR x y).1 := by
  cases x with
  | none => cases y <;> exact trivial
  | some r =>
    cases y with
    | none => exact trivial
    | some s =>
      simp only [subR, opR]
      split
      · exact trivial
      · rename_i h; exact limR_ok (sub_nonneg' h)
theorem mulR_ok {x y : Option Rat} (hx : okR x) (hy : okR y) : okR (mulR x y).1 := by
  cases x <;> cases y <;> simp only [mulR, opR] <;> first | exact trivial | exact limR_ok (Rat.mul_nonneg hx.1 hy.1)
theorem powR_ok {x : Option Rat} {n : Int} (hx : okR x) : okR (powR x n).1 := by
  cases x with
  | none => exact trivial
  | some r =>
    simp only [powR]
    split
    · exact trivial
    · exact limR_ok (Rat.pow_nonneg hx.1)
end Go.Proofs.Ytclflfglhbkfkaa

/- Contracts: natural.Of, Check, all, Compare. -/
namespace Go.Proofs.Ytclflfglhbkfkaa
open Go.RowKit

theorem natB_iff {l : List Nat} : natB l = true ↔ l.length ≤ 128 ∧ l = lm (lv l) := by simp [natB]
theorem natB_big {l : List Nat} (h : 128 < l.length) : natB l = false := by simp [natB]; omega
theorem natB_nil : natB [] = true := by simp [natB, lv, lm_zero]
theorem natB_last {l : List Nat} {k x : Nat} (ho : okL l) (hl : l.length = k + 1) (hk : k < 128) (hx : l[k]? = some x) : natB l = decide (x ≠ 0) := by
  have hne : l ≠ [] := by rintro rfl; simp at hl
  have hlast : l.getLast hne = x := by
    rw [List.getLast_eq_getElem]
    have := (List.getElem?_eq_some_iff.1 hx).2
    simpa [hl] using this
  by_cases h0 : x = 0
  · have h : ¬ l = lm (lv l) := by
      intro e
      have h1 := lm_getLast (n := lv l) (by rw [← e]; exact hne)
      apply h1
      have : (lm (lv l)).getLast (by rw [← e]; exact hne) = l.getLast hne := by congr 1; exact e.symm
      rw [this, hlast, h0]
    simp [natB, h, h0]
  · have h : l = lm (lv l) := (lm_lv ho (fun _ => by rw [hlast]; exact h0)).symm
    have hl2 : l.length ≤ 128 := by omega
    simp [natB, ← h, h0, hl2]
set_option maxRecDepth 100000 in
set_option maxRecDepth 100000 in
set_option maxHeartbeats 4000000 in
theorem ncheck_any (w : World) (av : Option Nat) (A : Option Addr) (n c : Nat) (l : List Nat) (hU : Ul w av A n l) (hn : n ≤ 9223372036854775807) :
    Calls Try.prog 73 #[.slice A n c] w fun e w' => e = .returned (.bool (natB l)) ∧ w' = w := by
  by_cases h1 : 128 < n
  · have hb := hide (natB_big (l := l) (by rw [hU.len]; exact h1))
    have d1 : decide ((n : Int) ≤ 128) = false := decide_eq_false (by omega)
    clear hU
    go_enter Try.func73, Try.ntmps73
    go_wp2
    go_ret
    exact ⟨by rw [hb.out]; rfl, rfl⟩
  · have d1 : decide ((n : Int) ≤ 128) = true := decide_eq_true (by omega)
    by_cases h0 : n = 0
    · subst h0
      have hl : l = [] := List.eq_nil_of_length_eq_zero hU.len
      subst hl
      go_enter Try.func73, Try.ntmps73
      go_wp2
      go_ret
      exact ⟨by rw [natB_nil]; rfl, rfl⟩
    · obtain ⟨k, rfl⟩ : ∃ k, n = k + 1 := ⟨n - 1, by omega⟩
      obtain ⟨b, o, x, rfl, -, -, hx, hxl, hcell⟩ := hU.at (k := k) (by omega)
      have hb := natB_last hU.ok hU.len (by omega) hx
      have g1 : (0 : Int) ≤ (k : Int) := by omega
      have d2 : ((k : Int) + 1 == 0) = false := by simp; omega
      by_cases hx0 : x = 0
      · subst hx0
        have HB := hide (show natB l = false by rw [hb]; rfl)
        clear hU hx hb
        go_enter Try.func73, Try.ntmps73
        go_wp2
        go_ret
        exact ⟨by rw [HB.out]; rfl, rfl⟩
      · have HB := hide (show natB l = true by rw [hb]; simp [hx0])
        have d3 : ((x : Int) != 0) = true := by simp; omega
        clear hU hx hb
        go_enter Try.func73, Try.ntmps73
        go_wp2
        go_ret
        exact ⟨by rw [HB.out]; rfl, rfl⟩
set_option maxRecDepth 100000 in
set_option maxHeartbeats 4000000 in
theorem nof_any (w : World) (n : Nat) (hn : n < 18446744073709551616) :
    Calls Try.prog 61 #[.int .u64 (n : Int)] w fun e w' => ∃ A m c, e = .returned (.slice A m c) ∧ m ≤ c ∧ m ≤ 2 ∧ Ul w' none A m (lm n) ∧ Below w.heap.size w w' := by
  go_enter Try.func61, Try.ntmps61
  go_wp2_with (go_at_call 89; refine (lof_any _ n hn).mono ?_; rintro e w' ⟨A, m, c, rfl, h1, h2, hu, hb⟩)
  go_ret
  exact ⟨A, m, c, rfl, h1, h2, hu, hb⟩
set_option maxRecDepth 100000 in
set_option maxHeartbeats 4000000 in
theorem nall1_any (w : World) (av : Option Nat) (A : Option Addr) (n c : Nat) (l : List Nat) (hU : Ul w av A n l) (hn : n ≤ 4294967296) :
    Calls Try.prog 108 #[.slice A n c] w fun e w' => e = .returned (.bool (!natB l)) ∧ w' = w := by
  have HU := hide hU
  clear hU
  go_enter Try.func108, Try.ntmps108
  go_wp2_with (go_at_call 73; refine (ncheck_any _ av A n c l HU.out (by omega)).mono ?_; rintro e w' ⟨rfl, rfl⟩)
  go_ret
  exact ⟨rfl, rfl⟩
set_option maxRecDepth 100000 in
set_option maxHeartbeats 8000000 in
theorem nindexf_any (w : World) (av av' : Option Nat) (A : Option Addr) (n c : Nat) (B : Option Addr) (m d : Nat) (l k : List Nat) (H : Nat) (hU : Ul w av A n l) (hV : Ul w av' B m k) (hn : n ≤ 4294967296) (hm : m ≤ 4294967296)
    (h0 : w.cell? ⟨H, 0, none⟩ = some (.slice A n c)) (h1 : w.cell? ⟨H, 1, none⟩ = some (.slice B m d)) :
    Calls Try.prog 119 #[.slice (some ⟨H, 0, none⟩) 2 2, .func (Fn.func 108) #[] #[]] w fun e w' => e = .returned (.int .i64 (if natB l = false then 0 else if natB k = false then 1 else -1)) ∧ w' = w := by
  have HU := hide hU
  have HV := hide hV
  clear hU hV
  cases hb : natB l
  · have HB := hide hb
    clear hb
    go_enter Try.func119, Try.ntmps119
    go_wp2_with fail
    refine wp_loop_rounds 1 ?_
    rw [rounds_succ]
    go_wp2_with (go_at_call 108; refine (nall1_any _ av A n c l HU.out hn).mono ?_; rintro e w' ⟨rfl, rfl⟩; rw [HB.out])
    go_ret
    exact ⟨rfl, rfl⟩
  · have HB := hide hb
    clear hb
    cases hc : natB k
    · have HC := hide hc
      clear hc
      go_enter Try.func119, Try.ntmps119
      go_wp2_with fail
      refine wp_loop_rounds 2 ?_
      rw [rounds_succ]
      go_wp2_with (go_at_call 108; (with_reducible refine (nall1_any _ av A n c l HU.out hn).mono ?_); rintro e w' ⟨rfl, rfl⟩; rw [HB.out])
      rw [rounds_succ]
      go_wp2_with (go_at_call 108; (with_reducible refine (nall1_any _ av' B m d k HV.out hm).mono ?_); rintro e w' ⟨rfl, rfl⟩; rw [HC.out])
      go_ret
      exact ⟨rfl, rfl⟩
    · have HC := hide hc
      clear hc
      go_enter Try.func119, Try.ntmps119
      go_wp2_with fail
      refine wp_loop_rounds 3 ?_
      rw [rounds_succ]
      go_wp2_with (go_at_call 108; (with_reducible refine (nall1_any _ av A n c l HU.out hn).mono ?_); rintro e w' ⟨rfl, rfl⟩; rw [HB.out])
      rw [rounds_succ]
      go_wp2_with (go_at_call 108; (with_reducible refine (nall1_any _ av' B m d k HV.out hm).mono ?_); rintro e w' ⟨rfl, rfl⟩; rw [HC.out])
      rw [rounds_succ]
      go_wp2
      go_ret
      exact ⟨rfl, rfl⟩
set_option maxRecDepth 100000 in
set_option maxHeartbeats 4000000 in
theorem ncontf_any (w : World) (av av' : Option Nat) (A : Option Addr) (n c : Nat) (B : Option Addr) (m d : Nat) (l k : List Nat) (H : Nat) (hU : Ul w av A n l) (hV : Ul w av' B m k) (hn : n ≤ 4294967296) (hm : m ≤ 4294967296)
    (h0 : w.cell? ⟨H, 0, none⟩ = some (.slice A n c)) (h1 : w.cell? ⟨H, 1, none⟩ = some (.slice B m d)) :
    Calls Try.prog 107 #[.slice (some ⟨H, 0, none⟩) 2 2, .func (Fn.func 108) #[] #[]] w fun e w' => e = .returned (.bool (!(natB l && natB k))) ∧ w' = w := by
  have HU := hide hU
  have HV := hide hV
  clear hU hV
  obtain ⟨r, hr⟩ : ∃ r : Int, r = if natB l = false then 0 else if natB k = false then 1 else -1 := ⟨_, rfl⟩
  have HR := hide hr
  have HE := hide (show decide ((0 : Int) ≤ r) = !(natB l && natB k) by rw [hr]; cases natB l <;> cases natB k <;> rfl)
  clear hr
  go_enter Try.func107, Try.ntmps107
  go_wp2_with (go_at_call 119; refine (nindexf_any _ av av' A n c B m d l k H HU.out HV.out hn hm h0 h1).mono ?_; rintro e w' ⟨rfl, rfl⟩; rw [← HR.out])
  go_ret
  exact ⟨by rw [← HE.out]; rfl, rfl⟩
set_option maxRecDepth 100000 in
set_option maxHeartbeats 4000000 in
theorem nall_any (w : World) (av av' : Option Nat) (A : Option Addr) (n c : Nat) (B : Option Addr) (m d : Nat) (l k : List Nat) (H : Nat) (hU : Ul w av A n l) (hV : Ul w av' B m k) (hn : n ≤ 4294967296) (hm : m ≤ 4294967296)
    (h0 : w.cell? ⟨H, 0, none⟩ = some (.slice A n c)) (h1 : w.cell? ⟨H, 1, none⟩ = some (.slice B m d)) :
    Calls Try.prog 92 #[.slice (some ⟨H, 0, none⟩) 2 2] w fun e w' => e = .returned (.bool (natB l && natB k)) ∧ w' = w := by
  have HU := hide hU
  have HV := hide hV
  clear hU hV
  go_enter Try.func92, Try.ntmps92
  go_wp2_with (go_at_call 107; refine (ncontf_any _ av av' A n c B m d l k H HU.out HV.out hn hm h0 h1).mono ?_; rintro e w' ⟨rfl, rfl⟩)
  go_ret
  exact ⟨by simp, rfl⟩
set_option maxRecDepth 100000 in
set_option maxHeartbeats 4000000 in
theorem ncmp_any (w : World) (av av' : Option Nat) (A : Option Addr) (n c : Nat) (B : Option Addr) (m d : Nat) (l k : List Nat) (hU : Ul w av A n l) (hV : Ul w av' B m k) (hn : n ≤ 4294967296) (hm : m ≤ 4294967296) :
    Calls Try.prog 66 #[.slice A n c, .slice B m d] w fun e w' => e = .returned (.int .i64 (if natB l && natB k then cmpN (lv l) (lv k) else 0)) ∧ Below w.heap.size w w' := by
  have HU := hide hU
  have HV := hide hV
  clear hU hV
  cases hb : (natB l && natB k)
  · have HB := hide hb
    clear hb
    go_enter Try.func66, Try.ntmps66
    go_wp2_with (go_at_call 92; refine (nall_any _ av av' A n c B m d l k w.heap.size (HU.out.alloc _) (HV.out.alloc _) hn hm (by go_simp) (by go_simp)).mono ?_; rintro e w' ⟨rfl, rfl⟩; rw [HB.out])
    go_ret
    exact ⟨by simp, (Below.refl _ _).alloc (Nat.le_refl _) _⟩
  · have HB := hide hb
    have hl := (natB_iff.1 (Bool.and_eq_true_iff.1 hb).1).2
    have hk := (natB_iff.1 (Bool.and_eq_true_iff.1 hb).2).2
    have HL := hide hl
    have HK := hide hk
    clear hb hl hk
    go_enter Try.func66, Try.ntmps66
    go_wp2_with (first
      | (go_at_call 92; refine (nall_any _ av av' A n c B m d l k w.heap.size (HU.out.alloc _) (HV.out.alloc _) hn hm (by go_simp) (by go_simp)).mono ?_; rintro e w' ⟨rfl, rfl⟩; rw [HB.out])
      | (go_at_call 47; refine (lcmp_any _ av av' A n c B m d (lv l) (lv k) (by rw [← HL.out]; exact HU.out.alloc _) (by rw [← HK.out]; exact HV.out.alloc _) hn hm).mono ?_; rintro e w2 ⟨rfl, hd2⟩; have HD2 := hide hd2; clear hd2))
    go_ret
    exact ⟨by simp, ((Below.refl _ _).alloc (Nat.le_refl _) _).trans (HD2.out.below.mono (by simp))⟩
end Go.Proofs.Ytclflfglhbkfkaa

/- Contracts: fraction.exact, Make, Of. -/
namespace Go.Proofs.Ytclflfglhbkfkaa
open Go.RowKit

/-- A fraction's two slices. -/
structure Fa where
  A : Option Addr
  n : Nat
  c : Nat
  B : Option Addr
  m : Nat
  d : Nat
/-- The slices read as two lists of limbs. -/
structure Fq (w : World) (a : Fa) (l k : List Nat) : Prop where
  u : Ul w none a.A a.n l
  v : Ul w none a.B a.m k
  c : a.n ≤ a.c
  d : a.m ≤ a.d
  n : a.n ≤ 9223372036854775807
  m : a.m ≤ 9223372036854775807
section
variable {w w' : World} {a : Fa} {l k : List Nat}
theorem Fq.below (h : Fq w a l k) (hb : Below w.heap.size w w') : Fq w' a l k := ⟨h.u.below hb, h.v.below hb, h.c, h.d, h.n, h.m⟩
theorem Fq.fr (h : Fq w a l k) (hf : Fr w w' (fun _ => False)) : Fq w' a l k := ⟨h.u.frF hf, h.v.frF hf, h.c, h.d, h.n, h.m⟩
theorem Fq.alloc (h : Fq w a l k) (o : Obj) : Fq (w.alloc o) a l k := h.below ((Below.refl _ _).alloc (Nat.le_refl _) _)
theorem Fq.drew (h : Fq w a l k) : Fq w.drew a l k := ⟨h.u.drew, h.v.drew, h.c, h.d, h.n, h.m⟩
theorem Fq.drewN (h : Fq w a l k) (n : Nat) : Fq (w.drewN n) a l k := ⟨h.u.drewN n, h.v.drewN n, h.c, h.d, h.n, h.m⟩
end
/-- The slices read as the fraction o. -/
def Fo (w : World) (a : Fa) (o : Option Rat) : Prop := Fq w a (numL o) (denL o) ∧ okR o
section
variable {w w' : World} {a : Fa} {o : Option Rat}
theorem Fo.below (h : Fo w a o) (hb : Below w.heap.size w w') : Fo w' a o := ⟨h.1.below hb, h.2⟩
theorem Fo.fr (h : Fo w a o) (hf : Fr w w' (fun _ => False)) : Fo w' a o := ⟨h.1.fr hf, h.2⟩
theorem Fo.alloc (h : Fo w a o) (x : Obj) : Fo (w.alloc x) a o := ⟨h.1.alloc x, h.2⟩
theorem Fo.drew (h : Fo w a o) : Fo w.drew a o := ⟨h.1.drew, h.2⟩
theorem Fo.drewN (h : Fo w a o) (n : Nat) : Fo (w.drewN n) a o := ⟨h.1.drewN n, h.2⟩
theorem Fq.small {r : Rat} (h : Fq w a (lm (rn r)) (lm r.den)) (h3 : fitsR r = true) : a.n ≤ 128 ∧ a.m ≤ 128 := by
  rw [← h.u.len, ← h.v.len]
  simp only [fitsR, Bool.and_eq_true, decide_eq_true_eq] at h3
  exact h3
theorem Fo.small (h : Fo w a o) : a.n ≤ 128 ∧ a.m ≤ 128 := by
  obtain ⟨h1, h2⟩ := h
  rw [← h1.u.len, ← h1.v.len]
  cases o with
  | none => exact ⟨Nat.zero_le _, Nat.zero_le _⟩
  | some r =>
    have h3 := h2.2
    simp only [fitsR, Bool.and_eq_true, decide_eq_true_eq] at h3
    exact h3
theorem Fo.nil (w : World) : Fo w ⟨none, 0, 0, none, 0, 0⟩ none := ⟨⟨Ul.nil, Ul.nil, Nat.le_refl _, Nat.le_refl _, by simp, by simp⟩, trivial⟩
end
/-- The cells of a box that was made first. -/
theorem box2 {w w' : World} {v0 v1 : Value} {t : TypeId} (hb : Below (w.alloc (.cells #[v0, v1] t)).heap.size (w.alloc (.cells #[v0, v1] t)) w') :
    w'.cell? ⟨w.heap.size, 0, none⟩ = some v0 ∧ w'.cell? ⟨w.heap.size, 1, none⟩ = some v1 ∧ (∀ j, w'.frozen? ⟨w.heap.size, j, none⟩ = false) ∧ w.heap.size < w'.heap.size := by
  refine ⟨?_, ?_, fun j => ?_, ?_⟩
  · rw [hb.cell (p := ⟨w.heap.size, 0, none⟩) (by simp)]; simp [go_sem]
  · rw [hb.cell (p := ⟨w.heap.size, 1, none⟩) (by simp)]; simp [go_sem]
  · rw [hb.frozen (p := ⟨w.heap.size, j, none⟩) (by simp)]; simp [go_sem]
  · have := hb.size; simp at this; omega
/-- No limbs lie in a box of two other cells. -/
theorem box2n {w w' : World} {v0 v1 : Value} {t : TypeId} (hb : Below (w.alloc (.cells #[v0, v1] t)).heap.size (w.alloc (.cells #[v0, v1] t)) w') (h0 : ∀ x, v0 ≠ .int .u32 x) (h1 : ∀ x, v1 ≠ .int .u32 x) :
    ∀ j x, w'.cell? ⟨w.heap.size, j, none⟩ ≠ some (.int .u32 x) := by
  intro j x h
  rw [hb.cell (p := ⟨w.heap.size, j, none⟩) (by simp)] at h
  rcases j with _ | _ | j
  · simp [go_sem] at h; exact h0 x h
  · simp [go_sem] at h; exact h1 x h
  · simp [go_sem] at h
theorem Ul.nbox {w : World} {av : Option Nat} {A : Option Addr} {n : Nat} {l : List Nat} (h : Ul w av A n l) (hl : l ≠ []) {b o : Nat} (hA : A = some ⟨b, o, none⟩) {g : Nat} (hg : ∀ j x, w.cell? ⟨g, j, none⟩ ≠ some (.int .u32 x)) : b ≠ g := by
  rintro rfl
  have hn : 0 < n := by
    have := h.len
    rcases l with _ | ⟨x, l⟩
    · exact absurd rfl hl
    · simp at this; omega
  obtain ⟨b', o', x, hA', -, -, -, -, hc⟩ := h.at hn
  rw [hA'] at hA
  injection hA with hA
  injection hA with hA
  subst hA
  exact hg _ _ hc
theorem gcd_pos' {x y : Nat} (hy : 0 < y) : 0 < Nat.gcd x y := Nat.gcd_pos_of_pos_right x hy
theorem fit_iff {x y : Nat} (hy : 0 < y) : fitsR (mkRat x y) = (decide ((lm (x / Nat.gcd x y)).length ≤ 128) && decide ((lm (y / Nat.gcd x y)).length ≤ 128)) := by
  unfold fitsR
  rw [mk_num x y hy, mk_den x y hy]
set_option maxRecDepth 100000 in
set_option maxHeartbeats 4000000 in
theorem fexact_any (w : World) (av av' : Option Nat) (A : Option Addr) (n c : Nat) (B : Option Addr) (m d : Nat) (x y : Nat) (hU : Ul w av A n (lm x)) (hV : Ul w av' B m (lm y)) (hn : n ≤ 1000) (hm : m ≤ 1000) (hy : 0 < y) :
    Calls Try.prog 58 #[.slice A n c, .slice B m d] w fun e w' => ∃ (a : Fa) (er : Int), e = .returned (.tuple #[.agg #[.slice a.A a.n a.c, .slice a.B a.m a.d], .int .i64 er]) ∧ Hid (er = (limR (mkRat x y)).2) ∧ Hid (Fo w' a (limR (mkRat x y)).1) ∧ Below w.heap.size w w' := by
  have HU := hide hU
  have HV := hide hV
  have hgp := gcd_pos' (x := x) hy
  have HF := hide (fit_iff (x := x) hy)
  clear hU hV
  go_enter Try.func58, Try.ntmps58
  go_wp2_with (first
    | (go_at_call 76; refine (lgcd_any _ av av' A n c B m d x y (HU.out.alloc _) (HV.out.alloc _) (by omega) (by omega)).mono ?_; rintro e w1 ⟨A1, m1, c1, rfl, hc1, hu1, hb1⟩; have hl1 := lm_length_mono (Nat.le_of_dvd hy (Nat.gcd_dvd_right x y)); rw [hu1.len, HV.out.len] at hl1; have HU1 := hide hu1; have HB1 := hide hb1; have HUa := hide ((HU.out.alloc _).below hb1); have HVa := hide ((HV.out.alloc _).below hb1); clear hu1 hb1)
    | (go_at_call 86; (with_reducible refine (ldiv_any _ av none A n c A1 m1 c1 x (Nat.gcd x y) HUa.out HU1.out (by omega) (by omega) hgp).mono ?_); rintro e w2 ⟨A2, m2, c2, A3, m3, c3, rfl, hc2, hc3, hu2, hu3, hb2⟩; have HU2 := hide hu2; have HB2 := hide hb2; have HVb := hide (HVa.out.below hb2); have HU1b := hide (HU1.out.below hb2); clear hu2 hu3 hb2)
    | (go_at_call 86; (with_reducible refine (ldiv_any _ av' none B m d A1 m1 c1 y (Nat.gcd x y) HVb.out HU1b.out (by omega) (by omega) hgp).mono ?_); rintro e w4 ⟨A4, m4, c4, A5, m5, c5, rfl, hc4, hc5, hu4, hu5, hb4⟩; have HU4 := hide hu4; have HU2b := hide (HU2.out.below hb4); have hbw := HB1.out.trans ((HB2.out.trans (hb4.mono HB2.out.size)).mono HB1.out.size); obtain ⟨f0, f1, f2, f3⟩ := box2 hbw; have f20 := f2 0; have f21 := f2 1; have HNB := hide (box2n hbw (by simp) (by simp)); have HBW := hide hbw; clear hu4 hu5 hb4 hbw f2))
  all_goals have HW0 := hide (((Below.refl _ _).alloc (Nat.le_refl _) _).trans (HBW.out.mono (by simp)) : Below w.heap.size w w4)
  all_goals have HL2 := hide HU2b.out.len
  all_goals have HL4 := hide HU4.out.len
  all_goals first
    | (have hf : fitsR (mkRat x y) = false := (by rw [HF.out, HL2.out, HL4.out]; simp; omega)
       have HN := hide (limR_no hf)
       clear hf
       refine bodyPost_ret (v := .tuple #[.agg #[.slice none 0 0, .slice none 0 0], .int .i64 2]) (by simp [results, Try.results58, go_sem, *]) rfl ⟨⟨none, 0, 0, none, 0, 0⟩, 2, rfl, hide (by rw [HN.out]), hide (by rw [HN.out]; exact Fo.nil _), ?_⟩
       exact (HW0.out.setCell (by simp) _).setCell (by simp) _)
    | (have hf : fitsR (mkRat x y) = true := (by rw [HF.out, HL2.out, HL4.out]; simp; omega)
       have HN := hide (limR_fit hf)
       have HNN := hide (mk_num x y hy)
       have HND := hide (mk_den x y hy)
       have HOK := hide (show okR (some (mkRat x y)) from ⟨mk_nonneg x y, hf⟩)
       clear hf
       refine bodyPost_ret (v := .tuple #[.agg #[.slice A2 m2 c2, .slice A4 m4 c4], .int .i64 0]) (by simp [results, Try.results58, go_sem, *]) rfl ⟨⟨A2, m2, c2, A4, m4, c4⟩, 0, rfl, hide (by rw [HN.out]), hide ?_, ?_⟩
       · rw [HN.out]
         refine ⟨⟨?_, ?_, hc2, hc4, by simp; omega, by simp; omega⟩, HOK.out⟩
         · show Ul _ none A2 m2 (lm (rn _))
           rw [HNN.out]
           exact HU2b.out.fr (Fr.setCell (Fr.setCell (S := fun b => b = w.heap.size) (Fr.refl _ _) (Or.inr rfl) _) (Or.inr rfl) _) (fun hl b o hA _ => HU2b.out.nbox hl hA HNB.out)
         · show Ul _ none A4 m4 (lm (Rat.den _))
           rw [HND.out]
           exact HU4.out.fr (Fr.setCell (Fr.setCell (S := fun b => b = w.heap.size) (Fr.refl _ _) (Or.inr rfl) _) (Or.inr rfl) _) (fun hl b o hA _ => HU4.out.nbox hl hA HNB.out)
       · exact (HW0.out.setCell (by simp) _).setCell (by simp) _)
end Go.Proofs.Ytclflfglhbkfkaa
