/- Contracts of the functions that these laws reach: part 13: Contracts: noise.total; Contracts: noise.total, Exactly, AtLeast, AtMost; Contracts: Small; Contracts: the reference's Split in one, Pow; Contracts: the reference's fractions: lowest, limited, Make, Of; Contracts: the reference's fractions: Make, Of; Contracts: the reference's fractions: Check; Contracts: the reference's fractions: order, Compare. -/
import Derived.Test.YtnokfhkcfebimaaGreatP12
import Derived.Test.YtnokfhkcfebimaaGreatP9
set_option linter.unusedVariables false
set_option linter.unusedSimpArgs false

/- Contracts: noise.total. -/
namespace Go.Proofs.YtnokfhkcfebimaaGreat
open Go.RowKit

def RT (B n : Nat) (a : Fa) (r : Rat) : Nat → Value → World → Prop
  | 0, x, _ => x = .int .i64 (n : Int)
  | 1, x, _ => x = .agg (rowCells n).toArray
  | 2, x, _ => x = .agg #[.slice a.A a.n a.c, .slice a.B a.m a.d]
  | 3, x, W => ∃ c : Fa, x = .agg #[.slice c.A c.n c.c, .slice c.B c.m c.d] ∧ Fo W c (some (1 - r))
  | 4, x, W => ∃ c : Fa, x = .agg #[.slice c.A c.n c.c, .slice c.B c.m c.d] ∧ Fo W c (some 0)
  | 5, x, W => ∃ b, x = .pointer (some ⟨b, 0, none⟩) ∧ B ≤ b ∧ Rw W b (fun _ => 0) ∧ NB W b
  | 6, x, W => ∃ b, x = .pointer (some ⟨b, 0, none⟩) ∧ B ≤ b ∧ Bq W b fa0
  | 7, x, W => ∃ b, x = .pointer (some ⟨b, 0, none⟩) ∧ B ≤ b ∧ Bq W b fa0
  | _, _, _ => True
end Go.Proofs.YtnokfhkcfebimaaGreat

/- Contracts: noise.total, Exactly, AtLeast, AtMost. -/
namespace Go.Proofs.YtnokfhkcfebimaaGreat
open Go.RowKit

end Go.Proofs.YtnokfhkcfebimaaGreat

/- Contracts: Small. -/
namespace Go.Proofs.YtnokfhkcfebimaaGreat
open Go.RowKit

/-- A slice of one limb just built. -/
theorem ul_one {w : World} {x : Nat} (hx : x < 4294967296) (t : TypeId) {g : Nat} (hg : g = w.heap.size) : Ul (w.alloc (.cells #[.int .u32 (x : Int)] t)) none (some ⟨g, 0, none⟩) 1 [x] := by
  subst hg
  refine ⟨fun _ => ⟨w.heap.size, 0, rfl, by simp, by simp, fun k a hk j u hu => ?_⟩, rfl, fun y hy => by simp at hy; omega⟩
  match k, j with
  | 0, 0 =>
    simp [uv] at hk hu
    subst hk
    subst hu
    rw [World.cell?_alloc_new]
    rfl
  | k + 1, _ => simp at hk
  | 0, j + 1 => simp [uv] at hu
theorem tmod_nat (a b : Nat) : ((a : Int)).tmod (b : Int) = ((a % b : Nat) : Int) := rfl
set_option maxRecDepth 100000 in
set_option maxHeartbeats 8000000 in
theorem small_any (w : World) (x y : Nat) (hx : x < 2147483648) (hy : y < 2147483648) (h0 : 0 < y) :
    Calls Tryz.prog 25 #[.int .i64 (x : Int), .int .i64 (y : Int)] w fun e w' => Ret1 w (some (mkRat x y)) e w' := by
  go_enter Tryz.func25, Tryz.ntmps25
  go_upto_region 1 with (fail)
  generalize hW : World.alloc w _ = v
  have HRB := hide (show Rb v w.heap.size by rw [← hW]; exact Rb.mk0 _ rfl)
  have HBV := hide (show Below w.heap.size w v by rw [← hW]; exact (Below.refl _ _).alloc (Nat.le_refl _) _)
  clear hW
  go_wp2_with fail
  go_loopw [5, 6] (fun p q wr => ∃ a b : Nat, p = .int .i64 (a : Int) ∧ q = .int .i64 (b : Int) ∧ a < 2147483648 ∧ b < 2147483648 ∧ Hid (Nat.gcd a b = Nat.gcd x y) ∧ Hid (Below v.heap.size v wr)) (fun _ q _ => (intOf q).toNat)
  case atStart => exact ⟨x, y, rfl, rfl, hx, hy, hide rfl, hide (Below.refl _ _)⟩
  case round =>
    obtain ⟨a, b, rfl, rfl, ha, hb, HG, HB⟩ := hrel
    by_cases hb0 : b = 0
    · subst hb0
      rw [Nat.gcd_zero_right] at HG
      have hg : a = Nat.gcd x y := HG.out
      have hap : 0 < a := by rw [hg]; exact Nat.gcd_pos_of_pos_right _ h0
      have ha0 : ((a : Int) == 0) = false := by simp; omega
      have hden : (mkRat x y).den = y / a := by rw [hg]; exact mk_den x y h0
      have hrn : rn (mkRat x y) = x / a := by rw [hg]; exact mk_num x y h0
      have hyp : y / a ≠ 0 := by
        have := Nat.div_pos (Nat.le_of_dvd h0 (by rw [hg]; exact Nat.gcd_dvd_right x y)) hap
        omega
      have hxp' : x ≠ 0 → x / a ≠ 0 := fun hx0 => by
        have := Nat.div_pos (Nat.le_of_dvd (Nat.pos_of_ne_zero hx0) (by rw [hg]; exact Nat.gcd_dvd_left x y)) hap
        omega
      obtain ⟨qy, hqy⟩ : ∃ q, q = y / a := ⟨_, rfl⟩
      obtain ⟨qx, hqx⟩ : ∃ q, q = x / a := ⟨_, rfl⟩
      have hy1 : qy < 2147483648 := by rw [hqy]; exact Nat.lt_of_le_of_lt (Nat.div_le_self _ _) hy
      have hx1 : qx < 2147483648 := by rw [hqx]; exact Nat.lt_of_le_of_lt (Nat.div_le_self _ _) hx
      rw [← hqy] at hden hyp
      rw [← hqx] at hrn hxp'
      have HD := hide (show lm (mkRat x y).den = [qy] by rw [hden]; exact lm_small (by omega) hyp)
      have HN := hide (show x ≠ 0 → lm (rn (mkRat x y)) = [qx] from fun h => by rw [hrn]; exact lm_small (by omega) (hxp' h))
      have HN0 := hide (show x = 0 → lm (rn (mkRat x y)) = [] from fun h => by subst h; rw [hrn, hqx, Nat.zero_div, lm_zero])
      have HOK := hide (show okR (some (mkRat x y)) from ⟨mk_nonneg x y, fits64 (by omega) (by omega) h0⟩)
      have e1 : (y : Int) / (a : Int) = (qy : Int) := by rw [hqy]; rfl
      have e2 : (x : Int) / (a : Int) = (qx : Int) := by rw [hqx]; rfl
      have w1 : (qy : Int) % 4294967296 = (qy : Int) := by omega
      have w2 : (qx : Int) % 4294967296 = (qx : Int) := by omega
      have HR := hide (HRB.out.below HB.out)
      obtain ⟨r0, r1, rf, rz, -⟩ := HR.out
      have rz1 : w.heap.size < wr.heap.size + 1 := by omega
      have rz2 : w.heap.size < wr.heap.size + 1 + 1 := by omega
      have HBW := hide (HBV.out.trans (HB.out.mono HBV.out.size))
      clear hden hrn hyp hxp' hqy hqx hg HG HB
      by_cases hx0 : x = 0
      · have hN := HN0.out hx0
        subst hx0
        have HNN := hide hN
        clear hN HN HN0
        go_wp2_with fail
        refine bodyPost_ret (v := .agg #[.slice none 0 0, .slice (some ⟨wr.heap.size, 0, none⟩) 1 1]) (by simp [results, Tryz.results25, go_sem, *]) rfl ⟨⟨none, 0, 0, some ⟨wr.heap.size, 0, none⟩, 1, 1⟩, rfl, ?_, ?_⟩
        · refine ⟨⟨?_, ?_, Nat.le_refl _, Nat.le_refl _, by show 0 ≤ 9223372036854775807; omega, by show 1 ≤ 9223372036854775807; omega⟩, HOK.out⟩
          · show Ul _ none none 0 (lm (rn (mkRat _ y))); rw [HNN.out]; exact Ul.nil
          · show Ul _ none _ 1 (lm (mkRat _ y).den); rw [HD.out]; exact (ul_one (by omega) _ (by simp)).alloc _
        · exact ((Rb.end0 HBW.out (Nat.le_refl _) _ _).alloc (by simp; omega) _).alloc (by simp; omega) _
      · have HNN := hide (HN.out hx0)
        clear HN HN0
        have hxp : (0 : Int) < (x : Int) := by omega
        go_wp2_with fail
        refine bodyPost_ret (v := .agg #[.slice (some ⟨wr.heap.size + 1 + 1, 0, none⟩) 1 1, .slice (some ⟨wr.heap.size, 0, none⟩) 1 1]) (by simp [results, Tryz.results25, go_sem, *]) rfl ⟨⟨some ⟨wr.heap.size + 1 + 1, 0, none⟩, 1, 1, some ⟨wr.heap.size, 0, none⟩, 1, 1⟩, rfl, ?_, ?_⟩
        · refine ⟨⟨?_, ?_, Nat.le_refl _, Nat.le_refl _, by show 1 ≤ 9223372036854775807; omega, by show 1 ≤ 9223372036854775807; omega⟩, HOK.out⟩
          · show Ul _ none _ 1 (lm (rn (mkRat _ y))); rw [HNN.out]; exact ul_one (by omega) _ (by simp)
          · show Ul _ none _ 1 (lm (mkRat _ y).den); rw [HD.out]; exact ((ul_one (by omega) _ (by simp)).alloc _).alloc _
        · exact (((Rb.end0 HBW.out (Nat.le_refl _) _ _).alloc (by simp; omega) _).alloc (by simp; omega) _).alloc (by simp; omega) _
    · have e1 := tmod_nat a b
      have hm := Nat.mod_lt a (Nat.pos_of_ne_zero hb0)
      have hbI : ((b : Int) == 0) = false := by simp; omega
      go_wp2_with fail
      go_quiet (fail)
      go_wp2_with fail
      go_roundw
      case rel => exact ⟨b, a % b, rfl, by go_num, hb, by omega, hide (by rw [← HG.out]; exact gcd_step a b), hide (HB.out.trans ((Dr.below ⟨_, rfl⟩).mono HB.out.size))⟩
      case measure => simp [intOf]; omega
end Go.Proofs.YtnokfhkcfebimaaGreat

/- Contracts: the reference's Split in one, Pow. -/
namespace Go.Proofs.YtnokfhkcfebimaaGreat
open Go.RowKit

theorem r1split_any (w : World) (av av' : Option Nat) (A : Option Addr) (n c : Nat) (B : Option Addr) (m d : Nat) (x y : Nat) (hU : Ul w av A n (lm x)) (hV : Ul w av' B m (lm y)) (hn : n ≤ 500000) (hm : m ≤ 500000) (hy : 0 < y) :
    Calls Tryz.prog 147 #[.slice A n c, .slice B m d] w fun e w' => ∃ A' m' c' A2 m2 c2, e = .returned (.tuple #[.slice A' m' c', .slice A2 m2 c2]) ∧ m' ≤ c' ∧ m2 ≤ c2 ∧ Ul w' none A' m' (lm (x / y)) ∧ Ul w' none A2 m2 (lm (x % y)) ∧ Below w.heap.size w w' := by
  rcases Nat.lt_or_ge x y with h | h
  · exact r1split_lt w av av' A n c B m d x y hU hV hn hm h
  · have hm0 : 0 < m := lm_pos_len1 hy hV.len
    by_cases h1 : m = 1
    · subst h1
      exact r1split_one w av av' A n c B d x y hU hV hn h
    · exact r1split_gen w av av' A n c B m d x y hU hV hn hm (by omega) h
theorem pow_len_mono {a i k : Nat} (ha : 0 < a) (h : i ≤ k) : (lm (a ^ i)).length ≤ (lm (a ^ k)).length := lm_length_mono (Nat.pow_le_pow_right ha h)
set_option maxRecDepth 100000 in
set_option maxHeartbeats 8000000 in
theorem r1pow_any (w : World) (av : Option Nat) (A : Option Addr) (n c : Nat) (a k : Nat) (hU : Ul w av A n (lm a)) (hn : n ≤ 128) (hk : k ≤ 65536) :
    Calls Tryz.prog 160 #[.slice A n c, .int .i64 (k : Int)] w fun e w' => ∃ A' m' c' ok, e = .returned (.tuple #[.slice A' m' c', .int .i64 (if ok = true then 0 else 2)]) ∧ m' ≤ c' ∧ Hid (ok = decide ((lm (a ^ k)).length ≤ 128)) ∧ Ul w' none A' m' (if ok = true then lm (a ^ k) else []) ∧ Below w.heap.size w w' := by
  have HU := hide hU
  have HC := hide (show natB (lm a) = true by rw [natB_iff, lv_lm]; exact ⟨by rw [hU.len]; exact hn, rfl⟩)
  clear hU
  have d0 : decide ((k : Int) < 0) = false := decide_eq_false (by omega)
  have d1 : decide ((65536 : Int) < (k : Int)) = false := decide_eq_false (by omega)
  by_cases hn0 : n = 0
  · have ha0 : a = 0 := lm_eq_nil.1 (List.eq_nil_of_length_eq_zero (by rw [HU.out.len, hn0]))
    have dn0 : ((n : Int) == 0) = true := by simp; omega
    have dn1 : ((n : Int) == 1) = false := by simp; omega
    by_cases hk0 : k = 0
    · have HA := hide (show 0 < k → 0 < a by omega)
      have d2 : decide (0 < k) = false := decide_eq_false (by omega)
      clear hn0 ha0 hk0
      go_enter Tryz.func160, Tryz.ntmps160
      go_wp2_with ((go_at_call 113; (with_reducible refine (r1check_any _ av _ n c _ HU.out (by omega)).mono ?_); rintro e w' ⟨rfl, hw⟩; subst w'; rw [HC.out]))
      go_loopw [6, 7] (fun pv iv wr => ∃ (i : Nat) (A1 : Option Addr) (m1 c1 : Nat), i ≤ k ∧ pv = .slice A1 m1 c1 ∧ iv = .int .i64 (i : Int) ∧ m1 ≤ 128 ∧ m1 ≤ c1 ∧ Hid (Ul wr none A1 m1 (lm (a ^ i))) ∧ Hid (Below w.heap.size w wr)) (fun _ iv _ => k - (intOf iv).toNat)
      case atStart => exact ⟨0, _, 1, 1, by omega, rfl, rfl, by omega, by omega, hide (by rw [Nat.pow_zero, lm_one]; exact ul_one (x := 1) (by omega) _ rfl), hide ((Below.refl _ _).alloc (Nat.le_refl _) _)⟩
      case round =>
        obtain ⟨i, A1, m1, c1, hi, rfl, rfl, hm1, hc1, HU1, HB1⟩ := hrel
        by_cases hik : i = k
        · subst hik
          go_wp2_with fail
          go_ret2
          have hle : (lm (a ^ i)).length ≤ 128 := by rw [HU1.out.len]; exact hm1
          exact ⟨A1, m1, c1, true, rfl, hc1, hide (by simp [hle]), HU1.out, HB1.out⟩
        · have hlt : (i : Int) < (k : Int) := by omega
          go_wp2_with (go_at_call 121; (with_reducible refine (r1times_any _ none av A1 m1 c1 _ n c (a ^ i) a HU1.out (HU.out.below HB1.out) (by omega) (by omega)).mono ?_); rintro e w3 ⟨A3, m3, c3, rfl, hc3, hu3, hb3⟩; rw [← Nat.pow_succ] at hu3; have HU3 := hide hu3; have HB3 := hide (HB1.out.trans (hb3.mono HB1.out.size)); clear hu3 hb3)
          · go_ret2
            have ho := pow_len_mono (a := a) (i := i + 1) (k := k) (HA.out (by omega)) (by omega)
            rw [HU3.out.len] at ho
            exact ⟨none, 0, 0, false, rfl, by omega, hide (by simp; omega), Ul.nil, HB3.out⟩
          · exact ⟨⟨i + 1, A3, m3, c3, by omega, rfl, by go_num, by omega, hc3, HU3, HB3⟩, by simp [intOf] <;> omega⟩
    · have d2 : decide (0 < k) = true := decide_eq_true (by omega)
      have HK := hide hk0
      have HZ := hide ha0
      clear hn0 ha0 hk0
      go_enter Tryz.func160, Tryz.ntmps160
      go_wp2_with (first | ((go_at_call 113; (with_reducible refine (r1check_any _ av _ n c _ HU.out (by omega)).mono ?_); rintro e w' ⟨rfl, hw⟩; subst w'; rw [HC.out])) | ((at_builtin; refine wl_appall_u32 (w0 := w) rfl _ _ _ Tryz.underlying24 rfl none 0 0 [] av _ n c (lm _) rfl rfl (OF.nil (Fr.refl w _)) HU.out (by omega) ?_; intro A1 c1 w2 ho; rw [List.nil_append, Nat.zero_add] at ho; rw [Nat.zero_add]; have HO2 := hide ho; clear ho)))
      go_ret2
      have h0 : a ^ k = a := by rw [HZ.out]; exact Nat.zero_pow (Nat.pos_of_ne_zero HK.out)
      exact ⟨A1, n, c1, true, rfl, HO2.out.cap, hide (by rw [h0, HU.out.len]; simp [hn]), by rw [if_pos rfl, h0]; exact HO2.out.ul, fr_below HO2.out.fr⟩
  · have dn0 : ((n : Int) == 0) = false := by simp; omega
    have hap : 0 < a := by
      rcases Nat.eq_zero_or_pos a with h | h
      · exfalso
        have := HU.out.len
        rw [h, lm_zero] at this
        exact hn0 this.symm
      · exact h
    have HA := hide (show 0 < k → 0 < a from fun _ => hap)
    by_cases hn1 : n = 1
    · have dn1 : ((n : Int) == 1) = true := by simp; omega
      obtain ⟨hl1, hy1, hy2⟩ := lm_len1 (y := a) (by rw [HU.out.len]; exact hn1)
      obtain ⟨b, o, p, rfl, -, -, hp, hpl, hcell⟩ := HU.out.at (k := 0) (by omega)
      obtain rfl : p = a := by rw [hl1] at hp; simpa using hp.symm
      rw [Nat.add_zero] at hcell
      have gn1 : (0 : Int) < (n : Int) := by omega
      clear hp hl1 hn0 hn1
      by_cases hp1 : p = 1
      · have dp1 : ((p : Int) == 1) = true := by simp; omega
        have HZ := hide hp1
        clear hp1
        go_enter Tryz.func160, Tryz.ntmps160
        go_wp2_with (first | ((go_at_call 113; (with_reducible refine (r1check_any _ av _ n c _ HU.out (by omega)).mono ?_); rintro e w' ⟨rfl, hw⟩; subst w'; rw [HC.out])) | ((at_builtin; refine wl_appall_u32 (w0 := w) rfl _ _ _ Tryz.underlying24 rfl none 0 0 [] av _ n c (lm _) rfl rfl (OF.nil (Fr.refl w _)) HU.out (by omega) ?_; intro A1 c1 w2 ho; rw [List.nil_append, Nat.zero_add] at ho; rw [Nat.zero_add]; have HO2 := hide ho; clear ho)))
        go_ret2
        have h0 : p ^ k = p := by rw [HZ.out, Nat.one_pow]
        exact ⟨A1, n, c1, true, rfl, HO2.out.cap, hide (by rw [h0, HU.out.len]; simp [hn]), by rw [if_pos rfl, h0]; exact HO2.out.ul, fr_below HO2.out.fr⟩
      · have dp1 : ((p : Int) == 1) = false := by simp; omega
        obtain ⟨a, ha⟩ : ∃ a, a = p := ⟨p, rfl⟩
        rw [← ha] at HU HC HA
        rw [← ha]
        clear hp1
        go_enter Tryz.func160, Tryz.ntmps160
        go_wp2_with ((go_at_call 113; (with_reducible refine (r1check_any _ av _ n c _ HU.out (by omega)).mono ?_); rintro e w' ⟨rfl, hw⟩; subst w'; rw [HC.out]))
        clear hcell dp1 hap hy1 hy2 hpl ha
        go_loopw [6, 7] (fun pv iv wr => ∃ (i : Nat) (A1 : Option Addr) (m1 c1 : Nat), i ≤ k ∧ pv = .slice A1 m1 c1 ∧ iv = .int .i64 (i : Int) ∧ m1 ≤ 128 ∧ m1 ≤ c1 ∧ Hid (Ul wr none A1 m1 (lm (a ^ i))) ∧ Hid (Below w.heap.size w wr)) (fun _ iv _ => k - (intOf iv).toNat)
        case atStart => exact ⟨0, _, 1, 1, by omega, rfl, rfl, by omega, by omega, hide (by rw [Nat.pow_zero, lm_one]; exact ul_one (x := 1) (by omega) _ rfl), hide ((Below.refl _ _).alloc (Nat.le_refl _) _)⟩
        case round =>
          obtain ⟨i, A1, m1, c1, hi, rfl, rfl, hm1, hc1, HU1, HB1⟩ := hrel
          by_cases hik : i = k
          · subst hik
            go_wp2_with fail
            go_ret2
            have hle : (lm (a ^ i)).length ≤ 128 := by rw [HU1.out.len]; exact hm1
            exact ⟨A1, m1, c1, true, rfl, hc1, hide (by simp [hle]), HU1.out, HB1.out⟩
          · have hlt : (i : Int) < (k : Int) := by omega
            go_wp2_with (go_at_call 121; (with_reducible refine (r1times_any _ none av A1 m1 c1 _ n c (a ^ i) a HU1.out (HU.out.below HB1.out) (by omega) (by omega)).mono ?_); rintro e w3 ⟨A3, m3, c3, rfl, hc3, hu3, hb3⟩; rw [← Nat.pow_succ] at hu3; have HU3 := hide hu3; have HB3 := hide (HB1.out.trans (hb3.mono HB1.out.size)); clear hu3 hb3)
            · go_ret2
              have ho := pow_len_mono (a := a) (i := i + 1) (k := k) (HA.out (by omega)) (by omega)
              rw [HU3.out.len] at ho
              exact ⟨none, 0, 0, false, rfl, by omega, hide (by simp; omega), Ul.nil, HB3.out⟩
            · exact ⟨⟨i + 1, A3, m3, c3, by omega, rfl, by go_num, by omega, hc3, HU3, HB3⟩, by simp [intOf] <;> omega⟩
    · have dn1 : ((n : Int) == 1) = false := by simp; omega
      go_enter Tryz.func160, Tryz.ntmps160
      go_wp2_with ((go_at_call 113; (with_reducible refine (r1check_any _ av _ n c _ HU.out (by omega)).mono ?_); rintro e w' ⟨rfl, hw⟩; subst w'; rw [HC.out]))
      go_loopw [6, 7] (fun pv iv wr => ∃ (i : Nat) (A1 : Option Addr) (m1 c1 : Nat), i ≤ k ∧ pv = .slice A1 m1 c1 ∧ iv = .int .i64 (i : Int) ∧ m1 ≤ 128 ∧ m1 ≤ c1 ∧ Hid (Ul wr none A1 m1 (lm (a ^ i))) ∧ Hid (Below w.heap.size w wr)) (fun _ iv _ => k - (intOf iv).toNat)
      case atStart => exact ⟨0, _, 1, 1, by omega, rfl, rfl, by omega, by omega, hide (by rw [Nat.pow_zero, lm_one]; exact ul_one (x := 1) (by omega) _ rfl), hide ((Below.refl _ _).alloc (Nat.le_refl _) _)⟩
      case round =>
        obtain ⟨i, A1, m1, c1, hi, rfl, rfl, hm1, hc1, HU1, HB1⟩ := hrel
        by_cases hik : i = k
        · subst hik
          go_wp2_with fail
          go_ret2
          have hle : (lm (a ^ i)).length ≤ 128 := by rw [HU1.out.len]; exact hm1
          exact ⟨A1, m1, c1, true, rfl, hc1, hide (by simp [hle]), HU1.out, HB1.out⟩
        · have hlt : (i : Int) < (k : Int) := by omega
          go_wp2_with (go_at_call 121; (with_reducible refine (r1times_any _ none av A1 m1 c1 _ n c (a ^ i) a HU1.out (HU.out.below HB1.out) (by omega) (by omega)).mono ?_); rintro e w3 ⟨A3, m3, c3, rfl, hc3, hu3, hb3⟩; rw [← Nat.pow_succ] at hu3; have HU3 := hide hu3; have HB3 := hide (HB1.out.trans (hb3.mono HB1.out.size)); clear hu3 hb3)
          · go_ret2
            have ho := pow_len_mono (a := a) (i := i + 1) (k := k) (HA.out (by omega)) (by omega)
            rw [HU3.out.len] at ho
            exact ⟨none, 0, 0, false, rfl, by omega, hide (by simp; omega), Ul.nil, HB3.out⟩
          · exact ⟨⟨i + 1, A3, m3, c3, by omega, rfl, by go_num, by omega, hc3, HU3, HB3⟩, by simp [intOf] <;> omega⟩
end Go.Proofs.YtnokfhkcfebimaaGreat

/- Contracts: the reference's fractions: lowest, limited, Make, Of. -/
namespace Go.Proofs.YtnokfhkcfebimaaGreat
open Go.RowKit

/-- The slices read as a fraction of any size. -/
def Lo (w : World) (a : Fa) (r : Rat) : Prop := Fq w a (lm (rn r)) (lm r.den)
theorem Fq.put2 {w : World} {a : Fa} {l k : List Nat} (h : Fq w a l k) {g : Nat} (hg : NB w g) (x y : Value) (hx : ∀ i, x ≠ .int .u32 i) : Fq ((w.setCell ⟨g, 0, none⟩ x).setCell ⟨g, 1, none⟩ y) a l k := (h.put hg _ _).put (hg.put _ hx) _ _
set_option maxRecDepth 100000 in
set_option maxHeartbeats 8000000 in
theorem r2lowest_any (w : World) (av av' : Option Nat) (A : Option Addr) (n c : Nat) (B : Option Addr) (m d : Nat) (x y : Nat) (hU : Ul w av A n (lm x)) (hV : Ul w av' B m (lm y)) (hn : n ≤ 1000) (hm : m ≤ 1000) (hy : 0 < y) :
    Calls Tryz.prog 120 #[.slice A n c, .slice B m d] w fun e w' => ∃ a : Fa, e = .returned (.agg #[.slice a.A a.n a.c, .slice a.B a.m a.d]) ∧ Lo w' a (mkRat x y) ∧ Below w.heap.size w w' := by
  have hgp := gcd_pos' (x := x) hy
  have HN := hide (mk_num x y hy)
  have HD := hide (mk_den x y hy)
  go_enter Tryz.func120, Tryz.ntmps120
  go_upto_region 1 with (fail)
  generalize hW : World.alloc w _ = v
  have HRB := hide (show Rb v w.heap.size by rw [← hW]; exact Rb.mk0 _ rfl)
  have HBV := hide (show Below w.heap.size w v by rw [← hW]; exact (Below.refl _ _).alloc (Nat.le_refl _) _)
  have HU := hide (show Ul v av A n (lm x) by rw [← hW]; exact hU.alloc _)
  have HV := hide (show Ul v av' B m (lm y) by rw [← hW]; exact hV.alloc _)
  clear hW hU hV
  go_wp2_with (first
    | (go_at_call 115; (with_reducible refine (r1common_any _ av av' A n c B m d x y HU.out HV.out (by omega) (by omega)).mono ?_); rintro e w1 ⟨A1, m1, c1, rfl, hc1, hu1, hb1⟩; have hl1 := lm_length_mono (Nat.le_of_dvd hy (Nat.gcd_dvd_right x y)); rw [hu1.len, HV.out.len] at hl1; have HU1 := hide hu1; have HB1 := hide (HBV.out.trans (hb1.mono HBV.out.size)); have HR1 := hide (HRB.out.below hb1); have HUa := hide (HU.out.below hb1); have HVa := hide (HV.out.below hb1); clear hu1 hb1)
    | (go_at_call 147; (with_reducible refine (r1split_any _ av none A n c A1 m1 c1 x (Nat.gcd x y) HUa.out HU1.out (by omega) (by omega) hgp).mono ?_); rintro e w2 ⟨A2, m2, c2, A3, m3, c3, rfl, hc2, hc3, hu2, hu3, hb2⟩; have HU2 := hide hu2; have HB2 := hide (HB1.out.trans (hb2.mono HB1.out.size)); have HR2 := hide (HR1.out.below hb2); have HVb := hide (HVa.out.below hb2); have HU1b := hide (HU1.out.below hb2); clear hu2 hu3 hb2)
    | (go_at_call 147; (with_reducible refine (r1split_any _ av' none B m d A1 m1 c1 y (Nat.gcd x y) HVb.out HU1b.out (by omega) (by omega) hgp).mono ?_); rintro e w4 ⟨A4, m4, c4, A5, m5, c5, rfl, hc4, hc5, hu4, hu5, hb4⟩; have HU4 := hide hu4; have HB4 := hide (HB2.out.trans (hb4.mono HB2.out.size)); have HR4 := hide (HR2.out.below hb4); have HU2b := hide (HU2.out.below hb4); obtain ⟨z0, z1, zf, zz, -⟩ := HR4.out; clear hu4 hu5 hb4))
  have h2 : m2 ≤ 1000 := by
    rw [← HU2b.out.len]
    exact Nat.le_trans (lm_length_mono (Nat.div_le_self x _)) (by rw [HU.out.len]; exact hn)
  have h4 : m4 ≤ 1000 := by
    rw [← HU4.out.len]
    exact Nat.le_trans (lm_length_mono (Nat.div_le_self y _)) (by rw [HV.out.len]; exact hm)
  have HQ : Lo w4 ⟨A2, m2, c2, A4, m4, c4⟩ (mkRat x y) := by
    refine ⟨?_, ?_, hc2, hc4, by show m2 ≤ _; omega, by show m4 ≤ _; omega⟩
    · rw [HN.out]; exact HU2b.out
    · rw [HD.out]; exact HU4.out
  refine bodyPost_ret (v := .agg #[.slice A2 m2 c2, .slice A4 m4 c4]) (by simp [results, Tryz.results120, go_sem, *]) rfl ⟨⟨A2, m2, c2, A4, m4, c4⟩, rfl, Fq.put2 HQ HR4.out.nb _ _ (by simp), Rb.end0 HB4.out (Nat.le_refl _) _ _⟩
set_option maxRecDepth 100000 in
set_option maxHeartbeats 8000000 in
theorem r2limited_any (w : World) (a : Fa) (r : Rat) (h0 : 0 ≤ r) (hq : Lo w a r) :
    Calls Tryz.prog 119 #[.agg #[.slice a.A a.n a.c, .slice a.B a.m a.d]] w fun e w' => Ret w (limR r) e w' := by
  have hul := hq.u.len
  have hvl := hq.v.len
  by_cases h1 : a.n ≤ 128
  · have d1 : decide ((128 : Int) < (a.n : Int)) = false := decide_eq_false (by omega)
    by_cases h2 : a.m ≤ 128
    · have d2 : decide ((128 : Int) < (a.m : Int)) = false := decide_eq_false (by omega)
      have hf : fitsR r = true := by unfold fitsR; rw [hul, hvl]; simp [h1, h2]
      have HX := hide (limR_fit hf)
      have HOK := hide (show okR (some r) from ⟨h0, hf⟩)
      clear h1 h2 hf hul hvl
      go_enter Tryz.func119, Tryz.ntmps119
      go_upto_region 1 with (fail)
      generalize hW : World.alloc (World.alloc w _) _ = v
      have HF := hide (show F1 w v a (lm (rn r)) (lm r.den) by rw [← hW]; exact F1.mk0 hq _ _)
      obtain ⟨a0, a1, az, r0, r1, rf⟩ := HF.out.ca
      clear hW hq
      go_wp2_with fail
      refine bodyPost_ret (v := .tuple #[.agg #[.slice a.A a.n a.c, .slice a.B a.m a.d], .int .i64 0]) (by simp [results, Tryz.results119, go_sem, *]) rfl (HF.out.end (c := a) (by rw [HX.out]) (by rw [HX.out]; exact ⟨HF.out.q, HOK.out⟩))
    · have d2 : decide ((128 : Int) < (a.m : Int)) = true := decide_eq_true (by omega)
      have hf : fitsR r = false := by unfold fitsR; rw [hul, hvl]; simp; omega
      have HX := hide (limR_no hf)
      clear h1 h2 hf hul hvl
      go_enter Tryz.func119, Tryz.ntmps119
      go_upto_region 1 with (fail)
      generalize hW : World.alloc (World.alloc w _) _ = v
      have HF := hide (show F1 w v a (lm (rn r)) (lm r.den) by rw [← hW]; exact F1.mk0 hq _ _)
      obtain ⟨a0, a1, az, r0, r1, rf⟩ := HF.out.ca
      clear hW hq
      go_wp2_with fail
      refine bodyPost_ret (v := .tuple #[.agg #[.slice none 0 0, .slice none 0 0], .int .i64 2]) (by simp [results, Tryz.results119, go_sem, *]) rfl (HF.out.err HX.out)
  · have d1 : decide ((128 : Int) < (a.n : Int)) = true := decide_eq_true (by omega)
    have hf : fitsR r = false := by unfold fitsR; rw [hul, hvl]; simp; omega
    have HX := hide (limR_no hf)
    clear h1 hf hul hvl
    go_enter Tryz.func119, Tryz.ntmps119
    go_upto_region 1 with (fail)
    generalize hW : World.alloc (World.alloc w _) _ = v
    have HF := hide (show F1 w v a (lm (rn r)) (lm r.den) by rw [← hW]; exact F1.mk0 hq _ _)
    obtain ⟨a0, a1, az, r0, r1, rf⟩ := HF.out.ca
    clear hW hq
    go_wp2_with fail
    refine bodyPost_ret (v := .tuple #[.agg #[.slice none 0 0, .slice none 0 0], .int .i64 2]) (by simp [results, Tryz.results119, go_sem, *]) rfl (HF.out.err HX.out)
end Go.Proofs.YtnokfhkcfebimaaGreat

/- Contracts: the reference's fractions: Make, Of. -/
namespace Go.Proofs.YtnokfhkcfebimaaGreat
open Go.RowKit

theorem fits_mk {x y : Nat} (hx : (lm x).length ≤ 128) (hy : (lm y).length ≤ 128) (h0 : 0 < y) : fitsR (mkRat x y) = true := by
  unfold fitsR
  rw [mk_num x y h0, mk_den x y h0]
  have h1 := lm_length_mono (Nat.div_le_self x (Nat.gcd x y))
  have h2 := lm_length_mono (Nat.div_le_self y (Nat.gcd x y))
  simp; omega
theorem Lo.fo {w : World} {a : Fa} {r : Rat} (h : Lo w a r) (h0 : 0 ≤ r) (hf : fitsR r = true) : Fo w a (some r) := ⟨h, h0, hf⟩
set_option maxRecDepth 100000 in
set_option maxHeartbeats 8000000 in
theorem r2make_nat (w : World) (A : Option Addr) (n c : Nat) (B : Option Addr) (m d : Nat) (x y : Nat) (hU : Ul w none A n (lm x)) (hV : Ul w none B m (lm y)) (hn : n ≤ 128) (hm : m ≤ 128) (hy : 0 < y) :
    Calls Tryz.prog 124 #[.slice A n c, .slice B m d] w fun e w' => Ret w (some (mkRat x y), 0) e w' := by
  have hm0 := lm_pos_len1 hy hV.len
  have dm0 : ((m : Int) == 0) = false := by simp; omega
  have HC := hide (show natB (lm x) = true by rw [natB_lm, hU.len]; simp [hn])
  have HD := hide (show natB (lm y) = true by rw [natB_lm, hV.len]; simp [hm])
  have HF := hide (fits_mk (x := x) (y := y) (by rw [hU.len]; exact hn) (by rw [hV.len]; exact hm) hy)
  go_enter Tryz.func124, Tryz.ntmps124
  go_upto_region 1 with (fail)
  generalize hW : World.alloc w _ = v
  have HRB := hide (show Rb v w.heap.size by rw [← hW]; exact Rb.mk0 _ rfl)
  have HBV := hide (show Below w.heap.size w v by rw [← hW]; exact (Below.refl _ _).alloc (Nat.le_refl _) _)
  have HU := hide (show Ul v none A n (lm x) by rw [← hW]; exact hU.alloc _)
  have HV := hide (show Ul v none B m (lm y) by rw [← hW]; exact hV.alloc _)
  clear hW hU hV
  go_wp2_with (first
    | ((go_at_call 113; (with_reducible refine (r1check_any _ none A n c (lm x) HU.out (by omega)).mono ?_); rintro e w' ⟨rfl, hw⟩; subst w'; rw [HC.out]))
    | ((go_at_call 113; (with_reducible refine (r1check_any _ none B m d (lm y) HV.out (by omega)).mono ?_); rintro e w' ⟨rfl, hw⟩; subst w'; rw [HD.out]))
    | (go_at_call 120; (with_reducible refine (r2lowest_any _ none none A n c B m d x y HU.out HV.out (by omega) (by omega) hy).mono ?_); rintro e w5 ⟨q, rfl, ho, hb5⟩; have HO := hide ho; have HB5 := hide (HBV.out.trans (hb5.mono HBV.out.size)); have HR5 := hide (HRB.out.below hb5); obtain ⟨z0, z1, z2, z3, -⟩ := HR5.out; clear ho hb5))
  refine bodyPost_ret (v := .tuple #[.agg #[.slice q.A q.n q.c, .slice q.B q.m q.d], .int .i64 0]) (by simp [results, Tryz.results124, go_sem, *]) rfl (Ret.mk0 (x := (some (mkRat x y), 0)) rfl (HO.out.fo (mk_nonneg x y) HF.out) HR5.out HB5.out (Nat.le_refl _))
set_option maxRecDepth 100000 in
set_option maxHeartbeats 8000000 in
theorem r2of_any (w : World) (x y : Nat) (hx : x < 9223372036854775808) (hy : y < 9223372036854775808) (h0 : 0 < y) :
    Calls Tryz.prog 91 #[.int .i64 (x : Int), .int .i64 (y : Int)] w fun e w' => Ret w (some (mkRat x y), 0) e w' := by
  have hw1 : IntKind.u64.wrap (x : Int) = (x : Int) := by
    show (x : Int) % 18446744073709551616 = x
    omega
  have hw2 : IntKind.u64.wrap (y : Int) = (y : Int) := by
    show (y : Int) % 18446744073709551616 = y
    omega
  go_enter Tryz.func91, Tryz.ntmps91
  go_upto_region 1 with (fail)
  generalize hW : World.alloc w _ = v
  have HRB := hide (show Rb v w.heap.size by rw [← hW]; exact Rb.mk0 _ rfl)
  have HBV := hide (show Below w.heap.size w v by rw [← hW]; exact (Below.refl _ _).alloc (Nat.le_refl _) _)
  clear hW
  go_wp2_with (first
    | (go_at_call 86; (with_reducible refine (r1of_any _ x (by omega)).mono ?_); rintro e w1 ⟨A1, m1, c1, rfl, hc1, hm1, hu1, hb1⟩; have HU1 := hide hu1; have HB1 := hide (HBV.out.trans (hb1.mono HBV.out.size)); have HR1 := hide (HRB.out.below hb1); clear hu1 hb1)
    | (go_at_call 86; (with_reducible refine (r1of_any _ y (by omega)).mono ?_); rintro e w2 ⟨A2, m2, c2, rfl, hc2, hm2, hu2, hb2⟩; have HU2 := hide hu2; have HU1b := hide (HU1.out.below hb2); have HB2 := hide (HB1.out.trans (hb2.mono HB1.out.size)); have HR2 := hide (HR1.out.below hb2); clear hu2 hb2)
    | (go_at_call 124; (with_reducible refine (r2make_nat _ A1 m1 c1 A2 m2 c2 x y HU1b.out HU2.out (by omega) (by omega) h0).mono ?_); rintro e w5 ⟨q, rfl, ho, hb5⟩; have HO := hide ho; have HB5 := hide (HB2.out.trans (hb5.mono HB2.out.size)); have HR5 := hide (HR2.out.below hb5); obtain ⟨z0, z1, z2, z3, -⟩ := HR5.out; clear ho hb5))
  refine bodyPost_ret (v := .tuple #[.agg #[.slice q.A q.n q.c, .slice q.B q.m q.d], .int .i64 0]) (by simp [results, Tryz.results91, go_sem, *]) rfl (Ret.mk0 (x := (some (mkRat x y), 0)) rfl HO.out HR5.out HB5.out (Nat.le_refl _))
end Go.Proofs.YtnokfhkcfebimaaGreat

/- Contracts: the reference's fractions: Check. -/
namespace Go.Proofs.YtnokfhkcfebimaaGreat
open Go.RowKit

/-- One operand's box at the world's end. -/
structure F0 (w0 v : World) (a : Fa) (l k : List Nat) : Prop where
  bw : Below w0.heap.size w0 v
  c0 : v.cell? ⟨w0.heap.size, 0, none⟩ = some (.slice a.A a.n a.c)
  c1 : v.cell? ⟨w0.heap.size, 1, none⟩ = some (.slice a.B a.m a.d)
  sz : w0.heap.size < v.heap.size
  q : Fq v a l k
theorem F0.mk0 {w0 : World} {a : Fa} {l k : List Nat} (h : Fq w0 a l k) (t : TypeId) : F0 w0 (w0.alloc (.cells #[.slice a.A a.n a.c, .slice a.B a.m a.d] t)) a l k :=
  ⟨(Below.refl _ _).alloc (Nat.le_refl _) _, by simp [go_sem], by simp [go_sem], by simp, h.alloc _⟩
theorem ul_lm1 (w : World) (t : TypeId) : Ul (w.alloc (.cells #[.int .u32 1] t)) none (some ⟨w.heap.size, 0, none⟩) 1 (lm 1) := by
  rw [lm_one]
  exact ul_one (x := 1) (by omega) t rfl
set_option maxRecDepth 100000 in
set_option maxHeartbeats 8000000 in
theorem r2check_any (w : World) (a : Fa) (l k : List Nat) (hq : Fq w a l k) :
    Calls Tryz.prog 84 #[.agg #[.slice a.A a.n a.c, .slice a.B a.m a.d]] w fun e w' => e = .returned (.bool (fracOf l k).isSome) ∧ Below w.heap.size w w' := by
  have hqn := hq.n
  have hqm := hq.m
  by_cases h1 : natB l = false
  · have HF := hide (fracOf_false (l := l) (k := k) (.inl h1))
    have HB := hide h1
    clear h1
    go_enter Tryz.func84, Tryz.ntmps84
    go_upto_region 1 with (fail)
    generalize hW : World.alloc w _ = v
    have HQ := hide (show F0 w v a l k by rw [← hW]; exact F0.mk0 hq _)
    have hc0 := HQ.out.c0
    have hc1 := HQ.out.c1
    clear hW hq
    go_wp2_with ((go_at_call 113; (with_reducible refine (r1check_any _ none a.A a.n a.c l HQ.out.q.u (by omega)).mono ?_); rintro e w' ⟨rfl, hw⟩; subst w'; rw [HB.out]))
    refine bodyPost_ret (v := .bool false) (by simp [results, Tryz.results84, go_sem, *]) rfl ⟨by rw [HF.out]; rfl, HQ.out.bw⟩
  · have h1' : natB l = true := by simpa using h1
    by_cases h2 : natB k = false
    · have HF := hide (fracOf_false (l := l) (.inr (.inl h2)))
      have HB := hide h1'
      have HC := hide h2
      clear h1 h1' h2
      go_enter Tryz.func84, Tryz.ntmps84
      go_upto_region 1 with (fail)
      generalize hW : World.alloc w _ = v
      have HQ := hide (show F0 w v a l k by rw [← hW]; exact F0.mk0 hq _)
      have hc0 := HQ.out.c0
      have hc1 := HQ.out.c1
      clear hW hq
      go_wp2_with (first | ((go_at_call 113; (with_reducible refine (r1check_any _ none a.A a.n a.c l HQ.out.q.u (by omega)).mono ?_); rintro e w' ⟨rfl, hw⟩; subst w'; rw [HB.out])) | ((go_at_call 113; (with_reducible refine (r1check_any _ none a.B a.m a.d k HQ.out.q.v (by omega)).mono ?_); rintro e w' ⟨rfl, hw⟩; subst w'; rw [HC.out])))
      refine bodyPost_ret (v := .bool false) (by simp [results, Tryz.results84, go_sem, *]) rfl ⟨by rw [HF.out]; rfl, HQ.out.bw⟩
    · have h2' : natB k = true := by simpa using h2
      have HB := hide h1'
      have HC := hide h2'
      have hl := (natB_iff.1 h1').2
      have hk := (natB_iff.1 h2').2
      have HL := hide hl
      have HK := hide hk
      by_cases h0 : a.m = 0
      · have hk0 : k = [] := List.eq_nil_of_length_eq_zero (hq.v.len.trans h0)
        have HF := hide (fracOf_false (l := l) (.inr (.inr hk0)))
        have d0 : decide ((0 : Int) < (a.m : Int)) = false := decide_eq_false (by omega)
        have d0' : decide (0 < a.m) = false := decide_eq_false (by omega)
        clear h0 h1 h1' h2 h2' hl hk
        go_enter Tryz.func84, Tryz.ntmps84
        go_upto_region 1 with (fail)
        generalize hW : World.alloc w _ = v
        have HQ := hide (show F0 w v a l k by rw [← hW]; exact F0.mk0 hq _)
        have hc0 := HQ.out.c0
        have hc1 := HQ.out.c1
        clear hW hq
        go_wp2_with (first | ((go_at_call 113; (with_reducible refine (r1check_any _ none a.A a.n a.c l HQ.out.q.u (by omega)).mono ?_); rintro e w' ⟨rfl, hw⟩; subst w'; rw [HB.out])) | ((go_at_call 113; (with_reducible refine (r1check_any _ none a.B a.m a.d k HQ.out.q.v (by omega)).mono ?_); rintro e w' ⟨rfl, hw⟩; subst w'; rw [HC.out])))
        refine bodyPost_ret (v := .bool false) (by simp [results, Tryz.results84, go_sem, *]) rfl ⟨by rw [HF.out]; rfl, HQ.out.bw⟩
      · have hk0 : lv k ≠ 0 := by
          intro h
          apply h0
          have := hq.v.len
          rw [hk, h, lm_zero] at this
          exact this.symm
        have d0 : decide ((0 : Int) < (a.m : Int)) = true := decide_eq_true (by omega)
        have d0' : decide (0 < a.m) = true := decide_eq_true (by omega)
        have HF := hide (show (fracOf l k).isSome = (cmpN (Nat.gcd (lv l) (lv k)) 1 == 0) by
          unfold fracOf
          by_cases hg : Nat.gcd (lv l) (lv k) = 1
          · rw [if_pos ⟨h1', h2', hk0, hg⟩, hg, cmpN_eq]; rfl
          · rw [if_neg (fun h => hg h.2.2.2)]
            have : cmpN (Nat.gcd (lv l) (lv k)) 1 ≠ 0 := fun h => hg (cmpN_zero.1 h)
            simp [this])
        have hkp := Nat.pos_of_ne_zero hk0
        have hn128 : a.n ≤ 128 := by have h3 := (natB_iff.1 h1').1; have h4 := hq.u.len; omega
        have hm128 : a.m ≤ 128 := by have h3 := (natB_iff.1 h2').1; have h4 := hq.v.len; omega
        have hgl : Nat.gcd (lv l) (lv k) ≤ lv k := Nat.le_of_dvd hkp (Nat.gcd_dvd_right _ _)
        have HG := hide (show (lm (Nat.gcd (lv l) (lv k))).length ≤ 1000 by
          have := lm_length_mono hgl
          rw [← hk, hq.v.len] at this
          omega)
        clear h1 h1' h2 h2' hl hk hk0 h0
        go_enter Tryz.func84, Tryz.ntmps84
        go_upto_region 1 with (fail)
        generalize hW : World.alloc w _ = v
        have HQ := hide (show F0 w v a l k by rw [← hW]; exact F0.mk0 hq _)
        have hc0 := HQ.out.c0
        have hc1 := HQ.out.c1
        clear hW hq
        have HLK := hide (show Ul v none a.A a.n (lm (lv l)) ∧ Ul v none a.B a.m (lm (lv k)) from ⟨by rw [← HL.out]; exact HQ.out.q.u, by rw [← HK.out]; exact HQ.out.q.v⟩)
        go_wp2_with (first
          | ((go_at_call 113; (with_reducible refine (r1check_any _ none a.A a.n a.c l HQ.out.q.u (by omega)).mono ?_); rintro e w' ⟨rfl, hw⟩; subst w'; rw [HB.out]))
          | ((go_at_call 113; (with_reducible refine (r1check_any _ none a.B a.m a.d k HQ.out.q.v (by omega)).mono ?_); rintro e w' ⟨rfl, hw⟩; subst w'; rw [HC.out]))
          | (go_at_call 115; (with_reducible refine (r1common_any _ none none a.A a.n a.c a.B a.m a.d (lv l) (lv k) HLK.out.1 HLK.out.2 (by omega) (by omega)).mono ?_); rintro e w1 ⟨A1, m1, c1, rfl, hc1, hu1, hb1⟩; have HU1 := hide hu1; have HM1 := hide (show m1 ≤ 1000 by rw [← hu1.len]; exact HG.out); have HB1 := hide (HQ.out.bw.trans (hb1.mono HQ.out.bw.size)); clear hu1 hb1)
          | (go_at_call 114; (with_reducible refine (r1order_any _ none none A1 m1 c1 _ 1 1 (Nat.gcd (lv l) (lv k)) 1 (HU1.out.alloc _) (ul_lm1 _ _) (Nat.le_trans HM1.out (by omega)) (by omega)).mono ?_); rintro e w3 ⟨rfl, hd⟩; have HB3 := hide ((HB1.out.alloc HB1.out.size _).trans (hd.below.mono (by have := HB1.out.size; simp; omega))); clear hd))
        refine bodyPost_ret (v := .bool (cmpN (Nat.gcd (lv l) (lv k)) 1 == 0)) (by simp [results, Tryz.results84, go_sem, *]) rfl ⟨by rw [HF.out], HB3.out⟩
end Go.Proofs.YtnokfhkcfebimaaGreat

/- Contracts: the reference's fractions: order, Compare. -/
namespace Go.Proofs.YtnokfhkcfebimaaGreat
open Go.RowKit

set_option maxRecDepth 100000 in
set_option maxHeartbeats 8000000 in
theorem r2order_any (w : World) (a b : Fa) (r s : Rat) (hr0 : 0 ≤ r) (hs0 : 0 ≤ s) (hr : fitsR r = true) (hs : fitsR s = true) (ha : Lo w a r) (hb : Lo w b s) :
    Calls Tryz.prog 112 #[.agg #[.slice a.A a.n a.c, .slice a.B a.m a.d], .agg #[.slice b.A b.n b.c, .slice b.B b.m b.d]] w fun e w' => e = .returned (.int .i64 (cmpQ r s)) ∧ Below w.heap.size w w' := by
  obtain ⟨hn1, hn2⟩ := Fq.small ha hr
  obtain ⟨hn3, hn4⟩ := Fq.small hb hs
  have HC := hide (cmp_eq hr0 hs0)
  have hL1 : (lm (rn r)).length ≤ 1000 := by rw [ha.u.len]; omega
  have hL2 : (lm r.den).length ≤ 1000 := by rw [ha.v.len]; omega
  have hL3 : (lm (rn s)).length ≤ 1000 := by rw [hb.u.len]; omega
  have hL4 : (lm s.den).length ≤ 1000 := by rw [hb.v.len]; omega
  unfold Lo at ha hb
  go_enter Tryz.func112, Tryz.ntmps112
  go_upto_region 1 with (fail)
  generalize hW : World.alloc (World.alloc w _) _ = v
  have HFB := hide (show Fb w v a b _ _ _ _ by rw [← hW]; exact Fb.mk0 ha hb _ _)
  obtain ⟨a0, a1, b0, b1⟩ := HFB.out.ca
  have hz := HFB.out.sz
  clear hW ha hb
  go_region_held3 (fun W => (W.cell? ⟨w.heap.size, 0, none⟩ = some (.slice a.A a.n a.c) ∧ W.cell? ⟨w.heap.size, 1, none⟩ = some (.slice a.B a.m a.d) ∧ W.cell? ⟨w.heap.size + 1, 0, none⟩ = some (.slice b.A b.n b.c) ∧ W.cell? ⟨w.heap.size + 1, 1, none⟩ = some (.slice b.B b.m b.d))) (first | with_reducible exact k4 | with_reducible exact k2 | with_reducible exact k1 | exact ⟨a0, a1, b0, b1⟩) (first
    | (go_at_call 121; (with_reducible refine (r1times_any _ none none a.A a.n a.c b.B b.m b.d (rn r) s.den (by first | exact HFB.out.qa.u | exact HFB.out.drew.qa.u) (by first | exact HFB.out.qb.v | exact HFB.out.drew.qb.v) (by omega) (by omega)).mono ?_); rintro e w1 ⟨A1, m1, c1, rfl, hc1, hu1, hb1⟩; have hl1 := lm_length_mul (rn r) s.den; rw [hu1.len] at hl1; have hM1 : m1 ≤ 2000 := (by omega); have HU1 := hide hu1; have HF1 := hide ((by first | exact HFB.out.below hb1 | exact HFB.out.drew.below hb1) : Fb w w1 a b _ _ _ _); have k1 := HF1.out.ca; clear hu1 hb1)
    | (go_at_call 121; (with_reducible refine (r1times_any _ none none b.A b.n b.c a.B a.m a.d (rn s) r.den (by first | exact HF1.out.qb.u | exact HF1.out.drew.qb.u) (by first | exact HF1.out.qa.v | exact HF1.out.drew.qa.v) (by omega) (by omega)).mono ?_); rintro e w2 ⟨A2, m2, c2, rfl, hc2, hu2, hb2⟩; have hl2 := lm_length_mul (rn s) r.den; rw [hu2.len] at hl2; have hM2 : m2 ≤ 2000 := (by omega); have HU2 := hide hu2; have HU1b := hide (HU1.out.below hb2); have HF2 := hide (HF1.out.below hb2); have k2 := HF2.out.ca; clear hu2 hb2)
    | (go_at_call 114; (with_reducible refine (r1order_any _ none none A1 m1 c1 A2 m2 c2 _ _ HU1b.out HU2.out (by omega) (by omega)).mono ?_); rintro e w4 ⟨he, hd⟩; rw [HC.out] at he; subst he; have HD := hide (HF2.out.below hd.below); have k4 := HD.out.ca; clear hd))
  go_wp2_with fail
  refine bodyPost_ret (v := .int .i64 (cmpQ r s)) (by simp [results, Tryz.results112, go_sem, *]) rfl ⟨rfl, HD.out.bw⟩
set_option maxRecDepth 100000 in
set_option maxHeartbeats 8000000 in
theorem r2cmp_any (w : World) (a b : Fa) (l k l' k' : List Nat) (ha : Fq w a l k) (hb : Fq w b l' k') :
    Calls Tryz.prog 83 #[.agg #[.slice a.A a.n a.c, .slice a.B a.m a.d], .agg #[.slice b.A b.n b.c, .slice b.B b.m b.d]] w fun e w' => e = .returned (.int .i64 (cmpO (fracOf l k) (fracOf l' k'))) ∧ Below w.heap.size w w' := by
  rcases hA : fracOf l k with _ | r
  · have HA := hide hA
    clear hA
    go_enter Tryz.func83, Tryz.ntmps83
    go_upto_region 1 with (fail)
    generalize hW : World.alloc (World.alloc w _) _ = v
    have HFB := hide (show Fb w v a b _ _ _ _ by rw [← hW]; exact Fb.mk0 ha hb _ _)
    obtain ⟨a0, a1, b0, b1⟩ := HFB.out.ca
    have hz := HFB.out.sz
    clear hW ha hb
    go_wp2_with ((go_at_call 84; (with_reducible refine (r2check_any _ a l k HFB.out.qa).mono ?_); rintro e w1 ⟨he, hb1⟩; rw [HA.out] at he; subst he; have HF1 := hide (HFB.out.below hb1); obtain ⟨c0, c1, c2, c3⟩ := HF1.out.ca; clear hb1))
    refine bodyPost_ret (v := .int .i64 0) (by simp [results, Tryz.results83, go_sem, *]) rfl ⟨by rw [cmpO_none_l], HF1.out.bw⟩
  · rcases hB : fracOf l' k' with _ | s
    · have HA := hide hA
      have HB := hide hB
      clear hA hB
      go_enter Tryz.func83, Tryz.ntmps83
      go_upto_region 1 with (fail)
      generalize hW : World.alloc (World.alloc w _) _ = v
      have HFB := hide (show Fb w v a b _ _ _ _ by rw [← hW]; exact Fb.mk0 ha hb _ _)
      obtain ⟨a0, a1, b0, b1⟩ := HFB.out.ca
      have hz := HFB.out.sz
      clear hW ha hb
      go_wp2_with (first | (go_at_call 84; (with_reducible refine (r2check_any _ a l k HFB.out.qa).mono ?_); rintro e w1 ⟨he, hb1⟩; rw [HA.out] at he; subst he; have HF1 := hide (HFB.out.below hb1); obtain ⟨c0, c1, c2, c3⟩ := HF1.out.ca; clear hb1) | (go_at_call 84; (with_reducible refine (r2check_any _ b l' k' HF1.out.qb).mono ?_); rintro e w2 ⟨he, hb2⟩; rw [HB.out] at he; subst he; have HF2 := hide (HF1.out.below hb2); obtain ⟨e0, e1, e2, e3⟩ := HF2.out.ca; clear hb2))
      refine bodyPost_ret (v := .int .i64 0) (by simp [results, Tryz.results83, go_sem, *]) rfl ⟨by rw [cmpO_none_r], HF2.out.bw⟩
    · have HA := hide hA
      have HB := hide hB
      obtain ⟨rfl, rfl, hr0, hr⟩ := fracOf_some hA
      obtain ⟨rfl, rfl, hs0, hs⟩ := fracOf_some hB
      obtain ⟨hz1, hz2⟩ := Fq.small ha hr
      obtain ⟨hz3, hz4⟩ := Fq.small hb hs
      clear hA hB
      go_enter Tryz.func83, Tryz.ntmps83
      go_upto_region 1 with (fail)
      generalize hW : World.alloc (World.alloc w _) _ = v
      have HFB := hide (show Fb w v a b _ _ _ _ by rw [← hW]; exact Fb.mk0 ha hb _ _)
      obtain ⟨a0, a1, b0, b1⟩ := HFB.out.ca
      have hz := HFB.out.sz
      clear hW ha hb
      go_wp2_with (first
        | (go_at_call 84; (with_reducible refine (r2check_any _ a _ _ HFB.out.qa).mono ?_); rintro e w1 ⟨he, hb1⟩; rw [HA.out] at he; subst he; have HF1 := hide (HFB.out.below hb1); obtain ⟨c0, c1, c2, c3⟩ := HF1.out.ca; clear hb1)
        | (go_at_call 84; (with_reducible refine (r2check_any _ b _ _ HF1.out.qb).mono ?_); rintro e w2 ⟨he, hb2⟩; rw [HB.out] at he; subst he; have HF2 := hide (HF1.out.below hb2); obtain ⟨e0, e1, e2, e3⟩ := HF2.out.ca; clear hb2)
        | (go_at_call 112; refine (r2order_any _ a b r s hr0 hs0 hr hs HF2.out.qa HF2.out.qb).mono ?_; rintro e w3 ⟨rfl, hb3⟩; have HF3 := hide (HF2.out.below hb3); clear hb3))
      refine bodyPost_ret (v := .int .i64 (cmpQ r s)) (by simp [results, Tryz.results83, go_sem, *]) rfl ⟨rfl, HF3.out.bw⟩
end Go.Proofs.YtnokfhkcfebimaaGreat
