/- Contracts of the functions that these laws reach: part 3: Contracts: the reference's trim, Of; Contracts: limbs.Add; Contracts: limbs.Sub; Contracts: limbs.Mul; Contracts: limbs.Small, shift, unshift. -/
import Derived.Test.YtnokfhkcfebimaaGreatP2
import Derived.Deep.RegionHeld3
import Derived.Laws.BitsAllLaws
import Derived.Laws.Shifts
import Derived.Deep.Cut
set_option linter.unusedVariables false
set_option linter.unusedSimpArgs false

/- Contracts: the reference's trim, Of. -/
namespace Go.Proofs.YtnokfhkcfebimaaGreat
open Go.RowKit

set_option maxRecDepth 100000 in
set_option maxHeartbeats 4000000 in
theorem r1trim_any (w : World) (av : Option Nat) (A : Option Addr) (n c : Nat) (l : List Nat) (hU : Ul w av A n l) (hc : n ≤ c) (hc63 : n ≤ 4294967296) :
    Calls Tryz.prog 116 #[.slice A n c] w fun e w' => ∃ A' m c', e = .returned (.slice A' m c') ∧ m ≤ n ∧ OF w w' A' m c' (lm (lv l)) := by
  have HU := hide hU
  have HE := hide (show lv (l.take n) = lv l by rw [List.take_of_length_le (by have := hU.len; omega)])
  clear hU
  go_enter Tryz.func116, Tryz.ntmps116
  go_wp2
  go_loop [3] (fun v => ∃ k : Nat, k ≤ n ∧ v = .int .i64 (k : Int) ∧ Hid (lv (l.take k) = lv l)) (fun v => (intOf v).toNat)
  case atStart => exact ⟨n, Nat.le_refl _, rfl, HE⟩
  case round =>
    obtain ⟨k, hk, rfl, HK⟩ := hrel
    by_cases hk0 : k = 0
    · subst hk0
      have e : lm (lv l) = [] := by rw [← HK.out]; simp [lv, lm_zero]
      have HEE := hide e
      clear e
      go_wp2_with (at_builtin; refine wl_appall_u32 (w0 := w) rfl _ _ _ Tryz.underlying24 rfl none 0 0 [] av _ 0 c [] rfl rfl (OF.nil (Fr.refl w _)) Ul.nil (by omega) ?_; intro A' c' w' ho; have HO := hide ho; clear ho)
      go_ret
      exact ⟨A', 0, c', rfl, by omega, by rw [HEE.out]; exact HO.out⟩
    · obtain ⟨j, rfl⟩ : ∃ j, k = j + 1 := ⟨k - 1, by omega⟩
      obtain ⟨b, o, x, rfl, -, -, hx, hxl, hcell⟩ := HU.out.at (k := j) (by omega)
      have HX := hide hx
      clear hx
      have g1 : (0 : Int) ≤ (j : Int) := by omega
      have g2 : decide ((0 : Int) < (j : Int) + 1) = true := decide_eq_true (by omega)
      have g3 : (j : Int) < (n : Int) := by omega
      by_cases hx0 : x = 0
      · subst hx0
        go_wp2
        go_round
        case rel => exact ⟨j, by omega, by go_num, hide ((lv_take_zero HX.out).symm.trans HK.out)⟩
        case measure => simp [intOf] <;> omega
      · have hxd : ((x : Int) == 0) = false := by simp; omega
        have e := take_eq_lm HU.out.ok (by have := HU.out.len; omega) HK.out (.inr ⟨x, HX.out, hx0⟩)
        have HEE := hide e
        have HT := hide (HU.out.take (k := j + 1) (by omega))
        clear e
        go_wp2_with (at_builtin; refine wl_appall_u32 (w0 := w) rfl _ _ _ Tryz.underlying24 rfl none 0 0 [] av _ (j + 1) c (l.take (j + 1)) rfl rfl (OF.nil (Fr.refl w _)) HT.out (by omega) ?_; intro A' c' w' ho; have HO := hide ho; clear ho)
        go_ret
        have ho := HO.out
        rw [Nat.zero_add, List.nil_append] at ho
        exact ⟨A', j + 1, c', rfl, by omega, by rw [← HEE.out]; exact ho⟩
set_option maxHeartbeats 1000000 in
theorem r1of_any (w : World) (n : Nat) (hn : n < 18446744073709551616) :
    Calls Tryz.prog 86 #[.int .u64 (n : Int)] w fun e w' => ∃ A m c, e = .returned (.slice A m c) ∧ m ≤ c ∧ m ≤ 2 ∧ Ul w' none A m (lm n) ∧ Below w.heap.size w w' := by
  have HT := hide (ul_two (w := w) n hn)
  go_enter Tryz.func86, Tryz.ntmps86
  go_wp2_with (go_at_call 116; refine (r1trim_any _ none _ 2 2 _ HT.out (by omega) (by omega)).mono ?_; rintro e w' ⟨A, m, c, rfl, hm2, ho⟩; rw [lv_two] at ho)
  go_ret
  exact ⟨_, m, _, by rfl, ho.cap, hm2, ho.ul, ((Below.refl _ _).alloc (Nat.le_refl _) _).trans ((ho.fr.below (Nat.le_refl _) (fun _ _ h => h)).mono (by simp))⟩
end Go.Proofs.YtnokfhkcfebimaaGreat

/- Contracts: limbs.Add. -/
namespace Go.Proofs.YtnokfhkcfebimaaGreat
open Go.RowKit

theorem vint {k : IntKind} {a b : Int} (h : a = b) : Value.int k a = Value.int k b := by rw [h]
theorem getD_some {l : List Nat} {k x : Nat} (h : l[k]? = some x) : l[k]?.getD 0 = x := by rw [h]; rfl
theorem getD_none {l : List Nat} {k : Nat} (h : l.length ≤ k) : l[k]?.getD 0 = 0 := by rw [List.getElem?_eq_none h]; rfl
/-- What the sum of two numbers is at the end of the loop. -/
theorem add_end {o : List Nat} {x y n c : Nat} (hl : o.length = n) (hx : (lm x).length = n) (hy : (lm y).length ≤ n) (h : lv o + 4294967296 ^ n * c = lv ((lm x).take n) + lv ((lm y).take n)) : lv (o ++ [c]) = x + y := by
  rw [List.take_of_length_le (by omega), List.take_of_length_le (by omega), lv_lm, lv_lm] at h
  rw [lv_snoc, hl, h]
set_option maxRecDepth 100000 in
set_option maxHeartbeats 2000000 in
theorem ladd_any (w : World) (av av' : Option Nat) (A : Option Addr) (n c : Nat) (B : Option Addr) (m d : Nat) (x y : Nat) (hU : Ul w av A n (lm x)) (hV : Ul w av' B m (lm y)) (hn : n ≤ 1000000) (hm : m ≤ 1000000) :
    Calls Tryz.prog 139 #[.slice A n c, .slice B m d] w fun e w' => ∃ A' m' c', e = .returned (.slice A' m' c') ∧ m' ≤ c' ∧ Ul w' none A' m' (lm (x + y)) ∧ Below w.heap.size w w' := by
  have HU := hide hU
  have HV := hide hV
  clear hU hV
  by_cases hlt : n < m
  · rw [Nat.add_comm x y]
    go_enter Tryz.func139, Tryz.ntmps139
    go_wp2_with (at_make; refine wl_make_u32 (w0 := w) rfl _ _ _ Tryz.underlying23 rfl 0 (m + 1) _ _ rfl rfl rfl (by omega) (by omega) (by omega) (Fr.refl _ _) ?_; intro w1 ho1 hs1 hb1; have HO1 := hide ho1; clear ho1 hb1)
    go_loopw [5, 6, 23] (fun out carry i wr => ∃ (k c : Nat) (A' : Option Addr) (c' : Nat) (o : List Nat), k ≤ m ∧ c ≤ 1 ∧ out = .slice A' k c' ∧ carry = .int .u64 (c : Int) ∧ i = .int .i64 k ∧ Hid (OF w wr A' k c' o) ∧ Hid (lv o + 4294967296 ^ k * c = lv ((lm y).take k) + lv ((lm x).take k))) (fun _ _ i _ => m - (intOf i).toNat)
    case atStart => exact ⟨0, 0, _, _, [], by omega, by omega, rfl, rfl, rfl, HO1, hide (by simp [lv])⟩
    case round =>
      obtain ⟨k, c, A', c', o, hk, hc1, rfl, rfl, rfl, HO, HI⟩ := hrel
      by_cases hkn : k < m
      · obtain ⟨b1, o1, p, rfl, -, -, hp, hpl, hcell⟩ := (HV.out.frF HO.out.fr).at hkn
        have HP := hide (getD_some hp)
        clear hp
        have g1 : (0 : Int) ≤ (k : Int) := by omega
        have g2 : (k : Int) < (m : Int) := by omega
        by_cases hkm : k < n
        · obtain ⟨b2, o2, q, rfl, -, -, hq, hql, hcell2⟩ := (HU.out.frF HO.out.fr).at hkm
          have HQ := hide (getD_some hq)
          clear hq
          have g3 : (k : Int) < (n : Int) := by omega
          have g4 : decide ((k : Int) < (n : Int)) = true := decide_eq_true g3
          go_wp2_with (at_builtin; refine wl_app_u32 (w0 := w) rfl _ _ _ Tryz.underlying23 rfl A' k c' o ((p + c + q) % 4294967296) _ (by omega) (by omega) rfl rfl HO.out (by omega) ?_; intro A2 c2 w2 ho2; have HO2 := hide ho2; clear ho2)
          go_roundw
          case rel => exact ⟨k + 1, (p + c + q) / 4294967296, A2, c2, _, by omega, by omega, rfl, vint (by omega), by go_num, HO2, hide (add_step HO.out.len HI.out (by rw [HP.out, HQ.out]))⟩
          case measure => simp [intOf] <;> omega
        · have g4 : decide ((k : Int) < (n : Int)) = false := decide_eq_false (by omega)
          have HQ := hide (getD_none (l := lm x) (k := k) (by have := HU.out.len; omega))
          go_wp2_with (at_builtin; refine wl_app_u32 (w0 := w) rfl _ _ _ Tryz.underlying23 rfl A' k c' o ((p + c) % 4294967296) _ (by omega) (by omega) rfl rfl HO.out (by omega) ?_; intro A2 c2 w2 ho2; have HO2 := hide ho2; clear ho2)
          go_roundw
          case rel => exact ⟨k + 1, (p + c) / 4294967296, A2, c2, _, by omega, by omega, rfl, vint (by omega), by go_num, HO2, hide (add_step (s := p + c) HO.out.len HI.out (by rw [HP.out, HQ.out]; omega))⟩
          case measure => simp [intOf] <;> omega
      · obtain rfl : k = m := by omega
        have HE := hide (add_end HO.out.len HV.out.len (by have := HU.out.len; omega) HI.out)
        go_wp2_with (first
          | (at_builtin; refine wl_app_u32 (w0 := w) rfl _ _ _ Tryz.underlying23 rfl A' k c' o c _ (by omega) (by omega) rfl rfl HO.out (by omega) ?_; intro A2 c2 w2 ho2; have HO2 := hide ho2; clear ho2)
          | (go_at_call 138; refine (trim_any _ none _ _ _ _ HO2.out.ul HO2.out.cap (by omega)).mono ?_; rintro e w3 ⟨m3, rfl, hm3, hu3, rfl⟩; rw [HE.out] at hu3; have hcap := HO2.out.cap))
        go_ret
        exact ⟨_, _, _, rfl, by omega, hu3, fr_below HO2.out.fr⟩
  · go_enter Tryz.func139, Tryz.ntmps139
    go_wp2_with (at_make; refine wl_make_u32 (w0 := w) rfl _ _ _ Tryz.underlying23 rfl 0 (n + 1) _ _ rfl rfl rfl (by omega) (by omega) (by omega) (Fr.refl _ _) ?_; intro w1 ho1 hs1 hb1; have HO1 := hide ho1; clear ho1 hb1)
    go_loopw [5, 6, 23] (fun out carry i wr => ∃ (k c : Nat) (A' : Option Addr) (c' : Nat) (o : List Nat), k ≤ n ∧ c ≤ 1 ∧ out = .slice A' k c' ∧ carry = .int .u64 (c : Int) ∧ i = .int .i64 k ∧ Hid (OF w wr A' k c' o) ∧ Hid (lv o + 4294967296 ^ k * c = lv ((lm x).take k) + lv ((lm y).take k))) (fun _ _ i _ => n - (intOf i).toNat)
    case atStart => exact ⟨0, 0, _, _, [], by omega, by omega, rfl, rfl, rfl, HO1, hide (by simp [lv])⟩
    case round =>
      obtain ⟨k, c, A', c', o, hk, hc1, rfl, rfl, rfl, HO, HI⟩ := hrel
      by_cases hkn : k < n
      · obtain ⟨b1, o1, p, rfl, -, -, hp, hpl, hcell⟩ := (HU.out.frF HO.out.fr).at hkn
        have HP := hide (getD_some hp)
        clear hp
        have g1 : (0 : Int) ≤ (k : Int) := by omega
        have g2 : (k : Int) < (n : Int) := by omega
        by_cases hkm : k < m
        · obtain ⟨b2, o2, q, rfl, -, -, hq, hql, hcell2⟩ := (HV.out.frF HO.out.fr).at hkm
          have HQ := hide (getD_some hq)
          clear hq
          have g3 : (k : Int) < (m : Int) := by omega
          have g4 : decide ((k : Int) < (m : Int)) = true := decide_eq_true g3
          go_wp2_with (at_builtin; refine wl_app_u32 (w0 := w) rfl _ _ _ Tryz.underlying23 rfl A' k c' o ((p + c + q) % 4294967296) _ (by omega) (by omega) rfl rfl HO.out (by omega) ?_; intro A2 c2 w2 ho2; have HO2 := hide ho2; clear ho2)
          go_roundw
          case rel => exact ⟨k + 1, (p + c + q) / 4294967296, A2, c2, _, by omega, by omega, rfl, vint (by omega), by go_num, HO2, hide (add_step HO.out.len HI.out (by rw [HP.out, HQ.out]))⟩
          case measure => simp [intOf] <;> omega
        · have g4 : decide ((k : Int) < (m : Int)) = false := decide_eq_false (by omega)
          have HQ := hide (getD_none (l := lm y) (k := k) (by have := HV.out.len; omega))
          go_wp2_with (at_builtin; refine wl_app_u32 (w0 := w) rfl _ _ _ Tryz.underlying23 rfl A' k c' o ((p + c) % 4294967296) _ (by omega) (by omega) rfl rfl HO.out (by omega) ?_; intro A2 c2 w2 ho2; have HO2 := hide ho2; clear ho2)
          go_roundw
          case rel => exact ⟨k + 1, (p + c) / 4294967296, A2, c2, _, by omega, by omega, rfl, vint (by omega), by go_num, HO2, hide (add_step (s := p + c) HO.out.len HI.out (by rw [HP.out, HQ.out]; omega))⟩
          case measure => simp [intOf] <;> omega
      · obtain rfl : k = n := by omega
        have HE := hide (add_end HO.out.len HU.out.len (by have := HV.out.len; omega) HI.out)
        go_wp2_with (first
          | (at_builtin; refine wl_app_u32 (w0 := w) rfl _ _ _ Tryz.underlying23 rfl A' k c' o c _ (by omega) (by omega) rfl rfl HO.out (by omega) ?_; intro A2 c2 w2 ho2; have HO2 := hide ho2; clear ho2)
          | (go_at_call 138; refine (trim_any _ none _ _ _ _ HO2.out.ul HO2.out.cap (by omega)).mono ?_; rintro e w3 ⟨m3, rfl, hm3, hu3, rfl⟩; rw [HE.out] at hu3; have hcap := HO2.out.cap))
        go_ret
        exact ⟨_, _, _, rfl, by omega, hu3, fr_below HO2.out.fr⟩
end Go.Proofs.YtnokfhkcfebimaaGreat

/- Contracts: limbs.Sub. -/
namespace Go.Proofs.YtnokfhkcfebimaaGreat
open Go.RowKit

/-- The digit and the borrow of a difference in 64 bits. -/
theorem sub_dig {p b q : Nat} (hp : p < 4294967296) (hb : b ≤ 1) (hq : q < 4294967296) : ∃ d w : Nat, d < 4294967296 ∧ w ≤ 1 ∧ IntKind.u64.wrap (IntKind.u64.wrap ((p : Int) - (b : Int)) - (q : Int)) % 4294967296 = (d : Int) ∧
    IntKind.u64.wrap (IntKind.u64.wrap ((p : Int) - (b : Int)) - (q : Int)) / 9223372036854775808 = (w : Int) ∧ d + b + q = p + 4294967296 * w := by
  simp only [IntKind.wrap_u64]
  by_cases h : b + q ≤ p
  · exact ⟨p - b - q, 0, by omega, by omega, by omega, by omega, by omega⟩
  · exact ⟨p + 4294967296 - b - q, 1, by omega, by omega, by omega, by omega, by omega⟩
theorem sub_dig0 {p b : Nat} (hp : p < 4294967296) (hb : b ≤ 1) : ∃ d w : Nat, d < 4294967296 ∧ w ≤ 1 ∧ IntKind.u64.wrap ((p : Int) - (b : Int)) % 4294967296 = (d : Int) ∧
    IntKind.u64.wrap ((p : Int) - (b : Int)) / 9223372036854775808 = (w : Int) ∧ d + b + 0 = p + 4294967296 * w := by
  simp only [IntKind.wrap_u64]
  by_cases h : b ≤ p
  · exact ⟨p - b, 0, by omega, by omega, by omega, by omega, by omega⟩
  · exact ⟨p + 4294967296 - b, 1, by omega, by omega, by omega, by omega, by omega⟩
set_option maxRecDepth 100000 in
set_option maxHeartbeats 2000000 in
theorem lsub_any (w : World) (av av' : Option Nat) (A : Option Addr) (n c : Nat) (B : Option Addr) (m d : Nat) (x y : Nat) (hU : Ul w av A n (lm x)) (hV : Ul w av' B m (lm y)) (hn : n ≤ 1000000) (hm : m ≤ 1000000) (hyx : y ≤ x) :
    Calls Tryz.prog 141 #[.slice A n c, .slice B m d] w fun e w' => ∃ A' m' c', e = .returned (.slice A' m' c') ∧ m' ≤ c' ∧ Ul w' none A' m' (lm (x - y)) ∧ Below w.heap.size w w' := by
  have HU := hide hU
  have HV := hide hV
  have hmn : m ≤ n := by
    have := lm_length_mono hyx
    rw [hU.len, hV.len] at this
    exact this
  clear hU hV
  go_enter Tryz.func141, Tryz.ntmps141
  go_wp2_with (at_make; refine wl_make_u32 (w0 := w) rfl _ _ _ Tryz.underlying23 rfl 0 n _ _ rfl rfl rfl (by omega) (by omega) (by omega) (Fr.refl _ _) ?_; intro w1 ho1 hs1 hb1; have HO1 := hide ho1; clear ho1 hb1)
  go_loopw [5, 6, 15] (fun out borrow i wr => ∃ (k b : Nat) (A' : Option Addr) (c' : Nat) (o : List Nat), k ≤ n ∧ b ≤ 1 ∧ out = .slice A' k c' ∧ borrow = .int .u64 (b : Int) ∧ i = .int .i64 k ∧ Hid (OF w wr A' k c' o) ∧ Hid (lv o + lv ((lm y).take k) = lv ((lm x).take k) + 4294967296 ^ k * b)) (fun _ _ i _ => n - (intOf i).toNat)
  case atStart => exact ⟨0, 0, _, _, [], by omega, by omega, rfl, rfl, rfl, HO1, hide (by simp [lv])⟩
  case round =>
    obtain ⟨k, b, A', c', o, hk, hb1, rfl, rfl, rfl, HO, HI⟩ := hrel
    by_cases hkn : k < n
    · obtain ⟨b1, o1, p, rfl, -, -, hp, hpl, hcell⟩ := (HU.out.frF HO.out.fr).at hkn
      have HP := hide (getD_some hp)
      clear hp
      have g1 : (0 : Int) ≤ (k : Int) := by omega
      have g2 : (k : Int) < (n : Int) := by omega
      by_cases hkm : k < m
      · obtain ⟨b2, o2, q, rfl, -, -, hq, hql, hcell2⟩ := (HV.out.frF HO.out.fr).at hkm
        have HQ := hide (getD_some hq)
        clear hq
        have g3 : (k : Int) < (m : Int) := by omega
        have g4 : decide ((k : Int) < (m : Int)) = true := decide_eq_true g3
        obtain ⟨e, b', he, hb', h1, h2, h3⟩ := sub_dig (q := q) hpl hb1 hql
        have H1 := hide h1
        have H2 := hide h2
        have H3 := hide h3
        clear h1 h2 h3
        go_wp2_with (at_builtin; refine wl_app_u32 (w0 := w) rfl _ _ _ Tryz.underlying23 rfl A' k c' o e _ H1.out he rfl rfl HO.out (by omega) ?_; intro A2 c2 w2 ho2; have HO2 := hide ho2; clear ho2)
        go_roundw
        case rel => exact ⟨k + 1, b', A2, c2, _, by omega, hb', rfl, vint H2.out, by go_num, HO2, hide (sub_step HO.out.len HI.out (by rw [HP.out, HQ.out]; exact H3.out))⟩
        case measure => simp [intOf] <;> omega
      · have g4 : decide ((k : Int) < (m : Int)) = false := decide_eq_false (by omega)
        have HQ := hide (getD_none (l := lm y) (k := k) (by have := HV.out.len; omega))
        obtain ⟨e, b', he, hb', h1, h2, h3⟩ := sub_dig0 hpl hb1
        have H1 := hide h1
        have H2 := hide h2
        have H3 := hide h3
        clear h1 h2 h3
        go_wp2_with (at_builtin; refine wl_app_u32 (w0 := w) rfl _ _ _ Tryz.underlying23 rfl A' k c' o e _ H1.out he rfl rfl HO.out (by omega) ?_; intro A2 c2 w2 ho2; have HO2 := hide ho2; clear ho2)
        go_roundw
        case rel => exact ⟨k + 1, b', A2, c2, _, by omega, hb', rfl, vint H2.out, by go_num, HO2, hide (sub_step HO.out.len HI.out (by rw [HP.out, HQ.out]; exact H3.out))⟩
        case measure => simp [intOf] <;> omega
    · obtain rfl : k = n := by omega
      have HE := hide (sub_end HO.out.ok HO.out.len (a := lm x) (b := lm y) (w := b) (by have h := HI.out; rwa [List.take_of_length_le (by have := HV.out.len; omega), List.take_of_length_le (by have := HU.out.len; omega)] at h) (by rw [lv_lm, lv_lm]; exact hyx))
      have hcap := HO.out.cap
      go_wp2_with (go_at_call 138; refine (trim_any _ none _ _ _ _ HO.out.ul hcap (by omega)).mono ?_; rintro e w3 ⟨m3, rfl, hm3, hu3, rfl⟩; rw [HE.out, lv_lm, lv_lm] at hu3)
      go_ret
      exact ⟨_, _, _, rfl, by omega, hu3, fr_below HO.out.fr⟩
end Go.Proofs.YtnokfhkcfebimaaGreat

/- Contracts: limbs.Mul. -/
namespace Go.Proofs.YtnokfhkcfebimaaGreat
open Go.RowKit

theorem mul_le {x q : Nat} (hx : x < 4294967296) (hq : q < 4294967296) : (x : Int) * (q : Int) ≤ 18446744065119617025 ∧ 0 ≤ (x : Int) * (q : Int) := by
  have : x * q ≤ 4294967295 * 4294967295 := Nat.mul_le_mul (by omega) (by omega)
  constructor
  · have h : ((x * q : Nat) : Int) ≤ 18446744065119617025 := by omega
    rwa [Int.natCast_mul] at h
  · have h : (0 : Int) ≤ ((x * q : Nat) : Int) := by omega
    rwa [Int.natCast_mul] at h
/-- What a row of a multiplication leaves. -/
structure MulRow (o o' : List Nat) (i m : Nat) (V : Nat) : Prop where
  val : lv o' = lv o + 4294967296 ^ i * V
  rest : ∀ j, i + m < j → o'[j]? = o[j]?
set_option maxRecDepth 100000 in
set_option maxHeartbeats 2000000 in
theorem lmul1_any (w0 w : World) (av : Option Nat) (B : Option Addr) (m d : Nat) (l o : List Nat) (g N C Bb Bo i x : Nat) (hV : Ul w0 av B m l) (hO : OF w0 w (some ⟨g, 0, none⟩) N C o)
    (hb : w.cell? ⟨Bb, 0, none⟩ = some (.slice B m d)) (ho : w.cell? ⟨Bo, 0, none⟩ = some (.slice (some ⟨g, 0, none⟩) N C)) (hbg : g ≠ Bb) (hog : g ≠ Bo) (hN : N ≤ 4294967296) (hi : i + m < N) (hx : x < 4294967296) (hz : o[i + m]?.getD 0 = 0) :
    Calls Tryz.prog 140 #[.int .i64 (i : Int), .int .u32 (x : Int), .pointer (some ⟨Bb, 0, none⟩), .pointer (some ⟨Bo, 0, none⟩)] w fun e w' => e = .returned (.tuple #[]) ∧ ∃ o', OF w0 w' (some ⟨g, 0, none⟩) N C o' ∧ MulRow o o' i m (x * lv l) ∧ Fr w w' (fun b => b = g) := by
  have HV := hide hV
  have HO := hide hO
  have HZ := hide hz
  clear hV hO hz
  have gb : ¬ Bb = g := fun h => hbg h.symm
  have go : ¬ Bo = g := fun h => hog h.symm
  go_enter Tryz.func140, Tryz.ntmps140
  go_wp2_with fail
  go_loopw [6, 12] (fun carry ix wr => ∃ (k c : Nat) (o' : List Nat), k ≤ m ∧ c < 4294967296 ∧ carry = .int .u64 (c : Int) ∧ ix = .int .i64 k ∧ Hid (OF w0 wr (some ⟨g, 0, none⟩) N C o') ∧ Hid (lv o' + 4294967296 ^ (i + k) * c = lv o + 4294967296 ^ i * (x * lv (l.take k))) ∧ Hid (∀ j, i + k ≤ j → o'[j]? = o[j]?) ∧ Hid (Fr w wr (fun b => b = g)) ∧ wr.cell? ⟨Bb, 0, none⟩ = some (.slice B m d) ∧ wr.cell? ⟨Bo, 0, none⟩ = some (.slice (some ⟨g, 0, none⟩) N C)) (fun _ ix _ => m - (intOf ix).toNat)
  case atStart => exact ⟨0, 0, o, by omega, by omega, rfl, rfl, HO, hide (by simp [lv]), hide (fun _ _ => rfl), hide (Fr.refl _ _), hb, ho⟩
  case round =>
    obtain ⟨k, c, o', hk, hc, rfl, rfl, HO1, HI, HJ, HF, hb1, ho1⟩ := hrel
    clear hb ho
    by_cases hkm : k < m
    · obtain ⟨b2, o2, q, rfl, -, hb2, hq, hql, hcell⟩ := (HV.out.frF HO1.out.fr).at hkm
      obtain ⟨g', z, hg, -, hgl, hz, hzl, hcellz, hfz⟩ := HO1.out.at (k := i + k) (by omega)
      obtain rfl : g = g' := by simpa using hg
      have HQ := hide (getD_some hq)
      have HZ2 := hide (getD_some hz)
      clear hq hz hg
      have g1 : (0 : Int) ≤ (k : Int) := by omega
      have g2 : (k : Int) < (m : Int) := by omega
      have g3 : (0 : Int) ≤ (i : Int) + (k : Int) := by omega
      have g4 : (i : Int) + (k : Int) < (N : Int) := by omega
      obtain ⟨hxy, hxy0⟩ := mul_le hx hql
      have hfz0 := hfz (i + k)
      clear hfz
      go_wp2
      go_roundw
      case rel =>
        have hp := HO1.out.put (k := i + k) (x := (x * q + z + c) % 4294967296) (by omega) (by omega)
        have e : (((x * q + z + c) % 4294967296 : Nat) : Int) = ((x : Int) * (q : Int) + (z : Int) + (c : Int)) % 4294967296 := by omega
        rw [e] at hp
        refine ⟨k + 1, (x * q + z + c) / 4294967296, _, by omega, ?_, vint (by omega), by go_num, hide hp, hide ?_, hide ?_, hide ?_, ?_, ?_⟩
        · have := mul_lt hx hql hzl hc
          omega
        · exact mul_step (by have := HO1.out.len; omega) HI.out (by rw [HQ.out, HZ2.out])
        · intro j hj
          rw [List.getElem?_set_ne (by omega)]
          exact HJ.out j (by omega)
        · exact Fr.setCell HF.out (Or.inr rfl) _
        · rw [World.cell?_setCell_other _ _ _ _ (by intro h; injection h with h; exact hbg h)]; exact hb1
        · rw [World.cell?_setCell_other _ _ _ _ (by intro h; injection h with h; exact hog h)]; exact ho1
      case measure => simp [intOf] <;> omega
    · obtain rfl : k = m := by omega
      obtain ⟨g', z, hg, -, hgl, hz, hzl, hcellz, hfz⟩ := HO1.out.at (k := i + k) (by omega)
      obtain rfl : g = g' := by simpa using hg
      have hz0 : z = 0 := by
        have := HZ.out
        rw [← HJ.out _ (Nat.le_refl _), hz] at this
        exact this
      have HZ2 := hide (getD_some hz)
      subst hz0
      clear hz hg
      have g3 : (0 : Int) ≤ (i : Int) + (k : Int) := by omega
      have g4 : (i : Int) + (k : Int) < (N : Int) := by omega
      have g5 : (c : Int) % 4294967296 = (c : Int) := by omega
      have hfz0 := hfz (i + k)
      clear hfz
      go_wp2
      have hp := HO1.out.put (k := i + k) (x := c) (by omega) hc
      have e2 : lv (l.take k) = lv l := by rw [List.take_of_length_le (by have := HV.out.len; omega)]
      have hI := HI.out
      rw [e2] at hI
      have hlk : l.length = k := HV.out.len
      go_end0
      refine ⟨rfl, _, hp, ⟨?_, ?_⟩, Fr.setCell HF.out (Or.inr rfl) _⟩
      · have h := mul_last (o := o') (o0 := o) (b := l) (i := i) (c := c) (x := x) (by have := HO1.out.len; omega) (by rw [hlk]; exact hI) (by rw [hlk]; exact HZ2.out)
        rwa [hlk] at h
      · intro j hj
        rw [List.getElem?_set_ne (by omega)]
        exact HJ.out j (by omega)

set_option maxRecDepth 100000 in
set_option maxHeartbeats 2000000 in
theorem lmul_any (w : World) (av av' : Option Nat) (A : Option Addr) (n c : Nat) (B : Option Addr) (m d : Nat) (x y : Nat) (hU : Ul w av A n (lm x)) (hV : Ul w av' B m (lm y)) (hn : n ≤ 1000000) (hm : m ≤ 1000000) :
    Calls Tryz.prog 110 #[.slice A n c, .slice B m d] w fun e w' => ∃ A' m' c', e = .returned (.slice A' m' c') ∧ m' ≤ c' ∧ Ul w' none A' m' (lm (x * y)) ∧ Below w.heap.size w w' := by
  have HU := hide hU
  have HV := hide hV
  clear hU hV
  go_enter Tryz.func110, Tryz.ntmps110
  go_wp2_with (at_make; refine wl_make_u32 (w0 := w) rfl _ _ _ Tryz.underlying23 rfl (n + m) (n + m) _ _ rfl rfl (by omega) (by omega) (by omega) (by omega) ((Fr.refl _ _).alloc _) ?_; intro w1 ho1 hs1 hb1; have HO1 := hide ho1; have hc1 : w1.cell? ⟨w.heap.size, 0, none⟩ = some (.slice B m d) := (by rw [hb1.cell (p := ⟨w.heap.size, 0, none⟩) (by simp)]; simp [go_sem]); clear ho1 hb1)
  have hs2 : w.heap.size + 1 < w1.heap.size := by simpa using hs1
  obtain ⟨Bo, hBo⟩ : ∃ Bo, w1.heap.size = Bo := ⟨_, rfl⟩
  rw [hBo] at hs2
  have hq1 := HO1.out
  rw [show (w.alloc (Obj.cells #[Value.slice B m d] 23)).heap.size = w.heap.size + 1 by simp] at hq1
  have HO2 := hide (hq1.alloc (Obj.cells #[Value.slice (some { block := w.heap.size + 1, off := 0 }) (n + m) (n + m)] 23))
  clear hq1
  have hc2 : (w1.alloc (Obj.cells #[Value.slice (some { block := w.heap.size + 1, off := 0 }) (n + m) (n + m)] 23)).cell? ⟨w.heap.size, 0, none⟩ = some (.slice B m d) := by rw [World.cell?_alloc_lt _ _ _ (by simp; omega)]; exact hc1
  have hc3 : (w1.alloc (Obj.cells #[Value.slice (some { block := w.heap.size + 1, off := 0 }) (n + m) (n + m)] 23)).cell? ⟨Bo, 0, none⟩ = some (.slice (some { block := w.heap.size + 1, off := 0 }) (n + m) (n + m)) := by rw [← hBo]; simp [go_sem]
  rw [hBo]
  generalize hw2 : w1.alloc (Obj.cells #[Value.slice (some { block := w.heap.size + 1, off := 0 }) (n + m) (n + m)] 23) = w2 at HO2 hc2 hc3 ⊢
  have hbs : Bo < w2.heap.size := by rw [← hw2, ← hBo]; simp
  clear hw2 hBo HO1 hc1 hs1
  go_loopw [18] (fun i wr => ∃ (k : Nat) (o : List Nat), k ≤ n ∧ i = .int .i64 k ∧ Hid (OF w wr (some ⟨w.heap.size + 1, 0, none⟩) (n + m) (n + m) o) ∧ Hid (lv o = lv ((lm x).take k) * lv (lm y)) ∧ Hid (∀ j, k + m ≤ j → o[j]?.getD 0 = 0) ∧ wr.cell? ⟨w.heap.size, 0, none⟩ = some (.slice B m d) ∧ wr.cell? ⟨Bo, 0, none⟩ = some (.slice (some ⟨w.heap.size + 1, 0, none⟩) (n + m) (n + m)) ∧ Hid (Bo < wr.heap.size)) (fun i _ => n - (intOf i).toNat)
  case atStart => exact ⟨0, _, by omega, rfl, HO2, hide (by rw [lv_replicate]; simp [lv]), hide (fun j _ => by rw [List.getElem?_replicate]; split <;> rfl), hc2, hc3, hide hbs⟩
  case round =>
    obtain ⟨k, o, hk, rfl, HO, HI, HJ, hc4, hc5, HB⟩ := hrel
    clear hc2 hc3 HO2
    by_cases hkn : k < n
    · obtain ⟨b1, o1, p, rfl, -, -, hp, hpl, hcell⟩ := (HU.out.frF HO.out.fr).at hkn
      have HP := hide (getD_some hp)
      clear hp
      have g1 : (0 : Int) ≤ (k : Int) := by omega
      have g2 : (k : Int) < (n : Int) := by omega
      go_wp2_with (go_at_call 140; refine (lmul1_any w _ av' B m d (lm y) o (w.heap.size + 1) (n + m) (n + m) w.heap.size Bo k p HV.out HO.out hc4 hc5 (by omega) (by omega) (by omega) (by omega) hpl (HJ.out _ (Nat.le_refl _))).mono ?_; rintro e w3 ⟨rfl, o3, ho3, hr3, hf3⟩; have HO3 := hide ho3; have HR3 := hide hr3; have hc6 : w3.cell? ⟨w.heap.size, 0, none⟩ = some (.slice B m d) := ((World.cell?_of_block (w := wr) (hf3.block w.heap.size (by have := HB.out; omega) (by omega))).trans hc4); have hc7 : w3.cell? ⟨Bo, 0, none⟩ = some (.slice (some ⟨w.heap.size + 1, 0, none⟩) (n + m) (n + m)) := ((World.cell?_of_block (w := wr) (hf3.block Bo HB.out (by omega))).trans hc5); have HB3 := hide (Nat.lt_of_lt_of_le HB.out hf3.size); clear ho3 hr3 hf3 hc4 hc5)
      go_roundw
      case rel =>
        refine ⟨k + 1, o3, by omega, by go_num, HO3, hide ?_, hide ?_, hc6, hc7, HB3⟩
        · rw [HR3.out.val, HI.out, ← HP.out, mul_row]
        · intro j hj
          rw [HR3.out.rest j (by omega)]
          exact HJ.out j (by omega)
      case measure => simp [intOf] <;> omega
    · obtain rfl : k = n := by omega
      have HE := hide (show lv o = x * y by rw [HI.out, List.take_of_length_le (by have := HU.out.len; omega), lv_lm, lv_lm])
      go_wp2_with (go_at_call 138; refine (trim_any _ none _ _ _ _ HO.out.ul (by omega) (by omega)).mono ?_; rintro e w3 ⟨m3, rfl, hm3, hu3, rfl⟩; rw [HE.out] at hu3)
      go_ret
      exact ⟨_, _, _, rfl, by omega, hu3, fr_below HO.out.fr⟩
end Go.Proofs.YtnokfhkcfebimaaGreat

/- Contracts: limbs.Small, shift, unshift. -/
namespace Go.Proofs.YtnokfhkcfebimaaGreat
open Go.RowKit

theorem or_shift (a b k : Nat) (hb : b < 2 ^ k) : a * 2 ^ k ||| b = a * 2 ^ k + b := by
  rw [Nat.mul_comm]
  exact (Nat.two_pow_add_eq_or_of_lt hb a).symm
theorem or_u64 (a b k : Nat) (hb : b < 2 ^ k) (h : a * 2 ^ k + b < 18446744073709551616) : bits .or .u64 ((a * 2 ^ k : Nat) : Int) (b : Int) = ((a * 2 ^ k + b : Nat) : Int) := by
  rw [u64_or_nat _ _ (by omega) (by omega), or_shift a b k hb]
theorem or_32 (r x : Nat) (hr : r < 4294967296) (hx : x < 4294967296) : bits .or .u64 ((r : Int) * 4294967296) (x : Int) = (r : Int) * 4294967296 + (x : Int) := by
  have := or_u64 r x 32 (by omega) (by omega)
  simpa using this
theorem take_set_succ {l : List Nat} {k d : Nat} (h : k < l.length) : (l.set k d).take (k + 1) = l.take k ++ [d] := by
  rw [List.take_succ_eq_append_getElem (by simpa using h)]
  simp [List.take_set_of_le]
set_option maxRecDepth 100000 in
set_option maxHeartbeats 2000000 in
theorem lsmall_any (w : World) (av : Option Nat) (A : Option Addr) (n c : Nat) (x d : Nat) (hU : Ul w av A n (lm x)) (hn : n ≤ 1000000) (hd : d < 4294967296) (hd1 : 1 ≤ d) :
    Calls Tryz.prog 152 #[.slice A n c, .int .u32 (d : Int)] w fun e w' => ∃ A' m' c' r, e = .returned (.tuple #[.slice A' m' c', .int .u32 ((r : Nat) : Int)]) ∧ m' ≤ c' ∧ r < d ∧ Hid (r = x % d) ∧ Ul w' none A' m' (lm (x / d)) ∧ Below w.heap.size w w' := by
  have HU := hide hU
  clear hU
  go_enter Tryz.func152, Tryz.ntmps152
  go_wp2_with (at_make; refine wl_make_u32 (w0 := w) rfl _ _ _ Tryz.underlying23 rfl n n _ _ rfl rfl rfl rfl (by omega) (by omega) (Fr.refl _ _) ?_; intro w1 ho1 hs1 hb1; have HO1 := hide ho1; clear ho1 hb1)
  go_loopw [7, 8] (fun rest i wr => ∃ (k r : Nat) (o : List Nat), k ≤ n ∧ r < d ∧ rest = .int .u64 (r : Int) ∧ i = .int .i64 ((k : Int) - 1) ∧ Hid (OF w wr (some ⟨w.heap.size, 0, none⟩) n n o) ∧ Hid (lv ((lm x).drop k) = lv (o.drop k) * d + r)) (fun _ i _ => (intOf i + 1).toNat)
  case atStart => exact ⟨n, 0, _, by omega, by omega, rfl, rfl, HO1, hide (by rw [List.drop_eq_nil_of_le (by have := HU.out.len; omega), List.drop_eq_nil_of_le (by simp)]; simp [lv])⟩
  case round =>
    obtain ⟨k, r, o, hk, hr, rfl, rfl, HO, HI⟩ := hrel
    by_cases hk0 : k = 0
    · subst hk0
      have h0 : lv (lm x) = lv o * d + r := HI.out
      rw [lv_lm] at h0
      have hq : lv o = x / d := by rw [h0, Nat.mul_comm, Nat.mul_add_div (by omega), Nat.div_eq_of_lt hr, Nat.add_zero]
      have hm : r = x % d := by rw [h0, Nat.mul_comm, Nat.mul_add_mod, Nat.mod_eq_of_lt hr]
      have HQ := hide hq
      have HM := hide hm
      clear h0 hq hm
      have g5 : (r : Int) % 4294967296 = (r : Int) := by omega
      go_wp2_with (go_at_call 138; refine (trim_any _ none _ _ _ _ HO.out.ul (by omega) (by omega)).mono ?_; rintro e w3 ⟨m3, rfl, hm3, hu3, rfl⟩; rw [HQ.out] at hu3)
      go_ret2
      exact ⟨_, _, _, r, rfl, by omega, hr, HM, hu3, fr_below HO.out.fr⟩
    · obtain ⟨j, rfl⟩ : ∃ j, k = j + 1 := ⟨k - 1, by omega⟩
      obtain ⟨b, oo, p, rfl, -, -, hp, hpl, hcell⟩ := (HU.out.frF HO.out.fr).at (k := j) (by omega)
      obtain ⟨g', z, hg, -, hgl, hz, hzl, hcellz, hfz⟩ := HO.out.at (k := j) (by omega)
      obtain rfl : w.heap.size = g' := by simpa using hg
      have HP := hide hp
      clear hp hz hg
      have g1 : (0 : Int) ≤ (j : Int) := by omega
      have g2 : (j : Int) < (n : Int) := by omega
      have hor := or_32 r p (by omega) hpl
      have g3 : (1 : Int) ≤ (d : Int) := by omega
      have hfz0 := hfz j
      clear hfz
      have hs := small_lt hr hpl (s := r * 4294967296 + p) rfl
      have hs2 : ((r : Int) * 4294967296 + (p : Int)) / (d : Int) < 4294967296 := by
        have : (((r * 4294967296 + p) / d : Nat) : Int) < 4294967296 := by omega
        rw [Int.natCast_ediv] at this
        simpa using this
      have hs3 : 0 ≤ ((r : Int) * 4294967296 + (p : Int)) / (d : Int) := Int.ediv_nonneg (by omega) (by omega)
      have hr2 : r * 4294967296 + p < 18446744073709551616 := by omega
      have HS := hide hs
      go_wp2
      go_roundw
      case rel =>
        have hp := HO.out.put (k := j) (x := (r * 4294967296 + p) / d) (by omega) hs
        have e : (((r * 4294967296 + p) / d : Nat) : Int) = ((r : Int) * 4294967296 + (p : Int)) / (d : Int) := by rw [Int.natCast_ediv]; simp
        rw [e] at hp
        refine ⟨j, (r * 4294967296 + p) % d, _, by omega, Nat.mod_lt _ (by omega), vint (by rw [Int.natCast_emod]; simp), by go_num, hide hp, hide ?_⟩
        exact small_step (by have := HU.out.len; have := HO.out.len; omega) (by have := HU.out.len; omega) HP.out HI.out rfl
      case measure => simp [intOf] <;> omega

theorem shl_or {p c s : Nat} (hs : s ≤ 31) (hp : p < 4294967296) (hc : c < 2 ^ s) : ∃ S : Nat, S = p * 2 ^ s + c ∧ S < 9223372036854775808 ∧ S / 4294967296 < 2 ^ s ∧ bits BinOp.or IntKind.u64 (IntKind.u64.wrap ((p : Int) * 2 ^ s)) (c : Int) = (S : Int) := by
  have h1 : p * 2 ^ s + c < 4294967296 * 2 ^ s := by
    have : (p + 1) * 2 ^ s ≤ 4294967296 * 2 ^ s := Nat.mul_le_mul_right _ hp
    rw [Nat.add_mul] at this
    omega
  have h2 : 4294967296 * 2 ^ s ≤ 4294967296 * 2147483648 := Nat.mul_le_mul_left _ (by
    have : (2 : Nat) ^ s ≤ 2 ^ 31 := Nat.pow_le_pow_right (by omega) hs
    omega)
  refine ⟨_, rfl, by omega, by rw [Nat.div_lt_iff_lt_mul (by omega)]; omega, ?_⟩
  have e : (p : Int) * 2 ^ s = ((p * 2 ^ s : Nat) : Int) := by rw [Int.natCast_mul, Int.natCast_pow]; rfl
  rw [e, IntWalk.u64_in _ (by omega)]
  exact or_u64 p c s hc (by omega)
set_option maxRecDepth 100000 in
set_option maxHeartbeats 2000000 in
theorem lshift_any (w : World) (av : Option Nat) (A : Option Addr) (n c : Nat) (x s : Nat) (hU : Ul w av A n (lm x)) (hn : n ≤ 1000000) (hs : s ≤ 31) :
    Calls Tryz.prog 154 #[.slice A n c, .int .i64 (s : Int)] w fun e w' => ∃ o, e = .returned (.slice (some ⟨w.heap.size, 0, none⟩) (n + 1) (n + 1)) ∧ lv o = x * 2 ^ s ∧ OF w w' (some ⟨w.heap.size, 0, none⟩) (n + 1) (n + 1) o := by
  have HU := hide hU
  clear hU
  go_enter Tryz.func154, Tryz.ntmps154
  go_wp2_with (at_make; refine wl_make_u32 (w0 := w) rfl _ _ _ Tryz.underlying23 rfl (n + 1) (n + 1) _ _ rfl rfl rfl rfl (by omega) (by omega) (Fr.refl _ _) ?_; intro w1 ho1 hs1 hb1; have HO1 := hide ho1; clear ho1 hb1)
  go_loopw [6, 16] (fun carry i wr => ∃ (k c : Nat) (o : List Nat), k ≤ n ∧ c < 2 ^ s ∧ carry = .int .u64 (c : Int) ∧ i = .int .i64 (k : Int) ∧ Hid (OF w wr (some ⟨w.heap.size, 0, none⟩) (n + 1) (n + 1) o) ∧ Hid (lv (o.take k) + 4294967296 ^ k * c = lv ((lm x).take k) * 2 ^ s)) (fun _ i _ => n - (intOf i).toNat)
  case atStart => exact ⟨0, 0, _, by omega, Nat.pow_pos (by omega), rfl, rfl, HO1, hide (by simp [lv])⟩
  case round =>
    obtain ⟨k, c, o, hk, hc, rfl, rfl, HO, HI⟩ := hrel
    by_cases hkn : k < n
    · obtain ⟨b, oo, p, rfl, -, -, hp, hpl, hcell⟩ := (HU.out.frF HO.out.fr).at hkn
      obtain ⟨g', z, hg, -, hgl, hz, hzl, hcellz, hfz⟩ := HO.out.at (k := k) (by omega)
      obtain rfl : w.heap.size = g' := by simpa using hg
      have HP := hide hp
      clear hp hz hg
      have g1 : (0 : Int) ≤ (k : Int) := by omega
      have g2 : (k : Int) < (n : Int) := by omega
      have g3 : (k : Int) < (n : Int) + 1 := by omega
      have hfz0 := hfz k
      clear hfz
      obtain ⟨S, hS, hSl, hSc, hor⟩ := shl_or hs hpl hc
      have HS := hide hS
      have hor2 := hor
      clear hS hc hor
      go_wp2
      go_roundw
      case rel =>
        have hp := HO.out.put (k := k) (x := S % 4294967296) (by omega) (by omega)
        have e : ((S % 4294967296 : Nat) : Int) = (S : Int) % 4294967296 := by omega
        rw [e] at hp
        refine ⟨k + 1, S / 4294967296, _, by omega, hSc, vint (by omega), by go_num, hide hp, hide ?_⟩
        rw [take_set_succ (by have := HO.out.len; omega)]
        exact shl_step (by rw [List.length_take]; have := HO.out.len; omega) HP.out HI.out HS.out
      case measure => simp [intOf] <;> omega
    · obtain rfl : k = n := by omega
      obtain ⟨g', z, hg, -, hgl, hz, hzl, hcellz, hfz⟩ := HO.out.at (k := k) (by omega)
      obtain rfl : w.heap.size = g' := by simpa using hg
      have hc2 : c < 4294967296 := Nat.lt_of_lt_of_le hc (Nat.le_trans (Nat.pow_le_pow_right (by omega) hs) (by omega))
      have g3 : (k : Int) < (k : Int) + 1 := by omega
      have hfz0 := hfz k
      have g5 : (c : Int) % 4294967296 = (c : Int) := by omega
      clear hfz hz hg hc
      go_wp2
      go_ret
      have hp := HO.out.put (k := k) (x := c) (by omega) hc2
      refine ⟨_, rfl, ?_, hp⟩
      have e : (o.set k c) = (o.set k c).take (k + 1) := by rw [List.take_of_length_le (by rw [List.length_set]; have := HO.out.len; omega)]
      rw [e, take_set_succ (by have := HO.out.len; omega), lv_snoc, List.length_take, Nat.min_eq_left (by have := HO.out.len; omega), HI.out, List.take_of_length_le (by have := HU.out.len; omega), lv_lm]

theorem shr_or {p q s : Nat} (hp : p < 4294967296) (hq : q < 4294967296) : bits BinOp.or IntKind.u64 (p : Int) ((q : Int) * 4294967296) = ((p + 4294967296 * q : Nat) : Int) := by
  have e : (q : Int) * 4294967296 = ((q * 2 ^ 32 : Nat) : Int) := by omega
  rw [e, u64_or_nat _ _ (by omega) (by omega), Nat.or_comm, or_shift q p 32 (by omega)]
  omega
theorem natCast_div2 (S s : Nat) : ((S / 2 ^ s : Nat) : Int) = (S : Int) / 2 ^ s := by rw [Int.natCast_ediv, Int.natCast_pow]; rfl
set_option maxRecDepth 100000 in
set_option maxHeartbeats 2000000 in
theorem lunshift_any (w : World) (av : Option Nat) (A : Option Addr) (n c : Nat) (x s : Nat) (hU : Ul w av A n (lm x)) (hn : n ≤ 1000001) (hs : s ≤ 31) :
    Calls Tryz.prog 157 #[.slice A n c, .int .i64 (s : Int)] w fun e w' => ∃ A' m' c', e = .returned (.slice A' m' c') ∧ m' ≤ c' ∧ Ul w' none A' m' (lm (x / 2 ^ s)) ∧ Below w.heap.size w w' := by
  have HU := hide hU
  clear hU
  go_enter Tryz.func157, Tryz.ntmps157
  go_wp2_with (at_make; refine wl_make_u32 (w0 := w) rfl _ _ _ Tryz.underlying23 rfl n n _ _ rfl rfl rfl rfl (by omega) (by omega) (Fr.refl _ _) ?_; intro w1 ho1 hs1 hb1; have HO1 := hide ho1; clear ho1 hb1)
  go_loopw [14] (fun i wr => ∃ (k : Nat) (o : List Nat), k ≤ n ∧ i = .int .i64 (k : Int) ∧ Hid (OF w wr (some ⟨w.heap.size, 0, none⟩) n n o) ∧ Hid (lv (o.take k) + 4294967296 ^ k * (lv ((lm x).drop k) / 2 ^ s) = x / 2 ^ s)) (fun i _ => n - (intOf i).toNat)
  case atStart => exact ⟨0, _, by omega, rfl, HO1, hide (by simp [lv, lv_lm])⟩
  case round =>
    obtain ⟨k, o, hk, rfl, HO, HI⟩ := hrel
    by_cases hkn : k < n
    · obtain ⟨b, oo, p, rfl, -, -, hp, hpl, hcell⟩ := (HU.out.frF HO.out.fr).at hkn
      obtain ⟨g', z, hg, -, hgl, hz, hzl, hcellz, hfz⟩ := HO.out.at (k := k) (by omega)
      obtain rfl : w.heap.size = g' := by simpa using hg
      have HP := hide hp
      clear hp hz hg
      have g1 : (0 : Int) ≤ (k : Int) := by omega
      have g2 : (k : Int) < (n : Int) := by omega
      have hfz0 := hfz k
      clear hfz
      by_cases hk1 : k + 1 < n
      · obtain ⟨b2, o2, q, hA, -, -, hq, hql, hcell2⟩ := (HU.out.frF HO.out.fr).at hk1
        obtain ⟨rfl, rfl⟩ : b = b2 ∧ oo = o2 := by simpa using hA
        have HQ := hide (getD_some hq)
        clear hq hA
        have g3 : (k : Int) + 1 < (n : Int) := by omega
        have g4 : decide ((k : Int) + 1 < (n : Int)) = true := decide_eq_true g3
        have hor := shr_or (s := s) hpl hql
        obtain ⟨S, hS⟩ : ∃ S : Nat, S = p + 4294967296 * q := ⟨_, rfl⟩
        rw [← hS] at hor
        have HS := hide hS
        clear hS
        go_wp2
        go_roundw
        case rel =>
          have hp := HO.out.put (k := k) (x := S / 2 ^ s % 4294967296) (by omega) (by omega)
          have e : ((S / 2 ^ s % 4294967296 : Nat) : Int) = (S : Int) / 2 ^ s % 4294967296 := by rw [Int.natCast_emod, natCast_div2]; rfl
          rw [e] at hp
          refine ⟨k + 1, _, by omega, by go_num, hide hp, hide ?_⟩
          rw [take_set_succ (by have := HO.out.len; omega)]
          exact shr_step (by rw [List.length_take]; have := HO.out.len; omega) (by omega) (okL_lm x) HP.out (by rw [HQ.out, HS.out]) HI.out
        case measure => simp [intOf] <;> omega
      · have g4 : decide ((k : Int) + 1 < (n : Int)) = false := decide_eq_false (by omega)
        have HQ := hide (getD_none (l := lm x) (k := k + 1) (by have := HU.out.len; omega))
        go_wp2
        go_roundw
        case rel =>
          have hp := HO.out.put (k := k) (x := p / 2 ^ s % 4294967296) (by omega) (by omega)
          have e : ((p / 2 ^ s % 4294967296 : Nat) : Int) = (p : Int) / 2 ^ s % 4294967296 := by rw [Int.natCast_emod, natCast_div2]; rfl
          rw [e] at hp
          refine ⟨k + 1, _, by omega, by go_num, hide hp, hide ?_⟩
          rw [take_set_succ (by have := HO.out.len; omega)]
          exact shr_step (by rw [List.length_take]; have := HO.out.len; omega) (by omega) (okL_lm x) HP.out (by rw [HQ.out]; simp) HI.out
        case measure => simp [intOf] <;> omega
    · obtain rfl : k = n := by omega
      have HE := hide (show lv o = x / 2 ^ s by
        have h := HI.out
        rw [List.drop_eq_nil_of_le (by have := HU.out.len; omega), List.take_of_length_le (by have := HO.out.len; omega)] at h
        simpa [lv] using h)
      go_wp2_with (go_at_call 138; refine (trim_any _ none _ _ _ _ HO.out.ul (by omega) (by omega)).mono ?_; rintro e w3 ⟨m3, rfl, hm3, hu3, rfl⟩; rw [HE.out] at hu3)
      go_ret
      exact ⟨_, _, _, rfl, by omega, hu3, fr_below HO.out.fr⟩
end Go.Proofs.YtnokfhkcfebimaaGreat
