/- Contracts of the functions that these laws reach: part 6: Contracts: the reference's Check, Order, Compare; Contracts: the reference's Plus, Minus; Contracts: the reference's Times; Contracts: the reference's small, cut; Contracts: the reference's up; A window into an own row; contract: the reference's down. -/
import Derived.Test.YtnofljgmkdommaaG3
import Derived.Test.YtnofljgmkdommaaG5
import Derived.Test.YtnofljgmkdommaaG4
set_option linter.unusedVariables false
set_option linter.unusedSimpArgs false

/- Contracts: the reference's Check, Order, Compare. -/
namespace Go.Proofs.Ytnofljgmkdommaa
open Go.RowKit

set_option maxRecDepth 100000 in
set_option maxHeartbeats 4000000 in
theorem r1check_any (w : World) (av : Option Nat) (A : Option Addr) (n c : Nat) (l : List Nat) (hU : Ul w av A n l) (hn : n ≤ 9223372036854775807) :
    Calls Try.prog 70 #[.slice A n c] w fun e w' => e = .returned (.bool (natB l)) ∧ w' = w := by
  by_cases h1 : 128 < n
  · have hb := hide (natB_big (l := l) (by rw [hU.len]; exact h1))
    have d1 : decide ((n : Int) ≤ 128) = false := decide_eq_false (by omega)
    clear hU
    go_enter Try.func70, Try.ntmps70
    go_wp2
    go_ret
    exact ⟨by rw [hb.out]; rfl, rfl⟩
  · have d1 : decide ((n : Int) ≤ 128) = true := decide_eq_true (by omega)
    by_cases h0 : n = 0
    · subst h0
      have hl : l = [] := List.eq_nil_of_length_eq_zero hU.len
      subst hl
      go_enter Try.func70, Try.ntmps70
      go_wp2
      go_ret
      exact ⟨by rw [natB_nil]; rfl, rfl⟩
    · obtain ⟨k, rfl⟩ : ∃ k, n = k + 1 := ⟨n - 1, by omega⟩
      obtain ⟨b, o, x, rfl, -, -, hx, hxl, hcell⟩ := hU.at (k := k) (by omega)
      have hb := natB_last hU.ok hU.len (by omega) hx
      have g1 : (0 : Int) ≤ (k : Int) := by omega
      have d2 : ((k : Int) + 1 == 0) = false := by simp; omega
      by_cases hx0 : x = 0
      · subst hx0
        have HB := hide (show natB l = false by rw [hb]; rfl)
        clear hU hx hb
        go_enter Try.func70, Try.ntmps70
        go_wp2
        go_ret
        exact ⟨by rw [HB.out]; rfl, rfl⟩
      · have HB := hide (show natB l = true by rw [hb]; simp [hx0])
        have d3 : ((x : Int) != 0) = true := by simp; omega
        clear hU hx hb
        go_enter Try.func70, Try.ntmps70
        go_wp2
        go_ret
        exact ⟨by rw [HB.out]; rfl, rfl⟩
set_option maxRecDepth 100000 in
set_option maxHeartbeats 4000000 in
theorem r1order_any (w : World) (av av' : Option Nat) (A : Option Addr) (n c : Nat) (A' : Option Addr) (n' c' : Nat) (x y : Nat) (hU : Ul w av A n (lm x)) (hV : Ul w av' A' n' (lm y)) (hn : n ≤ 4294967296) (hn' : n' ≤ 4294967296) :
    Calls Try.prog 71 #[.slice A n c, .slice A' n' c'] w fun e w' => e = .returned (.int .i64 (cmpN x y)) ∧ Dr w w' := by
  have HU := hide hU
  have HV := hide hV
  clear hU hV
  by_cases hne : n = n'
  · subst hne
    go_enter Try.func71, Try.ntmps71
    go_wp2
    go_loopw [5] (fun i wr => ∃ k : Nat, k ≤ n ∧ i = .int .i64 ((k : Int) - 1) ∧ Hid ((lm x).drop k = (lm y).drop k) ∧ Hid (Dr w wr)) (fun i _ => (intOf i + 1).toNat)
    case atStart => exact ⟨n, Nat.le_refl _, rfl, hide (by rw [List.drop_eq_nil_of_le (by have := HU.out.len; omega), List.drop_eq_nil_of_le (by have := HV.out.len; omega)]), hide (Dr.refl w)⟩
    case round =>
      obtain ⟨k, hk, rfl, HK, HD⟩ := hrel
      by_cases hk0 : k = 0
      · subst hk0
        go_wp2
        go_ret
        have e : x = y := lm_inj (by simpa using HK.out)
        exact ⟨by rw [e, cmpN_eq]; rfl, HD.out⟩
      · obtain ⟨j, rfl⟩ : ∃ j, k = j + 1 := ⟨k - 1, by omega⟩
        obtain ⟨b, o, p, rfl, -, -, hp, hpl, hcell⟩ := (HU.out.dr HD.out).at (k := j) (by omega)
        obtain ⟨b', o', q, rfl, -, -, hq, hql, hcell'⟩ := (HV.out.dr HD.out).at (k := j) (by omega)
        have HP := hide hp
        have HQ := hide hq
        clear hp hq
        have g1 : (0 : Int) ≤ (j : Int) := by omega
        have g2 : (j : Int) < (n : Int) := by omega
        rcases Nat.lt_trichotomy p q with hlt | heq | hlt
        · have h := lt_of_limb (okL_lm x) HP.out HQ.out HK.out hlt
          rw [lv_lm, lv_lm] at h
          have HC := hide (cmpN_lt h)
          clear h
          have d1 : ((p : Int) == (q : Int)) = false := by simp; omega
          have d2 : decide ((p : Int) < (q : Int)) = true := decide_eq_true (by omega)
          go_wp2
          go_quiet (fail)
          go_wp2
          go_quiet (fail)
          go_wp2
          go_ret
          exact ⟨by rw [HC.out]; rfl, (HD.out.drewN _).drewN _⟩
        · subst heq
          go_wp2
          go_quiet (fail)
          go_wp2
          go_roundw
          case rel => exact ⟨j, by omega, by go_num, hide (by rw [drop_cons HP.out, drop_cons HQ.out, HK.out]), hide (HD.out.drewN _)⟩
          case measure => simp [intOf] <;> omega
        · have h := lt_of_limb (okL_lm y) HQ.out HP.out HK.out.symm hlt
          rw [lv_lm, lv_lm] at h
          have HC := hide (cmpN_gt h)
          clear h
          have d1 : ((p : Int) == (q : Int)) = false := by simp; omega
          have d2 : decide ((p : Int) < (q : Int)) = false := decide_eq_false (by omega)
          go_wp2
          go_quiet (fail)
          go_wp2
          go_quiet (fail)
          go_wp2
          go_ret
          exact ⟨by rw [HC.out]; rfl, (HD.out.drewN _).drewN _⟩
  · by_cases hlt : n < n'
    · have h : x < y := lt_of_length (by rw [HU.out.len, HV.out.len]; exact hlt)
      go_enter Try.func71, Try.ntmps71
      go_wp2
      go_ret
      exact ⟨by rw [cmpN_lt h]; rfl, Dr.refl w⟩
    · have h : y < x := lt_of_length (by rw [HU.out.len, HV.out.len]; omega)
      go_enter Try.func71, Try.ntmps71
      go_wp2
      go_ret
      exact ⟨by rw [cmpN_gt h]; rfl, Dr.refl w⟩
end Go.Proofs.Ytnofljgmkdommaa

/- Contracts: the reference's Plus, Minus. -/
namespace Go.Proofs.Ytnofljgmkdommaa
open Go.RowKit

theorem fr_bel {a b : World} (h : Fr a b (fun _ => False)) : Below a.heap.size a b := h.below (Nat.le_refl _) (fun _ _ h => h)
set_option maxRecDepth 100000 in
set_option maxHeartbeats 4000000 in
theorem r1plus_any (w : World) (av av' : Option Nat) (A : Option Addr) (n c : Nat) (B : Option Addr) (m d : Nat) (x y : Nat) (hU : Ul w av A n (lm x)) (hV : Ul w av' B m (lm y)) (hn : n ≤ 1000000) (hm : m ≤ 1000000) :
    Calls Try.prog 85 #[.slice A n c, .slice B m d] w fun e w' => ∃ A' m' c', e = .returned (.slice A' m' c') ∧ m' ≤ c' ∧ Ul w' none A' m' (lm (x + y)) ∧ Below w.heap.size w w' := by
  have HU := hide hU
  have HV := hide hV
  clear hU hV
  go_enter Try.func85, Try.ntmps85
  go_wp2_with fail
  go_loopw [5, 6, 7] (fun out carry i wr => ∃ (k cc : Nat) (A' : Option Addr) (c' : Nat) (o : List Nat), cc ≤ 1 ∧ (k ≤ n ∨ k ≤ m ∨ cc = 0 ∧ k ≤ n + m + 1) ∧ out = .slice A' k c' ∧ carry = .int .u64 (cc : Int) ∧ i = .int .i64 k ∧ Hid (OF w wr A' k c' o) ∧ Hid (lv o + 4294967296 ^ k * cc = lv ((lm x).take k) + lv ((lm y).take k))) (fun _ _ i _ => n + m + 2 - (intOf i).toNat)
  case atStart => exact ⟨0, 0, none, 0, [], by omega, by omega, rfl, rfl, rfl, hide (OF.nil (Fr.refl _ _)), hide (by simp [lv])⟩
  case round =>
    obtain ⟨k, cc, A', c', o, hc1, hk, rfl, rfl, rfl, HO, HI⟩ := hrel
    have g1 : (0 : Int) ≤ (k : Int) := by omega
    by_cases hkn : k < n
    · obtain ⟨b1, o1, p, rfl, -, -, hp, hpl, hcell⟩ := (HU.out.frF HO.out.fr).at hkn
      have HP := hide (getD_some hp)
      clear hp
      have g2 : (k : Int) < (n : Int) := by omega
      by_cases hkm : k < m
      · obtain ⟨b2, o2, q, rfl, -, -, hq, hql, hcell2⟩ := (HV.out.frF HO.out.fr).at hkm
        have HQ := hide (getD_some hq)
        clear hq
        have g3 : (k : Int) < (m : Int) := by omega
        go_wp2_with (at_builtin; refine wl_app_u32 (w0 := w) rfl _ _ _ Try.underlying34 rfl A' k c' o ((cc + p + q) % 4294967296) _ (by omega) (by omega) rfl rfl HO.out (by omega) ?_; intro A2 c2 w2 ho2; have HO2 := hide ho2; clear ho2)
        go_roundw
        case rel => exact ⟨k + 1, (cc + p + q) / 4294967296, A2, c2, _, by omega, by omega, rfl, vint (by omega), by go_num, HO2, hide (add_step (s := cc + p + q) HO.out.len HI.out (by rw [HP.out, HQ.out]; omega))⟩
        case measure => simp [intOf] <;> omega
      · have g4 : decide ((k : Int) < (m : Int)) = false := decide_eq_false (by omega)
        have HQ := hide (getD_none (l := lm y) (k := k) (by have := HV.out.len; omega))
        go_wp2_with (at_builtin; refine wl_app_u32 (w0 := w) rfl _ _ _ Try.underlying34 rfl A' k c' o ((cc + p) % 4294967296) _ (by omega) (by omega) rfl rfl HO.out (by omega) ?_; intro A2 c2 w2 ho2; have HO2 := hide ho2; clear ho2)
        go_roundw
        case rel => exact ⟨k + 1, (cc + p) / 4294967296, A2, c2, _, by omega, by omega, rfl, vint (by omega), by go_num, HO2, hide (add_step (s := cc + p) HO.out.len HI.out (by rw [HP.out, HQ.out]; omega))⟩
        case measure => simp [intOf] <;> omega
    · have g2 : decide ((k : Int) < (n : Int)) = false := decide_eq_false (by omega)
      have HP := hide (getD_none (l := lm x) (k := k) (by have := HU.out.len; omega))
      by_cases hkm : k < m
      · obtain ⟨b2, o2, q, rfl, -, -, hq, hql, hcell2⟩ := (HV.out.frF HO.out.fr).at hkm
        have HQ := hide (getD_some hq)
        clear hq
        have g3 : (k : Int) < (m : Int) := by omega
        go_wp2_with (at_builtin; refine wl_app_u32 (w0 := w) rfl _ _ _ Try.underlying34 rfl A' k c' o ((cc + q) % 4294967296) _ (by omega) (by omega) rfl rfl HO.out (by omega) ?_; intro A2 c2 w2 ho2; have HO2 := hide ho2; clear ho2)
        go_roundw
        case rel => exact ⟨k + 1, (cc + q) / 4294967296, A2, c2, _, by omega, by omega, rfl, vint (by omega), by go_num, HO2, hide (add_step (s := cc + q) HO.out.len HI.out (by rw [HP.out, HQ.out]; omega))⟩
        case measure => simp [intOf] <;> omega
      · have g4 : decide ((k : Int) < (m : Int)) = false := decide_eq_false (by omega)
        have HQ := hide (getD_none (l := lm y) (k := k) (by have := HV.out.len; omega))
        by_cases hcc : cc = 0
        · subst hcc
          have HE := hide (show lv o = x + y by
            have h := HI.out
            rw [List.take_of_length_le (by have := HU.out.len; omega), List.take_of_length_le (by have := HV.out.len; omega), lv_lm, lv_lm] at h
            omega)
          go_wp2_with (go_at_call 87; refine (r1trim_any _ none _ _ _ _ HO.out.ul HO.out.cap (by omega)).mono ?_; rintro e w3 ⟨A3, m3, c3, rfl, hm3, ho3⟩; rw [HE.out] at ho3; have HO3 := hide ho3; clear ho3)
          go_ret
          exact ⟨A3, m3, c3, rfl, HO3.out.cap, HO3.out.ul, fr_bel (HO.out.fr.trans HO3.out.fr)⟩
        · have g5 : (0 : Int) < (cc : Int) := by omega
          go_wp2_with (at_builtin; refine wl_app_u32 (w0 := w) rfl _ _ _ Try.underlying34 rfl A' k c' o ((cc) % 4294967296) _ (by omega) (by omega) rfl rfl HO.out (by omega) ?_; intro A2 c2 w2 ho2; have HO2 := hide ho2; clear ho2)
          go_roundw
          case rel => exact ⟨k + 1, cc / 4294967296, A2, c2, _, by omega, by omega, rfl, vint (by omega), by go_num, HO2, hide (add_step (s := cc) HO.out.len HI.out (by rw [HP.out, HQ.out]; omega))⟩
          case measure => simp [intOf] <;> omega
/-- A round of the reference's subtraction: the limb p, the borrow and the limb q. -/
theorem minus_dig {p q b : Nat} (hp : p < 4294967296) (hq : q < 4294967296) (hb : b ≤ 1) (b' : Nat) (hb' : b' = if p < b + q then 1 else 0) :
    p + 4294967296 * b' - (b + q) < 4294967296 ∧ b + q ≤ p + 4294967296 * b' ∧ b' ≤ 1 := by
  subst hb'
  split <;> omega
end Go.Proofs.Ytnofljgmkdommaa

/- Contracts: the reference's Times. -/
namespace Go.Proofs.Ytnofljgmkdommaa
open Go.RowKit

set_option maxRecDepth 100000 in
set_option maxHeartbeats 8000000 in
theorem r1times_any (w : World) (av av' : Option Nat) (A : Option Addr) (n c : Nat) (B : Option Addr) (m d : Nat) (x y : Nat) (hU : Ul w av A n (lm x)) (hV : Ul w av' B m (lm y)) (hn : n ≤ 1000000) (hm : m ≤ 1000000) :
    Calls Try.prog 67 #[.slice A n c, .slice B m d] w fun e w' => ∃ A' m' c', e = .returned (.slice A' m' c') ∧ m' ≤ c' ∧ Ul w' none A' m' (lm (x * y)) ∧ Below w.heap.size w w' := by
  have HU := hide hU
  have HV := hide hV
  clear hU hV
  go_enter Try.func67, Try.ntmps67
  go_wp2_with (at_make; refine wl_make_u32 (w0 := w) rfl _ _ _ Try.underlying34 rfl (n + m) (n + m) _ _ rfl rfl (by omega) (by omega) (by omega) (by omega) (Fr.refl _ _) ?_; intro w1 ho1 hs1 hb1; have HO1 := hide ho1; clear ho1 hb1 hs1)
  go_loopw [6] (fun i wr => ∃ (k : Nat) (o : List Nat), k ≤ n ∧ i = .int .i64 k ∧ Hid (OF w wr (some ⟨w.heap.size, 0, none⟩) (n + m) (n + m) o) ∧ Hid (lv o = lv ((lm x).take k) * lv (lm y)) ∧ Hid (∀ j, k + m ≤ j → o[j]?.getD 0 = 0)) (fun i _ => n - (intOf i).toNat)
  case atStart => exact ⟨0, _, by omega, rfl, HO1, hide (by rw [lv_replicate]; simp [lv]), hide (fun j _ => by rw [List.getElem?_replicate]; split <;> rfl)⟩
  case round =>
    obtain ⟨i, o, hi, rfl, HO, HI, HJ⟩ := hrel
    by_cases hin : i < n
    · obtain ⟨b1, o1, p, rfl, -, -, hp, hpl, hcell⟩ := (HU.out.frF HO.out.fr).at hin
      have HP := hide (getD_some hp)
      have HPc := hide hp
      clear hp hcell
      have g1 : (0 : Int) ≤ (i : Int) := by omega
      have g2 : (i : Int) < (n : Int) := by omega
      go_wp2_with fail
      go_loopw [7, 8] (fun carry ix wr => ∃ (k c : Nat) (o' : List Nat), (k ≤ m ∨ c = 0 ∧ k = m + 1) ∧ c < 4294967296 ∧ carry = .int .u64 (c : Int) ∧ ix = .int .i64 k ∧ Hid (OF w wr (some ⟨w.heap.size, 0, none⟩) (n + m) (n + m) o') ∧ Hid (lv o' + 4294967296 ^ (i + k) * c = lv o + 4294967296 ^ i * (p * lv ((lm y).take k))) ∧ Hid (∀ j, i + k ≤ j → o'[j]? = o[j]?)) (fun _ ix _ => m + 2 - (intOf ix).toNat)
      case atStart => exact ⟨0, 0, o, by omega, by omega, rfl, rfl, HO, hide (by simp [lv]), hide (fun _ _ => rfl)⟩
      case round =>
        obtain ⟨k, c, o', hk, hc, rfl, rfl, HO2, HI2, HJ2⟩ := hrel
        obtain ⟨b9, o9, p9, hA9, -, -, hp9, hpl9, hcell⟩ := (HU.out.frF HO2.out.fr).at hin
        injection hA9 with hA9
        injection hA9 with h91 h92
        subst h91
        subst h92
        rw [HPc.out] at hp9
        injection hp9 with hp9
        subst hp9
        have g5 : (0 : Int) ≤ (k : Int) := by omega
        by_cases hkm : k < m
        · obtain ⟨b2, o2, q, rfl, -, -, hq, hql, hcell2⟩ := (HV.out.frF HO2.out.fr).at hkm
          obtain ⟨g', z, hg, -, hgl, hz, hzl, hcellz, hfz⟩ := HO2.out.at (k := i + k) (by omega)
          obtain rfl : w.heap.size = g' := by simpa using hg
          have HQ := hide (getD_some hq)
          have HZ2 := hide (getD_some hz)
          clear hq hz hg
          have g6 : (k : Int) < (m : Int) := by omega
          have g3 : (0 : Int) ≤ (i : Int) + (k : Int) := by omega
          have g4 : (i : Int) + (k : Int) < (n : Int) + (m : Int) := by omega
          obtain ⟨hxy, hxy0⟩ := mul_le hpl hql
          have hfz0 := hfz (i + k)
          clear hfz
          have hml := mul_lt hpl hql hzl hc
          go_upto_region 11 with (fail)
          go_region_held3 (fun W => W.cell? ⟨b1, o1 + i, none⟩ = some (.int .u32 (p : Int)) ∧ W.cell? ⟨b2, o2 + k, none⟩ = some (.int .u32 (q : Int))) (first | (go_keep; done) | ((try dsimp only); (repeat' apply And.intro) <;> first | (go_keep; done) | ((repeat rw [World.cell?_setCell_other _ _ _ _ (by intro h; injection h; omega)]); go_keep; done))) (fail)
          go_wp2_with fail
          have hp := (HO2.out.put (k := i + k) (x := (p * q + z + c) % 4294967296) (by omega) (by omega)).drew
          have e : (((p * q + z + c) % 4294967296 : Nat) : Int) = ((c : Int) + (z : Int) + (p : Int) * (q : Int)) % 4294967296 := by
            rw [Int.natCast_emod, Int.natCast_add, Int.natCast_add, Int.natCast_mul]
            congr 1
            omega
          have e2 : (((p * q + z + c) / 4294967296 : Nat) : Int) = ((c : Int) + (z : Int) + (p : Int) * (q : Int)) / 4294967296 := by
            rw [Int.natCast_ediv, Int.natCast_add, Int.natCast_add, Int.natCast_mul]
            congr 1
            omega
          rw [e] at hp
          refine ⟨⟨k + 1, (p * q + z + c) / 4294967296, _, by omega, ?_, vint e2.symm, by go_num, hide hp, hide ?_, hide ?_⟩, by simp [intOf] <;> omega⟩
          · omega
          · exact mul_step (by have := HO2.out.len; omega) HI2.out (by rw [HQ.out, HZ2.out])
          · intro j hj
            rw [List.getElem?_set_ne (by omega)]
            exact HJ2.out j (by omega)
        · by_cases hc0 : c = 0
          · subst hc0
            have g6 : decide ((k : Int) < (m : Int)) = false := decide_eq_false (by omega)
            have HV2 := hide (show lv ((lm y).take k) = lv (lm y) by rw [List.take_of_length_le (by have := HV.out.len; omega)])
            go_wp2_with fail
            go_roundw
            case rel =>
              refine ⟨i + 1, o', by omega, by go_num, HO2, hide ?_, hide ?_⟩
              · have h := HI2.out
                rw [Nat.mul_zero, Nat.add_zero, HV2.out] at h
                rw [h, HI.out, ← HP.out, mul_row]
              · intro j hj
                rw [HJ2.out j (by omega)]
                exact HJ.out j (by omega)
            case measure => simp [intOf] <;> omega
          · obtain rfl : k = m := by omega
            obtain ⟨g', z, hg, -, hgl, hz, hzl, hcellz, hfz⟩ := HO2.out.at (k := i + k) (by omega)
            obtain rfl : w.heap.size = g' := by simpa using hg
            have hz0 : z = 0 := by
              have := HJ.out (i + k) (Nat.le_refl _)
              rw [← HJ2.out _ (Nat.le_refl _), hz] at this
              exact this
            subst hz0
            have HZ2 := hide (getD_some hz)
            clear hz hg
            have hcp : (0 : Int) < (c : Int) := by omega
            have g3 : (0 : Int) ≤ (i : Int) + (k : Int) := by omega
            have g4 : (i : Int) + (k : Int) < (n : Int) + (k : Int) := by omega
            have hfz0 := hfz (i + k)
            clear hfz
            go_wp2_with fail
            have hp := HO2.out.put (k := i + k) (x := c) (by omega) hc
            have hs := mul_step (o := o') (b := lm y) (x := p) (s := c) (by have := HO2.out.len; omega) HI2.out (by rw [HZ2.out, getD_none (l := lm y) (k := k) (by have := HV.out.len; omega)]; first | done | omega)
            rw [Nat.mod_eq_of_lt hc, Nat.div_eq_of_lt hc] at hs
            refine ⟨⟨k + 1, 0, _, .inr ⟨rfl, rfl⟩, by omega, vint (by omega), by go_num, hide hp, hide hs, hide ?_⟩, by simp [intOf] <;> omega⟩
            intro j hj
            rw [List.getElem?_set_ne (by omega)]
            exact HJ2.out j (by omega)
    · obtain rfl : i = n := by omega
      have HE := hide (show lv o = x * y by rw [HI.out, List.take_of_length_le (by have := HU.out.len; omega), lv_lm, lv_lm])
      go_wp2_with (go_at_call 87; refine (r1trim_any _ none _ _ _ _ HO.out.ul (by omega) (by omega)).mono ?_; rintro e w3 ⟨A3, m3, c3, rfl, hm3, ho3⟩; rw [HE.out] at ho3; have HO3 := hide ho3; clear ho3)
      go_ret
      exact ⟨A3, m3, c3, rfl, HO3.out.cap, HO3.out.ul, fr_bel (HO.out.fr.trans HO3.out.fr)⟩
end Go.Proofs.Ytnofljgmkdommaa

/- Contracts: the reference's small, cut. -/
namespace Go.Proofs.Ytnofljgmkdommaa
open Go.RowKit

set_option maxRecDepth 100000 in
set_option maxHeartbeats 4000000 in
theorem r1small_any (w : World) (av : Option Nat) (A : Option Addr) (n c : Nat) (x d : Nat) (hU : Ul w av A n (lm x)) (hn : n ≤ 1000000) (hd : d < 4294967296) (hd1 : 1 ≤ d) :
    Calls Try.prog 100 #[.slice A n c, .int .u64 (d : Int)] w fun e w' => ∃ A' m' c' r, e = .returned (.tuple #[.slice A' m' c', .int .u64 ((r : Nat) : Int)]) ∧ m' ≤ c' ∧ r < d ∧ Hid (r = x % d) ∧ Ul w' none A' m' (lm (x / d)) ∧ Below w.heap.size w w' := by
  have HU := hide hU
  clear hU
  go_enter Try.func100, Try.ntmps100
  go_wp2_with (at_make; refine wl_make_u32 (w0 := w) rfl _ _ _ Try.underlying34 rfl n n _ _ rfl rfl rfl rfl (by omega) (by omega) (Fr.refl _ _) ?_; intro w1 ho1 hs1 hb1; have HO1 := hide ho1; clear ho1 hb1)
  go_loopw [7, 8] (fun rest i wr => ∃ (k r : Nat) (o : List Nat), k ≤ n ∧ r < d ∧ rest = .int .u64 (r : Int) ∧ i = .int .i64 ((k : Int) - 1) ∧ Hid (OF w wr (some ⟨w.heap.size, 0, none⟩) n n o) ∧ Hid (lv ((lm x).drop k) = lv (o.drop k) * d + r)) (fun _ i _ => (intOf i + 1).toNat)
  case atStart => exact ⟨n, 0, _, by omega, by omega, rfl, rfl, HO1, hide (by rw [List.drop_eq_nil_of_le (by have := HU.out.len; omega), List.drop_eq_nil_of_le (by simp)]; simp [lv])⟩
  case round =>
    obtain ⟨k, r, o, hk, hr, rfl, rfl, HO, HI⟩ := hrel
    by_cases hk0 : k = 0
    · subst hk0
      have h0 : lv (lm x) = lv o * d + r := HI.out
      rw [lv_lm] at h0
      have hq : lv o = x / d := by rw [h0, Nat.mul_comm, Nat.mul_add_div (by omega), Nat.div_eq_of_lt hr, Nat.add_zero]
      have hm : r = x % d := by rw [h0, Nat.mul_comm, Nat.mul_add_mod, Nat.mod_eq_of_lt hr]
      have HQ := hide hq
      have HM := hide hm
      clear h0 hq hm
      have g5 : (r : Int) % 4294967296 = (r : Int) := by omega
      go_wp2_with (go_at_call 87; refine (r1trim_any _ none _ _ _ _ HO.out.ul (by omega) (by omega)).mono ?_; rintro e w3 ⟨A3, m3, c3, rfl, hm3, ho3⟩; rw [HQ.out] at ho3; have HO3 := hide ho3; clear ho3)
      go_ret2
      exact ⟨A3, m3, c3, r, rfl, HO3.out.cap, hr, HM, HO3.out.ul, fr_bel (HO.out.fr.trans HO3.out.fr)⟩
    · obtain ⟨j, rfl⟩ : ∃ j, k = j + 1 := ⟨k - 1, by omega⟩
      obtain ⟨b, oo, p, rfl, -, -, hp, hpl, hcell⟩ := (HU.out.frF HO.out.fr).at (k := j) (by omega)
      obtain ⟨g', z, hg, -, hgl, hz, hzl, hcellz, hfz⟩ := HO.out.at (k := j) (by omega)
      obtain rfl : w.heap.size = g' := by simpa using hg
      have HP := hide hp
      clear hp hz hg
      have g1 : (0 : Int) ≤ (j : Int) := by omega
      have g2 : (j : Int) < (n : Int) := by omega
      have hor := or_32 r p (by omega) hpl
      have g3 : (1 : Int) ≤ (d : Int) := by omega
      have hfz0 := hfz j
      clear hfz
      have hs := small_lt hr hpl (s := r * 4294967296 + p) rfl
      have hs2 : ((r : Int) * 4294967296 + (p : Int)) / (d : Int) < 4294967296 := by
        have : (((r * 4294967296 + p) / d : Nat) : Int) < 4294967296 := by omega
        rw [Int.natCast_ediv] at this
        simpa using this
      have hs3 : 0 ≤ ((r : Int) * 4294967296 + (p : Int)) / (d : Int) := Int.ediv_nonneg (by omega) (by omega)
      have hr2 : r * 4294967296 + p < 18446744073709551616 := by omega
      have HS := hide hs
      go_wp2
      go_roundw
      case rel =>
        have hp := HO.out.put (k := j) (x := (r * 4294967296 + p) / d) (by omega) hs
        have e : (((r * 4294967296 + p) / d : Nat) : Int) = ((r : Int) * 4294967296 + (p : Int)) / (d : Int) := by rw [Int.natCast_ediv]; simp
        rw [e] at hp
        refine ⟨j, (r * 4294967296 + p) % d, _, by omega, Nat.mod_lt _ (by omega), vint (by rw [Int.natCast_emod]; simp), by go_num, hide hp, hide ?_⟩
        exact small_step (by have := HU.out.len; have := HO.out.len; omega) (by have := HU.out.len; omega) HP.out HI.out rfl
      case measure => simp [intOf] <;> omega

set_option maxRecDepth 100000 in
set_option maxHeartbeats 4000000 in
theorem r1cut_any (w : World) (av : Option Nat) (A : Option Addr) (n c : Nat) (l : List Nat) (hU : Ul w av A n l) (hc : n ≤ c) (hc63 : n ≤ 4294967296) :
    Calls Try.prog 103 #[.slice A n c] w fun e w' => ∃ m, e = .returned (.slice A m c) ∧ m ≤ n ∧ l.take m = lm (lv l) ∧ w' = w := by
  have HU := hide hU
  have HE := hide (show lv (l.take n) = lv l by rw [List.take_of_length_le (by have := hU.len; omega)])
  clear hU
  go_enter Try.func103, Try.ntmps103
  go_wp2
  go_loop [3] (fun v => ∃ k : Nat, k ≤ n ∧ v = .int .i64 (k : Int) ∧ Hid (lv (l.take k) = lv l)) (fun v => (intOf v).toNat)
  case atStart => exact ⟨n, Nat.le_refl _, rfl, HE⟩
  case round =>
    obtain ⟨k, hk, rfl, HK⟩ := hrel
    by_cases hk0 : k = 0
    · subst hk0
      have e : lm (lv l) = [] := by rw [← HK.out]; simp [lv, lm_zero]
      have HEE := hide e
      clear e
      go_wp2
      go_ret
      exact ⟨0, rfl, by omega, by rw [HEE.out]; rfl, rfl⟩
    · obtain ⟨j, rfl⟩ : ∃ j, k = j + 1 := ⟨k - 1, by omega⟩
      obtain ⟨b, o, x, rfl, -, -, hx, hxl, hcell⟩ := HU.out.at (k := j) (by omega)
      have HX := hide hx
      clear hx
      have g1 : (0 : Int) ≤ (j : Int) := by omega
      have g2 : decide ((0 : Int) < (j : Int) + 1) = true := decide_eq_true (by omega)
      have g3 : (j : Int) < (n : Int) := by omega
      by_cases hx0 : x = 0
      · subst hx0
        go_wp2
        go_round
        case rel => exact ⟨j, by omega, by go_num, hide ((lv_take_zero HX.out).symm.trans HK.out)⟩
        case measure => simp [intOf] <;> omega
      · have hxd : ((x : Int) == 0) = false := by simp; omega
        have HEE := hide (take_eq_lm HU.out.ok (by have := HU.out.len; omega) HK.out (.inr ⟨x, HX.out, hx0⟩))
        go_wp2
        go_ret
        exact ⟨j + 1, rfl, by omega, HEE.out, rfl⟩
end Go.Proofs.Ytnofljgmkdommaa

/- Contracts: the reference's up. -/
namespace Go.Proofs.Ytnofljgmkdommaa
open Go.RowKit

theorem ofInt_u32 (a : Nat) (ha : a < 4294967296) : (BitVec.ofInt 32 (a : Int)).toNat = a := by
  rw [BitVec.ofInt_natCast, BitVec.toNat_ofNat]; exact Nat.mod_eq_of_lt (by omega)
theorem u32_or (a b : Nat) (ha : a < 4294967296) (hb : b < 4294967296) : bits .or .u32 (a : Int) (b : Int) = ((a ||| b : Nat) : Int) := by
  show IntKind.u32.wrap ((BitVec.ofInt 32 (a : Int) ||| BitVec.ofInt 32 (b : Int)).toNat : Int) = _
  rw [BitVec.toNat_or, ofInt_u32 a (by omega), ofInt_u32 b (by omega)]
  have := Nat.or_lt_two_pow (n := 32) (x := a) (y := b) (by omega) (by omega)
  show ((a ||| b : Nat) : Int) % 4294967296 = _
  omega
/-- A round of the reference's shift: the limb p, what came over c. -/
theorem up_dig {p c s : Nat} (hs : s ≤ 31) (hp : p < 4294967296) (hc : c < 2 ^ s) : ∃ X L C : Nat, X < 9223372036854775808 ∧ IntKind.u64.wrap ((p : Int) * 2 ^ s) = (X : Int) ∧ L < 4294967296 ∧ C < 2 ^ s ∧ bits BinOp.or IntKind.u32 (c : Int) ((X : Int) % 4294967296) = (L : Int) ∧ (X : Int) / 4294967296 = (C : Int) ∧ L + 4294967296 * C = p * 2 ^ s + c := by
  have h1 : p * 2 ^ s + 2 ^ s ≤ 4294967296 * 2 ^ s := by
    have : (p + 1) * 2 ^ s ≤ 4294967296 * 2 ^ s := Nat.mul_le_mul_right _ hp
    rwa [Nat.add_mul, Nat.one_mul] at this
  have h2 : 2 ^ s ≤ 2147483648 := by
    have : (2 : Nat) ^ s ≤ 2 ^ 31 := Nat.pow_le_pow_right (by omega) hs
    omega
  have h3 : 4294967296 * 2 ^ s ≤ 4294967296 * 2147483648 := Nat.mul_le_mul_left _ h2
  obtain ⟨t, ht⟩ : ∃ t, (4294967296 : Nat) = 2 ^ t * 2 ^ s := ⟨32 - s, by rw [← Nat.pow_add, show 32 - s + s = 32 by omega]⟩
  have hlow : p * 2 ^ s % 4294967296 = (p % 2 ^ t) * 2 ^ s := by rw [ht, Nat.mul_mod_mul_right]
  have hpt : p % 2 ^ t + 1 ≤ 2 ^ t := Nat.mod_lt p (Nat.pow_pos (by omega))
  have hle : (p % 2 ^ t + 1) * 2 ^ s ≤ 2 ^ t * 2 ^ s := Nat.mul_le_mul_right _ hpt
  rw [Nat.add_mul, Nat.one_mul, ← ht] at hle
  have hC : p * 2 ^ s / 4294967296 < 2 ^ s := by
    rw [Nat.div_lt_iff_lt_mul (by omega), Nat.mul_comm (2 ^ s)]
    have : 0 < 2 ^ s := Nat.pow_pos (by omega)
    omega
  refine ⟨p * 2 ^ s, p * 2 ^ s % 4294967296 + c, p * 2 ^ s / 4294967296, by omega, ?_, by omega, hC, ?_, ?_, ?_⟩
  · have e : (p : Int) * 2 ^ s = ((p * 2 ^ s : Nat) : Int) := by rw [Int.natCast_mul, Int.natCast_pow]; rfl
    rw [e, IntWalk.u64_in _ (by omega)]
  · have e : ((p * 2 ^ s : Nat) : Int) % 4294967296 = ((p * 2 ^ s % 4294967296 : Nat) : Int) := by omega
    rw [e, u32_or _ _ (by omega) (by omega), Nat.or_comm, hlow, or_shift _ _ s hc]
  · omega
  · omega
theorem up_step {a o : List Nat} {k c x s L C : Nat} (ho : k + 1 < o.length) (hx : a[k]? = some x) (h : lv (o.take k) + 4294967296 ^ k * c = lv (a.take k) * 2 ^ s) (hs : L + 4294967296 * C = x * 2 ^ s + c) :
    lv (((o.set k L).set (k + 1) C).take (k + 1)) + 4294967296 ^ (k + 1) * C = lv (a.take (k + 1)) * 2 ^ s := by
  have e : ((o.set k L).set (k + 1) C).take (k + 1) = o.take k ++ [L] := by
    rw [List.take_set_of_le (by omega), take_set_succ (by omega)]
  rw [e, lv_snoc, List.length_take, Nat.min_eq_left (by omega), lv_take_succ hx, pow_succ_mul, Nat.add_assoc, ← Nat.mul_add, hs, Nat.add_mul, Nat.mul_assoc, Nat.mul_add]
  omega
set_option maxRecDepth 100000 in
set_option maxHeartbeats 4000000 in
theorem r1up_any (w : World) (av : Option Nat) (A : Option Addr) (n c : Nat) (x s : Nat) (hU : Ul w av A n (lm x)) (hn : n ≤ 1000000) (hs : s ≤ 31) :
    Calls Try.prog 101 #[.slice A n c, .int .i64 (s : Int)] w fun e w' => ∃ o, e = .returned (.slice (some ⟨w.heap.size, 0, none⟩) (n + 1) (n + 1)) ∧ lv o = x * 2 ^ s ∧ OF w w' (some ⟨w.heap.size, 0, none⟩) (n + 1) (n + 1) o := by
  have HU := hide hU
  clear hU
  go_enter Try.func101, Try.ntmps101
  go_wp2_with (at_make; refine wl_make_u32 (w0 := w) rfl _ _ _ Try.underlying34 rfl (n + 1) (n + 1) _ _ rfl rfl rfl rfl (by omega) (by omega) (Fr.refl _ _) ?_; intro w1 ho1 hs1 hb1; have HO1 := hide ho1; clear ho1 hb1)
  go_loopw [6] (fun i wr => ∃ (k c : Nat) (o : List Nat), k ≤ n ∧ c < 2 ^ s ∧ i = .int .i64 (k : Int) ∧ Hid (OF w wr (some ⟨w.heap.size, 0, none⟩) (n + 1) (n + 1) o) ∧ Hid (lv (o.take k) + 4294967296 ^ k * c = lv ((lm x).take k) * 2 ^ s) ∧ Hid (o[k]? = some c)) (fun i _ => n - (intOf i).toNat)
  case atStart => exact ⟨0, 0, _, by omega, Nat.pow_pos (by omega), rfl, HO1, hide (by simp [lv]), hide (by simp)⟩
  case round =>
    obtain ⟨k, c, o, hk, hc, rfl, HO, HI, HK⟩ := hrel
    have hc2 : c < 4294967296 := Nat.lt_of_lt_of_le hc (Nat.le_trans (Nat.pow_le_pow_right (by omega) hs) (by omega))
    by_cases hkn : k < n
    · obtain ⟨b, oo, p, rfl, -, -, hp, hpl, hcell⟩ := (HU.out.frF HO.out.fr).at hkn
      obtain ⟨g', z, hg, -, hgl, hz, hzl, hcellz, hfz⟩ := HO.out.at (k := k) (by omega)
      obtain rfl : w.heap.size = g' := by simpa using hg
      obtain ⟨g', z2, hg, -, -, hz2, hzl2, hcellz2, -⟩ := HO.out.at (k := k + 1) (by omega)
      obtain rfl : w.heap.size = g' := by simpa using hg
      rw [HK.out] at hz
      injection hz with hz
      subst hz
      have HP := hide hp
      clear hp hg hz2
      have g1 : (0 : Int) ≤ (k : Int) := by omega
      have g2 : (k : Int) < (n : Int) := by omega
      have g3 : (k : Int) < (n : Int) + 1 := by omega
      have g4 : (0 : Int) ≤ (k : Int) + 1 := by omega
      have g5 : (k : Int) + 1 < (n : Int) + 1 := by omega
      have hfz0 := hfz k
      have hfz1 := hfz (k + 1)
      clear hfz
      obtain ⟨X, L, C, hX, hwr, hL, hC, hor, hdiv, hS⟩ := up_dig hs hpl hc
      have HS := hide hS
      have HC := hide hC
      clear hS hc hC
      go_wp2_with fail
      have hp := (HO.out.put (k := k) (x := L) (by omega) hL).put (k := k + 1) (x := C) (by omega) (Nat.lt_of_lt_of_le HC.out (Nat.le_trans (Nat.pow_le_pow_right (by omega) hs) (by omega)))
      refine ⟨⟨k + 1, C, _, by omega, HC.out, by go_num, hide hp, hide (up_step (by have := HO.out.len; omega) HP.out HI.out HS.out), hide ?_⟩, by (simp [intOf] <;> omega)⟩
      rw [List.getElem?_set_self (by rw [List.length_set]; have := HO.out.len; omega)]
    · obtain rfl : k = n := by omega
      go_wp2_with fail
      go_ret
      refine ⟨o, rfl, ?_, HO.out⟩
      have h := lv_take_succ HK.out
      rw [List.take_of_length_le (by have := HO.out.len; omega), HI.out, List.take_of_length_le (by have := HU.out.len; omega), lv_lm] at h
      exact h
end Go.Proofs.Ytnofljgmkdommaa

/- A window into an own row; contract: the reference's down. -/
namespace Go.Proofs.Ytnofljgmkdommaa
open Go.RowKit

/-- A part of a row of a call's own. -/
structure Win (w0 w : World) (g off m c : Nat) (l : List Nat) : Prop where
  ex : ∃ (N C : Nat) (L : List Nat), OF w0 w (some ⟨g, 0, none⟩) N C L ∧ off + m ≤ N ∧ l = (L.drop off).take m
  hc : m ≤ c
theorem OF.win {w0 w : World} {g m c : Nat} {l : List Nat} (h : OF w0 w (some ⟨g, 0, none⟩) m c l) : Win w0 w g 0 m c l :=
  ⟨⟨m, c, l, h, by omega, by rw [List.drop_zero, List.take_of_length_le (by have := h.len; omega)]⟩, h.cap⟩
section
variable {w0 w w' : World} {g off m c : Nat} {l : List Nat}
theorem Win.ul (h : Win w0 w g off m c l) : Ul w none (some ⟨g, off, none⟩) m l := by
  obtain ⟨N, C, L, ho, hN, rfl⟩ := h.ex
  exact ho.seg hN
theorem Win.len (h : Win w0 w g off m c l) : l.length = m := h.ul.len
theorem Win.fr (h : Win w0 w g off m c l) : Fr w0 w (fun _ => False) := by
  obtain ⟨N, C, L, ho, -, -⟩ := h.ex
  exact ho.fr
theorem Win.at (h : Win w0 w g off m c l) {k : Nat} (hk : k < m) : ∃ x, w0.heap.size ≤ g ∧ g < w.heap.size ∧ l[k]? = some x ∧ x < 4294967296 ∧ w.cell? ⟨g, off + k, none⟩ = some (.int .u32 (x : Int)) ∧ (∀ j, w.frozen? ⟨g, j, none⟩ = false) := by
  obtain ⟨N, C, L, ho, hN, rfl⟩ := h.ex
  obtain ⟨g', x, hg, h1, h2, h3, h4, h5, h6⟩ := ho.at (k := off + k) (by omega)
  obtain rfl : g = g' := by simpa using hg
  exact ⟨x, h1, h2, by rw [List.getElem?_take, if_pos hk, List.getElem?_drop]; exact h3, h4, h5, h6⟩
theorem Win.gt (h : Win w0 w g off m c l) (hm : 0 < m) : w0.heap.size ≤ g ∧ g < w.heap.size := by
  obtain ⟨x, h1, h2, -⟩ := h.at hm
  exact ⟨h1, h2⟩
theorem Win.put (h : Win w0 w g off m c l) {k x : Nat} (hk : k < m) (hx : x < 4294967296) : Win w0 (w.setCell ⟨g, off + k, none⟩ (.int .u32 (x : Int))) g off m c (l.set k x) := by
  obtain ⟨N, C, L, ho, hN, rfl⟩ := h.ex
  refine ⟨⟨N, C, L.set (off + k) x, ho.put (by omega) hx, hN, ?_⟩, h.hc⟩
  apply List.ext_getElem?
  intro i
  have hl := ho.len
  simp only [List.getElem?_set, List.getElem?_take, List.getElem?_drop, List.length_take, List.length_drop]
  by_cases him : i < m
  · rw [if_pos him, if_pos him]
    by_cases hik : k = i
    · subst hik
      rw [if_pos rfl, if_pos (by omega), if_pos rfl, if_pos (by omega)]
    · rw [if_neg hik, if_neg (by omega)]
  · rw [if_neg him, if_neg him, if_neg (by omega)]
theorem Win.sub (h : Win w0 w g off m c l) {q : Nat} (hq : q ≤ m) : Win w0 w g (off + q) (m - q) (c - q) (l.drop q) := by
  obtain ⟨N, C, L, ho, hN, rfl⟩ := h.ex
  exact ⟨⟨N, C, L, ho, by omega, by rw [List.drop_take, List.drop_drop]⟩, by have := h.hc; omega⟩
theorem Win.take (h : Win w0 w g off m c l) {k : Nat} (hk : k ≤ m) : Win w0 w g off k c (l.take k) := by
  obtain ⟨N, C, L, ho, hN, rfl⟩ := h.ex
  exact ⟨⟨N, C, L, ho, by omega, by rw [List.take_take, Nat.min_eq_left hk]⟩, by have := h.hc; omega⟩
theorem Win.frS (h : Win w0 w g off m c l) {S : Nat → Prop} (hf : Fr w w' S) (hS : ¬ S g) (hS2 : ∀ k, S k → w0.heap.size ≤ k) : Win w0 w' g off m c l := by
  obtain ⟨N, C, L, ho, hN, hl⟩ := h.ex
  exact ⟨⟨N, C, L, ho.frS hf hS hS2, hN, hl⟩, h.hc⟩
theorem Win.drew (h : Win w0 w g off m c l) : Win w0 w.drew g off m c l := by
  obtain ⟨N, C, L, ho, hN, hl⟩ := h.ex
  exact ⟨⟨N, C, L, ho.drew, hN, hl⟩, h.hc⟩
theorem Win.below (h : Win w0 w g off m c l) (hb : Below w.heap.size w w') : Win w0 w' g off m c l := by
  obtain ⟨N, C, L, ho, hN, hl⟩ := h.ex
  exact ⟨⟨N, C, L, ho.below hb, hN, hl⟩, h.hc⟩
end
theorem down_val {l : List Nat} {n : Nat} (h : n / 32 ≤ l.length) (hl : okL l) : lv (l.drop (n / 32)) / 2 ^ (n % 32) = lv l / 2 ^ n := by
  have e : 2 ^ n = 4294967296 ^ (n / 32) * 2 ^ (n % 32) := by
    rw [show (4294967296 : Nat) = 2 ^ 32 from rfl, ← Nat.pow_mul, ← Nat.pow_add]
    congr 1
    omega
  have h1 := lv_take_drop l (n / 32) h
  have h2 := lv_lt (hl.take (n / 32))
  rw [List.length_take, Nat.min_eq_left h] at h2
  have h3 : lv l / 4294967296 ^ (n / 32) = lv (l.drop (n / 32)) := by
    rw [h1, Nat.add_comm, Nat.mul_add_div (Nat.pow_pos (by omega)), Nat.div_eq_of_lt h2, Nat.add_zero]
  rw [e, ← Nat.div_div_eq_div_mul, h3]
set_option maxRecDepth 100000 in
set_option maxHeartbeats 4000000 in
theorem r1down_any (w0 w : World) (g off m c : Nat) (l : List Nat) (n : Nat) (hW : Win w0 w g off m c l) (hn : n / 32 < m) (hn2 : n ≤ 40000000) (hm : m ≤ 1000000) :
    Calls Try.prog 90 #[.slice (some ⟨g, off, none⟩) m c, .int .i64 (n : Int)] w fun e w' => ∃ off' m' c', e = .returned (.slice (some ⟨g, off', none⟩) m' c') ∧ c' ≤ c ∧ Win w0 w' g off' m' c' (lm (lv l / 2 ^ n)) ∧ Fr w w' (fun b => b = g) := by
  have HW := hide hW
  have hmc := hW.hc
  clear hW
  obtain ⟨q, hq⟩ : ∃ q, q = n / 32 := ⟨_, rfl⟩
  obtain ⟨s, hs⟩ : ∃ s, s = n % 32 := ⟨_, rfl⟩
  have e1 : (n : Int) / 32 = (q : Int) := by omega
  have e2 : (n : Int).tmod 32 = (s : Int) := by rw [hs]; rfl
  have e3 : (n : Int).tdiv 32 = (q : Int) := by rw [hq]; rfl
  have hqm : q < m := by omega
  have hs32 : s < 32 := by omega
  have HQ := hide hq
  have HS := hide hs
  clear hq hs hn
  obtain ⟨M, rfl⟩ : ∃ M, m = q + M := ⟨m - q, by omega⟩
  obtain ⟨C2, rfl⟩ : ∃ C2, c = q + C2 := ⟨c - q, by omega⟩
  have hMC : M ≤ C2 := by omega
  have h1 := HW.out.sub (q := q) (by omega)
  rw [show q + M - q = M by omega, show q + C2 - q = C2 by omega] at h1
  have HL := hide (show lv (l.drop q) / 2 ^ s = lv l / 2 ^ n by
    rw [HQ.out, HS.out]
    exact down_val (by rw [HW.out.len, ← HQ.out]; omega) HW.out.ul.ok)
  have g1 : (0 : Int) ≤ (q : Int) := by omega
  have g2 : (q : Int) ≤ (q : Int) + (M : Int) := by omega
  have g4 : (q : Int) ≤ (q : Int) + (C2 : Int) := by omega
  go_enter Try.func90, Try.ntmps90
  go_wp2_with fail
  obtain ⟨O, hO⟩ : ∃ O, O = off + q := ⟨_, rfl⟩
  rw [← hO] at h1 ⊢
  obtain ⟨l1, hl1⟩ : ∃ l1, l1 = l.drop q := ⟨_, rfl⟩
  rw [← hl1] at h1 HL
  have H1 := hide h1
  clear h1 hl1 hO HW HQ HS
  go_loopw [5] (fun i wr => ∃ (k : Nat) (cur : List Nat), i = .int .i64 (k : Int) ∧ k ≤ M ∧ Hid (Win w0 wr g O M C2 cur) ∧ Hid (cur.drop k = l1.drop k) ∧ Hid (lv (cur.take k) + 4294967296 ^ k * (lv (l1.drop k) / 2 ^ s) = lv l1 / 2 ^ s) ∧ Hid (Fr w wr (fun b => b = g))) (fun i _ => M - (intOf i).toNat)
  case atStart => exact ⟨0, l1, rfl, by omega, H1, hide rfl, hide (by simp [lv]), hide (Fr.refl _ _)⟩
  case round =>
    obtain ⟨k, cur, rfl, hk, HWn, HD, HI, HF⟩ := hrel
    have g5 : (0 : Int) ≤ (k : Int) := by omega
    by_cases hkM : k = M
    · subst hkM
      have HE := hide (show lv cur = lv l1 / 2 ^ s by
        have h := HI.out
        rw [List.drop_eq_nil_of_le (by have := H1.out.len; omega), List.take_of_length_le (by have := HWn.out.len; omega)] at h
        simpa [lv] using h)
      go_wp2_with (go_at_call 103; refine (r1cut_any _ none _ _ _ _ HWn.out.ul (by omega) (by omega)).mono ?_; rintro e w3 ⟨m3, rfl, hm3, ht, rfl⟩; rw [HE.out, HL.out] at ht; have HT := hide ht; clear ht)
      go_ret
      exact ⟨O, m3, C2, rfl, by omega, by rw [← HT.out]; exact HWn.out.take hm3, HF.out⟩
    · obtain ⟨p, hg0, hgl, hp, hpl, hcell, hfz⟩ := HWn.out.at (k := k) (by omega)
      have hp1 : l1[k]? = some p := by
        have : (cur.drop k)[0]? = (l1.drop k)[0]? := by rw [HD.out]
        rw [List.getElem?_drop, List.getElem?_drop, Nat.add_zero, hp] at this
        exact this.symm
      have HP := hide hp1
      clear hp hp1
      have g6 : (k : Int) < (M : Int) := by omega
      have hfz0 := hfz (O + k)
      clear hfz
      have hs0 : (s : Int) < 64 := by omega
      have hs00 : (0 : Int) ≤ (s : Int) := by omega
      by_cases hk1 : k + 1 < M
      · obtain ⟨q2, -, -, hq, hql, hcell2, -⟩ := HWn.out.at (k := k + 1) hk1
        have hq1 : l1[k + 1]? = some q2 := by
          have : (cur.drop k)[1]? = (l1.drop k)[1]? := by rw [HD.out]
          rw [List.getElem?_drop, List.getElem?_drop, hq] at this
          exact this.symm
        have HQ := hide (getD_some hq1)
        clear hq hq1
        have g7 : (k : Int) + 1 < (M : Int) := by omega
        have hor := shr_or (s := s) hpl hql
        obtain ⟨S, hS⟩ : ∃ S : Nat, S = p + 4294967296 * q2 := ⟨_, rfl⟩
        rw [← hS] at hor
        have HS := hide hS
        clear hS
        go_wp2_with fail
        have hp := HWn.out.put (k := k) (x := S / 2 ^ s % 4294967296) (by omega) (by omega)
        have e : ((S / 2 ^ s % 4294967296 : Nat) : Int) = (S : Int) / 2 ^ s % 4294967296 := by rw [Int.natCast_emod, natCast_div2]; rfl
        rw [e] at hp
        refine ⟨⟨k + 1, _, by go_num, by omega, hide hp, hide ?_, hide ?_, hide (HF.out.setCell (.inr rfl) _)⟩, by (simp [intOf] <;> omega)⟩
        · rw [List.drop_set_of_lt (by omega), ← List.drop_drop, HD.out, List.drop_drop]
        · rw [take_set_succ (by have := HWn.out.len; omega)]
          exact shr_step (by rw [List.length_take]; have := HWn.out.len; omega) (by omega) H1.out.ul.ok HP.out (by rw [HQ.out]; rw [HS.out]) HI.out
      · have g7 : ¬ (k : Int) + 1 < (M : Int) := by omega
        have HQ := hide (getD_none (l := l1) (k := k + 1) (by have := H1.out.len; omega))
        go_wp2_with fail
        have hp := HWn.out.put (k := k) (x := p / 2 ^ s % 4294967296) (by omega) (by omega)
        have e : ((p / 2 ^ s % 4294967296 : Nat) : Int) = (p : Int) / 2 ^ s % 4294967296 := by rw [Int.natCast_emod, natCast_div2]; rfl
        rw [e] at hp
        refine ⟨⟨k + 1, _, by go_num, by omega, hide hp, hide ?_, hide ?_, hide (HF.out.setCell (.inr rfl) _)⟩, by (simp [intOf] <;> omega)⟩
        · rw [List.drop_set_of_lt (by omega), ← List.drop_drop, HD.out, List.drop_drop]
        · rw [take_set_succ (by have := HWn.out.len; omega)]
          exact shr_step (by rw [List.length_take]; have := HWn.out.len; omega) (by omega) H1.out.ul.ok HP.out (by rw [HQ.out]; simp) HI.out
end Go.Proofs.Ytnofljgmkdommaa
