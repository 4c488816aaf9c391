/- Contracts of the functions that these laws reach: part 7: Contracts: the reference's zeros, take; Contract: the reference's Common (greatest common divisors, by twos); Contract: the reference's place. -/
import Derived.Test.YtnofljgmkdommaaG6
import Derived.Deep.LoopGhost
import Derived.BigQuiet
set_option linter.unusedVariables false
set_option linter.unusedSimpArgs false

/- Contracts: the reference's zeros, take. -/
namespace Go.Proofs.Ytnofljgmkdommaa
open Go.RowKit

theorem zeros_val {l : List Nat} {n x t p : Nat} (hl : okL l) (h0 : lv (l.take n) = 0) (hp : l[n]? = some p) (hpx : p = x * 2 ^ t) (hx : x % 2 = 1) : ∃ u, lv l = 2 ^ (32 * n + t) * u ∧ u % 2 = 1 := by
  have hpl := hl.get hp
  have ht : t < 32 := by
    rcases Nat.lt_or_ge t 32 with h | h
    · exact h
    · exfalso
      have h1 : 2 ^ 32 ≤ 2 ^ t := Nat.pow_le_pow_right (by omega) h
      have h2 : 1 * 2 ^ t ≤ x * 2 ^ t := Nat.mul_le_mul_right _ (by omega)
      omega
  have hn : n < l.length := (List.getElem?_eq_some_iff.1 hp).1
  have e := lv_take_drop l n (by omega)
  rw [h0, Nat.zero_add, lv_drop hp] at e
  have hB : (4294967296 : Nat) = 2 ^ t * 2 ^ (32 - t) := by rw [← Nat.pow_add, show t + (32 - t) = 32 by omega]
  refine ⟨x + 2 ^ (32 - t) * lv (l.drop (n + 1)), ?_, ?_⟩
  · rw [e, Nat.pow_add, show (2 : Nat) ^ (32 * n) = 4294967296 ^ n by rw [Nat.pow_mul], Nat.mul_assoc]
    congr 1
    rw [Nat.mul_add, ← Nat.mul_assoc, ← hB, hpx, Nat.mul_comm x]
  · obtain ⟨d, hd⟩ : ∃ d, 32 - t = d + 1 := ⟨31 - t, by omega⟩
    rw [hd, Nat.pow_succ, Nat.mul_comm (2 ^ d) 2, Nat.mul_assoc]
    omega
set_option maxRecDepth 100000 in
set_option maxHeartbeats 4000000 in
theorem r1zeros_any (w : World) (av : Option Nat) (A : Option Addr) (m c : Nat) (l : List Nat) (hU : Ul w av A m l) (hl : lv l ≠ 0) (hm : m ≤ 1000000) :
    Calls Try.prog 89 #[.slice A m c] w fun e w' => ∃ z u : Nat, e = .returned (.int .i64 (z : Int)) ∧ Hid (lv l = 2 ^ z * u) ∧ u % 2 = 1 ∧ z / 32 < m ∧ w' = w := by
  have HU := hide hU
  have HL := hide hl
  clear hU hl
  go_enter Try.func89, Try.ntmps89
  go_wp2
  go_loop [3] (fun v => ∃ n : Nat, v = .int .i64 (n : Int) ∧ n ≤ m ∧ Hid (lv (l.take n) = 0)) (fun v => m - (intOf v).toNat)
  case atStart => exact ⟨0, rfl, by omega, hide (by simp [lv])⟩
  case round =>
    obtain ⟨n, rfl, hn, H0⟩ := hrel
    have hnm : n < m := by
      rcases Nat.lt_or_ge n m with h | h
      · exact h
      · exfalso
        have := H0.out
        rw [List.take_of_length_le (by have := HU.out.len; omega)] at this
        exact HL.out this
    obtain ⟨b, o, p, rfl, -, -, hp, hpl, hcell⟩ := HU.out.at (k := n) hnm
    have HP := hide hp
    clear hp
    have g1 : (0 : Int) ≤ (n : Int) := by omega
    have g2 : (n : Int) < (m : Int) := by omega
    by_cases hp0 : p = 0
    · subst hp0
      go_wp2
      go_round
      case rel => exact ⟨n + 1, by go_num, by omega, hide (by rw [lv_take_zero HP.out]; exact H0.out)⟩
      case measure => simp [intOf] <;> omega
    · have hpd : ((p : Int) == 0) = false := by simp; omega
      go_wp2
      go_loop [4, 5] (fun k x => ∃ t q : Nat, k = .int .i64 ((32 * n + t : Nat) : Int) ∧ x = .int .u32 (q : Int) ∧ 0 < q ∧ t < 32 ∧ Hid (p = q * 2 ^ t) ∧ q < 4294967296) (fun _ x => (intOf x).toNat)
      case atStart => exact ⟨0, p, by go_num, rfl, by omega, by omega, hide (by simp), hpl⟩
      case round =>
        obtain ⟨t, q, rfl, rfl, hq0, ht, HQ, hql⟩ := hrel
        by_cases hq2 : q % 2 = 1
        · have g3 : ((q : Int) % 2 == 0) = false := by simp; omega
          go_wp2
          go_ret
          obtain ⟨u, hu, hu2⟩ := zeros_val HU.out.ok H0.out HP.out HQ.out hq2
          exact ⟨32 * n + t, rfl, u, hide hu, hu2, by omega, rfl⟩
        · have g3 : ((q : Int) % 2 == 0) = true := by simp; omega
          obtain ⟨h, hh⟩ : ∃ h, h = q / 2 := ⟨_, rfl⟩
          have e1 : IntKind.u32.wrap (((q : Int)).tdiv 2) = (h : Int) := by
            rw [hh]
            show (((q / 2 : Nat) : Int)) % 4294967296 = _
            omega
          have e2 : (q : Int) / 2 = (h : Int) := by omega
          have hq2h : q = h * 2 := by omega
          have hh0 : 0 < h := by omega
          have HH := hide hq2h
          clear hh hq2h
          have ht31 : t < 31 := by
            rcases Nat.lt_or_ge t 31 with h | h
            · exact h
            · exfalso
              obtain rfl : t = 31 := by omega
              have h1 := HQ.out
              have h2 := HH.out
              rw [h2] at h1
              omega
          go_wp2
          go_round
          case rel =>
            refine ⟨t + 1, h, by go_num, rfl, hh0, by omega, hide ?_, by have := HH.out; omega⟩
            rw [HQ.out, Nat.pow_succ, Nat.mul_comm (2 ^ t) 2, ← Nat.mul_assoc, HH.out]
          case measure => simp [intOf] <;> (have := HH.out; omega)
set_option maxRecDepth 100000 in
set_option maxHeartbeats 4000000 in
theorem r1take_any (w0 w : World) (g off m c g2 off2 m2 c2 X Y : Nat) (hW : Win w0 w g off m c (lm X)) (hV : Win w0 w g2 off2 m2 c2 (lm Y)) (hgg : g2 ≠ g) (hYX : Y ≤ X) (hm : m ≤ 1000000) :
    Calls Try.prog 91 #[.slice (some ⟨g, off, none⟩) m c, .slice (some ⟨g2, off2, none⟩) m2 c2] w fun e w' => ∃ m', e = .returned (.slice (some ⟨g, off, none⟩) m' c) ∧ Win w0 w' g off m' c (lm (X - Y)) ∧ Fr w w' (fun b => b = g) := by
  have HW := hide hW
  have HV := hide hV
  have hmc := hW.hc
  have hmn : m2 ≤ m := by
    have := lm_length_mono hYX
    rw [hW.len, hV.len] at this
    exact this
  clear hW hV
  go_enter Try.func91, Try.ntmps91
  go_wp2_with fail
  go_loopw [5, 6] (fun bo i wr => ∃ (k b : Nat) (cur : List Nat), bo = .int .u64 (b : Int) ∧ i = .int .i64 (k : Int) ∧ k ≤ m ∧ b ≤ 1 ∧ Hid (Win w0 wr g off m c cur) ∧ Hid (cur.drop k = (lm X).drop k) ∧ Hid (lv (cur.take k) + lv ((lm Y).take k) = lv ((lm X).take k) + 4294967296 ^ k * b) ∧ Hid (Fr w wr (fun b => b = g))) (fun _ i _ => m - (intOf i).toNat)
  case atStart => exact ⟨0, 0, lm X, rfl, rfl, by omega, by omega, HW, hide rfl, hide (by simp [lv]), hide (Fr.refl _ _)⟩
  case round =>
    obtain ⟨k, b, cur, rfl, rfl, hk, hb1, HWn, HD, HI, HF⟩ := hrel
    have g5 : (0 : Int) ≤ (k : Int) := by omega
    by_cases hkm : k = m
    · subst hkm
      have HE := hide (show lv cur = X - Y by
        have h := HI.out
        rw [List.take_of_length_le (l := cur) (by have := HWn.out.len; omega), List.take_of_length_le (l := lm Y) (by have := HV.out.len; omega), List.take_of_length_le (l := lm X) (by have := HW.out.len; omega)] at h
        have := sub_end (n := k) HWn.out.ul.ok HWn.out.len h (by rw [lv_lm, lv_lm]; exact hYX)
        rwa [lv_lm, lv_lm] at this)
      go_wp2_with (go_at_call 103; refine (r1cut_any _ none _ _ _ _ HWn.out.ul (by omega) (by omega)).mono ?_; rintro e w3 ⟨m3, rfl, hm3, ht, rfl⟩; rw [HE.out] at ht; have HT := hide ht; clear ht)
      go_ret
      exact ⟨m3, rfl, by rw [← HT.out]; exact HWn.out.take hm3, HF.out⟩
    · obtain ⟨p, hg0, hgl, hp, hpl, hcell, hfz⟩ := HWn.out.at (k := k) (by omega)
      have hp1 : (lm X)[k]? = some p := by
        have : (cur.drop k)[0]? = ((lm X).drop k)[0]? := by rw [HD.out]
        rw [List.getElem?_drop, List.getElem?_drop, Nat.add_zero, hp] at this
        exact this.symm
      have HP := hide (getD_some hp1)
      clear hp hp1
      have g6 : (k : Int) < (m : Int) := by omega
      have hfz0 := hfz (off + k)
      clear hfz
      have HV2 := hide (HV.out.frS HF.out (by omega) (fun j hj => by omega))
      by_cases hkm2 : k < m2
      · obtain ⟨q, -, -, hq, hql, hcell2, -⟩ := HV2.out.at hkm2
        have HQ := hide (getD_some hq)
        clear hq
        have g7 : (k : Int) < (m2 : Int) := by omega
        obtain ⟨e, b', he, hb', h1, h2, h3⟩ := sub_dig (q := q) hpl hb1 hql
        have H1 := hide h1
        have H2 := hide h2
        have H3 := hide h3
        clear h1 h2 h3
        go_wp2_with fail
        have hp := HWn.out.put (k := k) (x := e) (by omega) he
        have hi := sub_step (o := cur.take k) (a := lm X) (b := lm Y) (k := k) (w := b) (d := e) (w' := b') (by rw [List.length_take]; have := HWn.out.len; omega) HI.out (by rw [HP.out, HQ.out]; exact H3.out)
        rw [← H1.out] at hp
        refine ⟨⟨k + 1, b', _, vint H2.out, by go_num, by omega, hb', hide hp, hide ?_, hide ?_, hide (HF.out.setCell (.inr rfl) _)⟩, by (simp [intOf] <;> omega)⟩
        · rw [List.drop_set_of_lt (by omega), ← List.drop_drop, HD.out, List.drop_drop]
        · rw [take_set_succ (by have := HWn.out.len; omega)]
          exact hi
      · have g7 : ¬ (k : Int) < (m2 : Int) := by omega
        have HQ := hide (getD_none (l := lm Y) (k := k) (by have := HV.out.len; omega))
        obtain ⟨e, b', he, hb', h1, h2, h3⟩ := sub_dig0 hpl hb1
        have H1 := hide h1
        have H2 := hide h2
        have H3 := hide h3
        clear h1 h2 h3
        go_wp2_with fail
        have hp := HWn.out.put (k := k) (x := e) (by omega) he
        have hi := sub_step (o := cur.take k) (a := lm X) (b := lm Y) (k := k) (w := b) (d := e) (w' := b') (by rw [List.length_take]; have := HWn.out.len; omega) HI.out (by rw [HP.out, HQ.out]; exact H3.out)
        rw [← H1.out] at hp
        refine ⟨⟨k + 1, b', _, vint H2.out, by go_num, by omega, hb', hide hp, hide ?_, hide ?_, hide (HF.out.setCell (.inr rfl) _)⟩, by (simp [intOf] <;> omega)⟩
        · rw [List.drop_set_of_lt (by omega), ← List.drop_drop, HD.out, List.drop_drop]
        · rw [take_set_succ (by have := HWn.out.len; omega)]
          exact hi
end Go.Proofs.Ytnofljgmkdommaa

/- Contract: the reference's Common (greatest common divisors, by twos). -/
namespace Go.Proofs.Ytnofljgmkdommaa
open Go.RowKit

theorem OF.base {w0 w1 w : World} {A : Option Addr} {m c : Nat} {l : List Nat} (h : OF w1 w A m c l) (hf : Fr w0 w1 (fun _ => False)) : OF w0 w A m c l := ⟨own_base h.own hf.size, h.len, h.ok, hf.trans h.fr⟩
theorem Win.dr {w0 w w' : World} {g off m c : Nat} {l : List Nat} (h : Win w0 w g off m c l) (hd : Dr w w') : Win w0 w' g off m c l := h.below hd.below
theorem len_bound {x y n : Nat} (h : x ≤ y) (hy : (lm y).length ≤ n) : (lm x).length ≤ n := Nat.le_trans (lm_length_mono h) hy
theorem lm_pos_len1 {x n : Nat} (h : 0 < x) (hl : (lm x).length = n) : 0 < n := by
  rcases Nat.eq_zero_or_pos n with h0 | h0
  · rw [h0] at hl
    have := lv_lm x
    rw [List.eq_nil_of_length_eq_zero hl] at this
    simp [lv] at this
    omega
  · exact h0
theorem odd_sub {u v : Nat} (hu : u % 2 = 1) (hv : v % 2 = 1) : (u - v) % 2 = 0 := by omega
/-- A round: the lesser one is taken away, the twos are left out. -/
theorem gcd_round {u v z d : Nat} (hu : u % 2 = 1) (hv : v % 2 = 1) (hlt : v < u) (h : u - v = 2 ^ z * d) (hd : d % 2 = 1) : Nat.gcd d v = Nat.gcd u v ∧ d + v < u + v ∧ (u - v) / 2 ^ z = d := by
  have h2 : 0 < 2 ^ z := Nat.pow_pos (by omega)
  have hle : d ≤ 2 ^ z * d := Nat.le_mul_of_pos_left _ h2
  refine ⟨?_, by omega, by rw [h, Nat.mul_div_cancel_left _ h2]⟩
  rw [← gcd_odd (t := z) hv, ← h, gcd_sub (Nat.le_of_lt hlt)]
/-- A power of two in limbs. -/
theorem two_limbs (n : Nat) : (List.replicate (n / 32 + 1) 0).set (n / 32) (2 ^ (n % 32)) = lm (2 ^ n) := by
  have e : (List.replicate (n / 32 + 1) 0).set (n / 32) (2 ^ (n % 32)) = List.replicate (n / 32) 0 ++ [2 ^ (n % 32)] := by
    rw [List.replicate_succ', List.set_append_right _ _ (by simp)]
    simp
  have hp : 0 < 2 ^ (n % 32) := Nat.pow_pos (by omega)
  have hlt : 2 ^ (n % 32) < 4294967296 := by
    have : 2 ^ (n % 32) < 2 ^ 32 := Nat.pow_lt_pow_right (by omega) (by omega)
    omega
  have hv : lv (List.replicate (n / 32) 0 ++ [2 ^ (n % 32)]) = 2 ^ n := by
    rw [lv_snoc, lv_replicate, List.length_replicate, Nat.zero_add, show (4294967296 : Nat) = 2 ^ 32 from rfl, ← Nat.pow_mul, ← Nat.pow_add]
    congr 1
    omega
  rw [e, ← hv]
  refine (lm_lv (okL.append (okL_replicate _) (fun y hy => by simp at hy; omega)) (fun hne => ?_)).symm
  simp
theorem two_lt {s : Nat} (hs : s < 32) : 2 ^ s < 4294967296 := by
  have : 2 ^ s < 2 ^ 32 := Nat.pow_lt_pow_right (by omega) hs
  omega
theorem two_limbs' {q s t : Nat} (hq : q = t / 32) (hs : s = t % 32) : (List.replicate (q + 1) 0).set q (2 ^ s) = lm (2 ^ t) := by subst hq; subst hs; exact two_limbs t
theorem two_cast {s : Nat} (hs : s < 32) : ((2 ^ s : Nat) : Int) = (2 : Int) ^ s % 4294967296 := by
  have h := two_lt hs
  have e : ((2 ^ s : Nat) : Int) = (2 : Int) ^ s := by rw [Int.natCast_pow]; rfl
  rw [← e]
  generalize 2 ^ s = k at h ⊢
  omega
theorem r1down_z (w0 w : World) (g off m c X z u : Nat) (hW : Win w0 w g off m c (lm X)) (hX : Hid (lv (lm X) = 2 ^ z * u)) (hz : z / 32 < m) (hm : m ≤ 1000000) :
    Calls Try.prog 90 #[.slice (some ⟨g, off, none⟩) m c, .int .i64 (z : Int)] w fun e w' => ∃ off' m' c', e = .returned (.slice (some ⟨g, off', none⟩) m' c') ∧ Win w0 w' g off' m' c' (lm u) ∧ Fr w w' (fun b => b = g) := by
  refine (r1down_any w0 w g off m c (lm X) z hW hz (by omega) hm).mono ?_
  rintro e w' ⟨off', m', c', rfl, -, hw, hf⟩
  rw [hX.out, Nat.mul_div_cancel_left _ (Nat.pow_pos (by omega))] at hw
  exact ⟨off', m', c', rfl, hw, hf⟩
theorem r1order_w (w0 w : World) (g1 o1 n1 c1 g2 o2 n2 c2 u v : Nat) (k : Int) (h1 : Win w0 w g1 o1 n1 c1 (lm u)) (h2 : Win w0 w g2 o2 n2 c2 (lm v)) (hn1 : n1 ≤ 1000000) (hn2 : n2 ≤ 1000000) (hk : cmpN u v = k) :
    Calls Try.prog 71 #[.slice (some ⟨g1, o1, none⟩) n1 c1, .slice (some ⟨g2, o2, none⟩) n2 c2] w fun e w' => e = .returned (.int .i64 k) ∧ Win w0 w' g1 o1 n1 c1 (lm u) ∧ Win w0 w' g2 o2 n2 c2 (lm v) := by
  refine (r1order_any w none none _ n1 c1 _ n2 c2 u v h1.ul h2.ul (by omega) (by omega)).mono ?_
  rintro e w' ⟨rfl, hd⟩
  exact ⟨by rw [hk], h1.dr hd, h2.dr hd⟩
theorem r1take_w (w0 w : World) (g off m c g2 off2 m2 c2 X Y : Nat) (hW : Win w0 w g off m c (lm X)) (hV : Win w0 w g2 off2 m2 c2 (lm Y)) (hgg : g ≠ g2) (hYX : Y ≤ X) (hm : m ≤ 1000000) (hg : w0.heap.size ≤ g) :
    Calls Try.prog 91 #[.slice (some ⟨g, off, none⟩) m c, .slice (some ⟨g2, off2, none⟩) m2 c2] w fun e w' => ∃ m', e = .returned (.slice (some ⟨g, off, none⟩) m' c) ∧ m' ≤ 1000000 ∧ Win w0 w' g off m' c (lm (X - Y)) ∧ Win w0 w' g2 off2 m2 c2 (lm Y) := by
  refine (r1take_any w0 w g off m c g2 off2 m2 c2 X Y hW hV (fun h => hgg h.symm) hYX hm).mono ?_
  rintro e w' ⟨m', rfl, h1, hf⟩
  refine ⟨m', rfl, ?_, h1, hV.frS hf (fun h => hgg h.symm) (fun b hb => by omega)⟩
  rw [← h1.len]
  exact len_bound (Nat.sub_le _ _) (by rw [hW.len]; exact hm)
theorem r1down_w (w0 w : World) (g off m c g2 off2 m2 c2 X Y z u : Nat) (hW : Win w0 w g off m c (lm X)) (hV : Win w0 w g2 off2 m2 c2 (lm Y)) (hgg : g ≠ g2) (hg : w0.heap.size ≤ g) (hX : Hid (lv (lm X) = 2 ^ z * u)) (hz : z / 32 < m) (hm : m ≤ 1000000) :
    Calls Try.prog 90 #[.slice (some ⟨g, off, none⟩) m c, .int .i64 (z : Int)] w fun e w' => ∃ off' m' c', e = .returned (.slice (some ⟨g, off', none⟩) m' c') ∧ m' ≤ 1000000 ∧ Win w0 w' g off' m' c' (lm u) ∧ Win w0 w' g2 off2 m2 c2 (lm Y) := by
  refine (r1down_z w0 w g off m c X z u hW hX hz hm).mono ?_
  rintro e w' ⟨off', m', c', rfl, h1, hf⟩
  refine ⟨off', m', c', rfl, ?_, h1, hV.frS hf (fun h => hgg h.symm) (fun b hb => by omega)⟩
  rw [← h1.len]
  refine len_bound (y := X) ?_ (by rw [hW.len]; exact hm)
  rw [← lv_lm X, hX.out]
  exact Nat.le_mul_of_pos_left _ (Nat.pow_pos (by omega))
set_option maxRecDepth 100000 in
set_option maxHeartbeats 8000000 in
theorem r1common_any (w : World) (av av' : Option Nat) (A : Option Addr) (n c : Nat) (B : Option Addr) (m d : Nat) (X Y : Nat) (hU : Ul w av A n (lm X)) (hV : Ul w av' B m (lm Y)) (hn : n ≤ 1000000) (hm : m ≤ 1000000) :
    Calls Try.prog 72 #[.slice A n c, .slice B m d] w fun e w' => ∃ A' m' c', e = .returned (.slice A' m' c') ∧ m' ≤ c' ∧ Ul w' none A' m' (lm (Nat.gcd X Y)) ∧ Below w.heap.size w w' := by
  have HU := hide hU
  have HV := hide hV
  clear hU hV
  go_enter Try.func72, Try.ntmps72
  go_upto_region 1 with (fail)
  go_upto_region 2 with (first
    | (at_builtin; refine wl_appall_u32 (w0 := w) rfl _ _ _ Try.underlying34 rfl none 0 0 [] av A n c (lm X) rfl rfl (OF.nil (Fr.refl w _)) HU.out (by omega) ?_; intro A1 c1 w1 ho; rw [List.nil_append, Nat.zero_add] at ho; rw [Nat.zero_add]; have HO1 := hide ho; clear ho)
    | (at_builtin; refine wl_appall_u32 (w0 := w1) rfl _ _ _ Try.underlying34 rfl none 0 0 [] av' B m d (lm Y) rfl rfl (OF.nil (Fr.refl w1 _)) (HV.out.frF HO1.out.fr) (by omega) ?_; intro A2 c2 w2 ho; rw [List.nil_append, Nat.zero_add] at ho; rw [Nat.zero_add]; have HO2 := hide ho; clear ho))
  have HO1b := hide (HO1.out.below (fr_bel HO2.out.fr))
  have HO2b := hide (HO2.out.base HO1.out.fr)
  by_cases hX0 : X = 0
  · subst hX0
    have hn0 : n = 0 := by have := HU.out.len; rw [lm_zero] at this; simpa using this.symm
    subst hn0
    go_wp2_with fail
    go_ret
    exact ⟨A2, m, c2, rfl, HO2.out.cap, by rw [Nat.gcd_zero_left]; exact HO2.out.ul, fr_bel HO2b.out.fr⟩
  · have hn0 : 0 < n := lm_pos_len1 (by omega) HU.out.len
    have dn0 : ((n : Int) == 0) = false := by simp; omega
    by_cases hY0 : Y = 0
    · subst hY0
      have hm0 : m = 0 := by have := HV.out.len; rw [lm_zero] at this; simpa using this.symm
      subst hm0
      go_wp2_with fail
      go_ret
      exact ⟨A1, n, c1, rfl, HO1.out.cap, by rw [Nat.gcd_zero_right]; exact HO1b.out.ul, fr_bel HO1b.out.fr⟩
    · have hm0 : 0 < m := lm_pos_len1 (by omega) HV.out.len
      have dm0 : ((m : Int) == 0) = false := by simp; omega
      obtain ⟨g1, x1, rfl, hg1, hgl1, -, -, -, -⟩ := HO1.out.at (k := 0) hn0
      obtain ⟨g2, x2, rfl, hg2, hgl2, -, -, -, -⟩ := HO2.out.at (k := 0) hm0
      have hg12 : g1 ≠ g2 := by omega
      have HW1 := hide HO1b.out.win
      have HW2 := hide HO2b.out.win
      have HFR := hide HO2b.out.fr
      have HX := hide (show lv (lm X) ≠ 0 by rw [lv_lm]; exact hX0)
      have HY := hide (show lv (lm Y) ≠ 0 by rw [lv_lm]; exact hY0)
      clear HO1 HO2 HO1b HO2b
      have hg1w : w.heap.size ≤ g1 := hg1
      have hg2w : w.heap.size ≤ g2 := by have := HW2.out.gt hm0; omega
      clear hg1 hgl1 hg2
      go_upto_region 8 with (first
        | (go_at_call 89; (with_reducible refine (r1zeros_any _ none _ n c1 (lm X) HW1.out.ul HX.out hn).mono ?_); rintro e w' ⟨i, u, rfl, hu, hu2, hi, rfl⟩)
        | (go_at_call 89; (with_reducible refine (r1zeros_any _ none _ m c2 (lm Y) HW2.out.ul HY.out hm).mono ?_); rintro e w' ⟨j, v, rfl, hv, hv2, hj, rfl⟩)
        | (go_at_call 90; (with_reducible refine (r1down_w w _ g1 0 n c1 g2 0 m c2 X Y i u HW1.out HW2.out hg12 hg1w hu hi hn).mono ?_); rintro e w3 ⟨o3, m3, c3, rfl, hm3, hw3, hw3b⟩; have HW3 := hide hw3; have HW2b := hide hw3b; clear hw3 hw3b)
        | (go_at_call 90; (with_reducible refine (r1down_w w _ g2 0 m c2 g1 o3 m3 c3 Y u j v HW2b.out HW3.out (Ne.symm hg12) hg2w hv hj hm).mono ?_); rintro e w4 ⟨o4, m4, c4, rfl, hm4, hw4, hw4b⟩; have HW4 := hide hw4; have HW3b := hide hw4b; clear hw4 hw4b))
      clear HW1 HW2 HFR HW3 HW2b HX HY
      go_loopg [5, 6] (u + v) (fun g s5 s6 wr => ∃ g1 o1 n1 c1 g2 o2 n2 c2 x y : Nat, s5 = .slice (some ⟨g1, o1, none⟩) n1 c1 ∧ s6 = .slice (some ⟨g2, o2, none⟩) n2 c2 ∧ g1 ≠ g2 ∧ w.heap.size ≤ g1 ∧ w.heap.size ≤ g2 ∧ n1 ≤ 1000000 ∧ n2 ≤ 1000000 ∧ x % 2 = 1 ∧ y % 2 = 1 ∧ Hid (g = x + y) ∧ Hid (Win w wr g1 o1 n1 c1 (lm x)) ∧ Hid (Win w wr g2 o2 n2 c2 (lm y)) ∧ Hid (Nat.gcd x y = Nat.gcd u v))
      case atStart => exact ⟨g1, o3, m3, c3, g2, o4, m4, c4, u, v, rfl, rfl, hg12, hg1w, hg2w, hm3, hm4, hu2, hv2, hide rfl, HW3b, HW4, hide rfl⟩
      case round =>
        clear HW3b HW4 hg1w hg2w hg12 hm3 hm4
        obtain ⟨g1, o1, n1, c1, g2, o2, n2, c2, x, y, rfl, rfl, hg12, hg1, hg2, hn1, hn2, hx2, hy2, HG, HX, HY, HI⟩ := hrel
        rcases Nat.lt_trichotomy x y with hlt | heq | hgt
        · have hk := cmpN_lt hlt
          have HLT := hide hlt
          have HNZ := hide (show lv (lm (y - x)) ≠ 0 by rw [lv_lm]; omega)
          clear hlt
          go_wp2_with (first
            | (go_at_call 71; (with_reducible refine (r1order_w w _ g1 o1 n1 c1 g2 o2 n2 c2 x y _ HX.out HY.out hn1 hn2 hk).mono ?_); rintro e w5 ⟨rfl, hw5, hw5b⟩; replace HX := hide hw5; replace HY := hide hw5b; clear hw5 hw5b)
            | (go_at_call 91; (with_reducible refine (r1take_w w _ g2 o2 n2 c2 g1 o1 n1 c1 y x HY.out HX.out (Ne.symm hg12) (Nat.le_of_lt HLT.out) (by assumption) hg2).mono ?_); rintro e w6 ⟨n4, rfl, hn4, hw6, hw6b⟩; have HXD := hide hw6; have HYD := hide hw6b; clear hw6 hw6b)
            | (go_at_call 89; (with_reducible refine (r1zeros_any _ none _ n4 c2 _ HXD.out.ul HNZ.out hn4).mono ?_); rintro e w6 ⟨z, d, rfl, hd, hd2, hz, rfl⟩)
            | (go_at_call 90; (with_reducible refine (r1down_w w _ g2 o2 n4 c2 g1 o1 n1 c1 (y - x) x z d HXD.out HYD.out (Ne.symm hg12) hg2 hd hz hn4).mono ?_); rintro e w7 ⟨o5, n5, c5, rfl, hn5, hw7, hw7b⟩; have HXD2 := hide hw7; have HYD2 := hide hw7b; clear hw7 hw7b))
          obtain ⟨e1, e2, e3⟩ := gcd_round hy2 hx2 HLT.out (by rw [← lv_lm (y - x)]; exact hd.out) hd2
          go_roundg (d + x)
          case rel =>
            exact ⟨g2, o5, n5, c5, g1, o1, n1, c1, d, x, rfl, rfl, Ne.symm hg12, hg2, hg1, hn5, hn1, hd2, hx2, hide rfl, HXD2, HYD2, hide (by rw [e1, Nat.gcd_comm, HI.out])⟩
          case measure => rw [HG.out, Nat.add_comm x y]; exact e2
        · have hk := cmpN_zero.2 heq
          have HGC := hide (show ∀ t, min i j = t → x * 2 ^ t = Nat.gcd X Y by
            intro t ht
            rw [← lv_lm X, ← lv_lm Y, hu.out, hv.out, gcd_twos hu2 hv2, ht, ← HI.out, ← heq, Nat.gcd_self, Nat.mul_comm])
          clear heq
          by_cases hji : j < i
          · have HGT := hide (HGC.out j (by omega)); obtain ⟨q, hq⟩ : ∃ q, q = j / 32 := ⟨_, rfl⟩; obtain ⟨s, hs⟩ : ∃ s, s = j % 32 := ⟨_, rfl⟩; have e1 : (j : Int) / 32 = (q : Int) := (by omega); have e2 : (j : Int).tmod 32 = (s : Int) := (by rw [hs]; rfl); have e3 : (j : Int).tdiv 32 = (q : Int) := (by rw [hq]; rfl); have hqm : q < 1000000 := (by omega); have hs32 : s < 32 := (by omega); have HQ := hide hq; have HS := hide hs; clear hq hs; go_wp2_with (first | (go_at_call 71; (with_reducible refine (r1order_w w _ g1 o1 n1 c1 g2 o2 n2 c2 x y _ HX.out HY.out hn1 hn2 hk).mono ?_); rintro e w5 ⟨rfl, hw5, hw5b⟩; replace HX := hide hw5; replace HY := hide hw5b; clear hw5 hw5b) | (at_make; refine wl_make_u32 (w0 := w5) rfl _ _ _ Try.underlying34 rfl (q + 1) (q + 1) _ _ rfl rfl rfl rfl (by omega) (by omega) (Fr.refl _ _) ?_; intro w6 ho1 hs1 hb1; have HO1 := hide ho1; clear ho1 hb1 hs1; obtain ⟨g', z, hg, -, hgl, hz, hzl, hcellz, hfz⟩ := HO1.out.at (k := q) (by omega); obtain rfl : w5.heap.size = g' := (by simpa using hg); have hfz0 := hfz q; clear hfz hz hg) | (go_at_call 67; have hp := HO1.out.put (k := q) (x := 2 ^ s) (by omega) (two_lt hs32); rw [two_limbs' HQ.out HS.out, two_cast hs32] at hp; generalize w6.setCell _ _ = w7 at hp ⊢; have HP := hide hp; clear hp; have HX7 := hide (HX.out.below (fr_bel HP.out.fr)); (with_reducible refine (r1times_any _ none none _ n1 c1 _ (q + 1) (q + 1) x (2 ^ j) HX7.out.ul HP.out.ul hn1 (by omega)).mono ?_); rintro e w8 ⟨A7, m7, c7, rfl, hc7, hu7, hb7⟩; rw [HGT.out] at hu7; have HU7 := hide hu7; have HB7 := hide (((fr_bel HX.out.fr).trans ((fr_bel HP.out.fr).mono HX.out.fr.size)).trans (hb7.mono (Nat.le_trans HX.out.fr.size HP.out.fr.size)) : Below w.heap.size w w8); clear hu7 hb7)); go_ret; exact ⟨A7, m7, c7, rfl, hc7, HU7.out, HB7.out⟩
          · have HGT := hide (HGC.out i (by omega)); obtain ⟨q, hq⟩ : ∃ q, q = i / 32 := ⟨_, rfl⟩; obtain ⟨s, hs⟩ : ∃ s, s = i % 32 := ⟨_, rfl⟩; have e1 : (i : Int) / 32 = (q : Int) := (by omega); have e2 : (i : Int).tmod 32 = (s : Int) := (by rw [hs]; rfl); have e3 : (i : Int).tdiv 32 = (q : Int) := (by rw [hq]; rfl); have hqm : q < 1000000 := (by omega); have hs32 : s < 32 := (by omega); have HQ := hide hq; have HS := hide hs; clear hq hs; go_wp2_with (first | (go_at_call 71; (with_reducible refine (r1order_w w _ g1 o1 n1 c1 g2 o2 n2 c2 x y _ HX.out HY.out hn1 hn2 hk).mono ?_); rintro e w5 ⟨rfl, hw5, hw5b⟩; replace HX := hide hw5; replace HY := hide hw5b; clear hw5 hw5b) | (at_make; refine wl_make_u32 (w0 := w5) rfl _ _ _ Try.underlying34 rfl (q + 1) (q + 1) _ _ rfl rfl rfl rfl (by omega) (by omega) (Fr.refl _ _) ?_; intro w6 ho1 hs1 hb1; have HO1 := hide ho1; clear ho1 hb1 hs1; obtain ⟨g', z, hg, -, hgl, hz, hzl, hcellz, hfz⟩ := HO1.out.at (k := q) (by omega); obtain rfl : w5.heap.size = g' := (by simpa using hg); have hfz0 := hfz q; clear hfz hz hg) | (go_at_call 67; have hp := HO1.out.put (k := q) (x := 2 ^ s) (by omega) (two_lt hs32); rw [two_limbs' HQ.out HS.out, two_cast hs32] at hp; generalize w6.setCell _ _ = w7 at hp ⊢; have HP := hide hp; clear hp; have HX7 := hide (HX.out.below (fr_bel HP.out.fr)); (with_reducible refine (r1times_any _ none none _ n1 c1 _ (q + 1) (q + 1) x (2 ^ i) HX7.out.ul HP.out.ul hn1 (by omega)).mono ?_); rintro e w8 ⟨A7, m7, c7, rfl, hc7, hu7, hb7⟩; rw [HGT.out] at hu7; have HU7 := hide hu7; have HB7 := hide (((fr_bel HX.out.fr).trans ((fr_bel HP.out.fr).mono HX.out.fr.size)).trans (hb7.mono (Nat.le_trans HX.out.fr.size HP.out.fr.size)) : Below w.heap.size w w8); clear hu7 hb7)); go_ret; exact ⟨A7, m7, c7, rfl, hc7, HU7.out, HB7.out⟩
        · have hk := cmpN_gt hgt
          have HLT := hide hgt
          have HNZ := hide (show lv (lm (x - y)) ≠ 0 by rw [lv_lm]; omega)
          clear hgt
          go_wp2_with (first
            | (go_at_call 71; (with_reducible refine (r1order_w w _ g1 o1 n1 c1 g2 o2 n2 c2 x y _ HX.out HY.out hn1 hn2 hk).mono ?_); rintro e w5 ⟨rfl, hw5, hw5b⟩; replace HX := hide hw5; replace HY := hide hw5b; clear hw5 hw5b)
            | (go_at_call 91; (with_reducible refine (r1take_w w _ g1 o1 n1 c1 g2 o2 n2 c2 x y HX.out HY.out hg12 (Nat.le_of_lt HLT.out) (by assumption) hg1).mono ?_); rintro e w6 ⟨n4, rfl, hn4, hw6, hw6b⟩; have HXD := hide hw6; have HYD := hide hw6b; clear hw6 hw6b)
            | (go_at_call 89; (with_reducible refine (r1zeros_any _ none _ n4 c1 _ HXD.out.ul HNZ.out hn4).mono ?_); rintro e w6 ⟨z, d, rfl, hd, hd2, hz, rfl⟩)
            | (go_at_call 90; (with_reducible refine (r1down_w w _ g1 o1 n4 c1 g2 o2 n2 c2 (x - y) y z d HXD.out HYD.out hg12 hg1 hd hz hn4).mono ?_); rintro e w7 ⟨o5, n5, c5, rfl, hn5, hw7, hw7b⟩; have HXD2 := hide hw7; have HYD2 := hide hw7b; clear hw7 hw7b))
          obtain ⟨e1, e2, e3⟩ := gcd_round hx2 hy2 HLT.out (by rw [← lv_lm (x - y)]; exact hd.out) hd2
          go_roundg (d + y)
          case rel =>
            exact ⟨g1, o5, n5, c5, g2, o2, n2, c2, d, y, rfl, rfl, hg12, hg1, hg2, hn5, hn2, hd2, hy2, hide rfl, HXD2, HYD2, hide (by rw [e1, HI.out])⟩
          case measure => rw [HG.out]; exact e2
end Go.Proofs.Ytnofljgmkdommaa

/- Contract: the reference's place. -/
namespace Go.Proofs.Ytnofljgmkdommaa
open Go.RowKit

theorem ofInt_u64 (a : Nat) (ha : a < 18446744073709551616) : (BitVec.ofInt 64 (a : Int)).toNat = a := by
  rw [BitVec.ofInt_natCast, BitVec.toNat_ofNat]; exact Nat.mod_eq_of_lt (by omega)
theorem u64_and32 (a : Nat) (ha : a < 18446744073709551616) : bits .and .u64 (a : Int) 4294967295 = ((a % 4294967296 : Nat) : Int) := by
  show IntKind.u64.wrap ((BitVec.ofInt 64 (a : Int) &&& BitVec.ofInt 64 4294967295).toNat : Int) = _
  rw [BitVec.toNat_and, ofInt_u64 a ha, show (BitVec.ofInt 64 4294967295).toNat = 2 ^ 32 - 1 from rfl, Nat.and_two_pow_sub_one_eq_mod, IntKind.wrap_u64]
  omega
theorem place_dig {q x c y b : Nat} (hy : y < 4294967296) (hb : b ≤ 1) (hP : q * x + c < 18446744073709551616) : ∃ d w lo : Nat, d < 4294967296 ∧ w ≤ 1 ∧ lo < 4294967296 ∧ bits .and .u64 ((c : Int) + (q : Int) * (x : Int)) 4294967295 = (lo : Int) ∧ IntKind.u64.wrap (IntKind.u64.wrap ((y : Int) - (lo : Int)) - (b : Int)) % 4294967296 = (d : Int) ∧
    IntKind.u64.wrap (IntKind.u64.wrap ((y : Int) - (lo : Int)) - (b : Int)) / 9223372036854775808 = (w : Int) ∧ d + b + (q * x + c) % 4294967296 = y + 4294967296 * w := by
  obtain ⟨d, w, h1, h2, h3, h4, h5⟩ := sub_dig (q := (q * x + c) % 4294967296) hy hb (by omega)
  have e : (c : Int) + (q : Int) * (x : Int) = ((q * x + c : Nat) : Int) := by rw [Int.natCast_add, Int.natCast_mul]; omega
  have e2 : IntKind.u64.wrap (IntKind.u64.wrap ((y : Int) - (((q * x + c) % 4294967296 : Nat) : Int)) - (b : Int)) = IntKind.u64.wrap (IntKind.u64.wrap ((y : Int) - (b : Int)) - (((q * x + c) % 4294967296 : Nat) : Int)) := by
    simp only [IntKind.wrap_u64]
    omega
  exact ⟨d, w, (q * x + c) % 4294967296, h1, h2, by omega, by rw [e]; exact u64_and32 _ hP, by rw [e2]; exact h3, by rw [e2]; exact h4, h5⟩
theorem place_top {y c b : Nat} (hy : y < 4294967296) (hb : b ≤ 1) (hc : c < 4294967296) : ∃ d w : Nat, d < 4294967296 ∧ w ≤ 1 ∧ IntKind.u64.wrap (IntKind.u64.wrap ((y : Int) - (c : Int)) - (b : Int)) % 4294967296 = (d : Int) ∧
    IntKind.u64.wrap (IntKind.u64.wrap ((y : Int) - (c : Int)) - (b : Int)) / 9223372036854775808 = (w : Int) ∧ d + b + c = y + 4294967296 * w := by
  obtain ⟨d, w, h1, h2, h3, h4, h5⟩ := sub_dig (q := c) hy hb hc
  have e2 : IntKind.u64.wrap (IntKind.u64.wrap ((y : Int) - (c : Int)) - (b : Int)) = IntKind.u64.wrap (IntKind.u64.wrap ((y : Int) - (b : Int)) - (c : Int)) := by
    simp only [IntKind.wrap_u64]
    omega
  exact ⟨d, w, h1, h2, by rw [e2]; exact h3, by rw [e2]; exact h4, h5⟩
set_option maxRecDepth 100000 in
set_option maxHeartbeats 8000000 in
theorem r1place_any (w0 w : World) (g N C j m : Nat) (B : Option Addr) (d : Nat) (us vs : List Nat) (q : Nat) (hO : OF w0 w (some ⟨g, 0, none⟩) N C us) (hV : Ul w (some g) B m vs) (hj : j + m < N) (hN : N ≤ 4294967296) (hq : q < 4294967296)
    (hVp : 0 < lv vs) (h1 : lv ((us.drop j).take (m + 1)) / lv vs ≤ q) (h2 : q ≤ lv ((us.drop j).take (m + 1)) / lv vs + 1) :
    Calls Try.prog 102 #[.slice (some ⟨g, 0, none⟩) N C, .slice B m d, .int .i64 (j : Int), .int .u64 (q : Int)] w fun e w' => ∃ (s : List Nat) (D : Nat), e = .returned (.int .u32 (D : Int)) ∧ Hid (D = lv ((us.drop j).take (m + 1)) / lv vs) ∧ D < 4294967296 ∧ s.length = m + 1 ∧ lv s = lv ((us.drop j).take (m + 1)) % lv vs ∧ OF w0 w' (some ⟨g, 0, none⟩) N C (splice us j s) ∧ Fr w w' (fun b => b = g) := by
  have HV := hide hV
  have HO := hide hO
  have HVP := hide hVp
  have HQ1 := hide h1
  have HQ2 := hide h2
  obtain ⟨S, hS⟩ : ∃ S, S = (us.drop j).take (m + 1) := ⟨_, rfl⟩
  rw [← hS] at HQ1 HQ2 ⊢
  have HS := hide hS
  have hSl : S.length = m + 1 := by rw [hS, List.length_take, List.length_drop]; have := hO.len; omega
  have HSL := hide hSl
  clear hV hO hVp h1 h2 hS hSl
  have hUN := hide HO.out.len
  go_enter Try.func102, Try.ntmps102
  go_wp2_with fail
  go_loopw [9, 10, 11, 12] (fun car bor ix xx wr => ∃ (i b c : Nat) (n : List Nat), i ≤ m ∧ b ≤ 1 ∧ c < 4294967296 ∧ bor = .int .u64 (b : Int) ∧ car = .int .u64 (c : Int) ∧ ix = .int .i64 (i : Int) ∧ Hid (n.length = i) ∧ Hid (okL n) ∧ Hid (lv n + q * lv (vs.take i) = lv (S.take i) + 4294967296 ^ i * (c + b)) ∧ Hid (OF w0 wr (some ⟨g, 0, none⟩) N C (splice us j n)) ∧ Hid (Fr w wr (fun b => b = g))) (fun _ _ ix _ _ => m - (intOf ix).toNat)
  case atStart => exact ⟨0, 0, 0, [], by omega, by omega, by omega, rfl, rfl, rfl, hide rfl, hide okL_nil, hide (by simp [lv]), hide (by rw [splice_nil]; exact HO.out), hide (Fr.refl _ _)⟩
  case round =>
    obtain ⟨i, b, c, n, hi, hb, hc, rfl, rfl, rfl, HNL, HNK, HI, HO1, HF⟩ := hrel
    have HV1 := hide (HV.out.fr HF.out (fun _ b o _ hne h => hne (by rw [h])))
    obtain ⟨g', y, hg, -, hgl, hy, hyl, hcy, hfz⟩ := HO1.out.at (k := j + i) (by omega)
    obtain rfl : g = g' := by simpa using hg
    have hy2 : S[i]? = some y := by rw [HS.out, seg_get (by omega), ← splice_get (by rw [HNL.out, hUN.out]; omega) (Nat.le_of_eq HNL.out)]; exact hy
    have HY := hide hy2
    have hfz0 := hfz (j + i)
    clear hfz hy hg hy2
    by_cases him : i < m
    · obtain ⟨b2, o2, x, rfl, -, -, hx, hxl, hcx⟩ := HV1.out.at him
      have HX := hide hx
      clear hx
      have g1 : (0 : Int) ≤ (i : Int) := by omega
      have g2 : (i : Int) < (m : Int) := by omega
      have g3 : (0 : Int) ≤ (i : Int) + (j : Int) := by omega
      have g4 : (i : Int) + (j : Int) < (N : Int) := by omega
      obtain ⟨hm1, hm2⟩ := mul_le hq hxl
      obtain ⟨hd1, hd2⟩ := dig_lt hq hxl hc
      obtain ⟨e, b', lo, he, hb', hlo, r0, r1, r2, r3⟩ := place_dig (q := q) (x := x) (c := c) hyl hb hd2
      have R1 := hide r1
      have R2 := hide r2
      have R3 := hide r3
      have hD1 := hide hd1
      have hcs : IntKind.u64.wrap ((c : Int) + (q : Int) * (x : Int)) = (c : Int) + (q : Int) * (x : Int) := by
        have e : (c : Int) + (q : Int) * (x : Int) = ((q * x + c : Nat) : Int) := by rw [Int.natCast_add, Int.natCast_mul]; omega
        rw [e, IntKind.wrap_u64]; omega
      clear r1 r2 r3 hd1 hd2
      rw [Nat.add_comm j i] at hcy hfz0
      go_wp2_with fail
      refine ⟨?_, by simp [intOf] <;> omega⟩
      have hp := HO1.out.put (k := j + i) (x := e) (by omega) he
      rw [← R1.out, ← HNL.out, splice_set (by rw [HNL.out, hUN.out]; omega)] at hp
      rw [HNL.out, Nat.add_comm j i] at hp
      refine ⟨i + 1, b', (q * x + c) / 4294967296, n ++ [e], by omega, hb', hD1.out, vint R2.out, vint (by rw [Int.natCast_ediv, Int.natCast_add, Int.natCast_mul, Int.add_comm]; rfl), by go_num, hide (by simp [HNL.out]), hide (HNK.out.append (by intro z hz; simp at hz; omega)), hide (red_step HNL.out HX.out HY.out HI.out rfl R3.out), hide hp, hide ?_⟩
      exact Fr.setCell HF.out (Or.inr rfl) _
    · obtain rfl : i = m := by omega
      have gt1 : (0 : Int) ≤ (j : Int) + (i : Int) := by omega
      have gt2 : (j : Int) + (i : Int) < (N : Int) := by omega
      obtain ⟨e, b', he, hb', r1, r2, r3⟩ := place_top hyl hb hc
      have hput := HO1.out.put (k := j + i) (x := e) (by omega) he
      rw [← r1, ← HNL.out, splice_set (by rw [HNL.out, hUN.out]; omega)] at hput
      rw [HNL.out] at hput
      have HP := hide hput
      have hff := hide (Fr.setCell (p := ⟨g, j + i, none⟩) HF.out (Or.inr rfl) (.int .u32 (IntKind.u64.wrap (IntKind.u64.wrap ((y : Int) - (c : Int)) - (b : Int)) % 4294967296)))
      clear hput
      by_cases hb0 : b' = 0
      · subst hb0
        have d1 : (IntKind.u64.wrap (IntKind.u64.wrap ((y : Int) - (c : Int)) - (b : Int)) / 9223372036854775808 == 0) = true := by rw [r2]; rfl
        have he2 : e = y - b - c ∧ c + b ≤ y := by omega
        have HE := hide he2
        have g5 : (q : Int) % 4294967296 = (q : Int) := by omega
        clear r1 r2 r3 he2
        go_wp2_with fail
        go_ret
        have hr := red_no HNL.out HSL.out HV.out.len HY.out rfl rfl HI.out HE.out.2
        rw [← HE.out.1] at hr
        obtain ⟨hq3, hm3⟩ := red_q HVP.out HQ1.out hr
        exact ⟨n ++ [e], q, rfl, hide hq3, hq, by simp [HNL.out], hm3, HP.out, hff.out⟩
      · obtain rfl : b' = 1 := by omega
        have d1 : (IntKind.u64.wrap (IntKind.u64.wrap ((y : Int) - (c : Int)) - (b : Int)) / 9223372036854775808 == 0) = false := by rw [r2]; rfl
        have HE := hide r3
        clear r1 r2 r3
        go_wp2_with fail
        generalize hWW : World.setCell wr _ _ = wq
        rw [hWW] at HP hff
        clear hWW hcy hfz0 d1 HO1 HF HV1
        have hRl : (splice us j (n ++ [e])).length = N := by rw [splice_len (by simp [HNL.out, hUN.out]; omega), hUN.out]
        have HRL := hide hRl
        obtain ⟨R, hR⟩ : ∃ R, R = splice us j (n ++ [e]) := ⟨_, rfl⟩
        rw [← hR] at HP HRL
        have HR := hide hR
        clear hRl hR
        go_loopw [14, 15] (fun car ix wr => ∃ (i' c' : Nat) (n' : List Nat), i' ≤ i ∧ c' ≤ 1 ∧ car = .int .u64 (c' : Int) ∧ ix = .int .i64 (i' : Int) ∧ Hid (n'.length = i') ∧ Hid (okL n') ∧ Hid (lv n' + 4294967296 ^ i' * c' = lv (n.take i') + lv (vs.take i')) ∧ Hid (OF w0 wr (some ⟨g, 0, none⟩) N C (splice R j n')) ∧ Hid (Fr w wr (fun b => b = g))) (fun _ ix _ => i - (intOf ix).toNat)
        case atStart => exact ⟨0, 0, [], by omega, by omega, rfl, rfl, hide rfl, hide okL_nil, hide (by simp [lv]), hide (by rw [splice_nil]; exact HP.out), hff⟩
        case round =>
          obtain ⟨i', c', n', hi', hc', rfl, rfl, HNL2, HNK2, HI2, HO2, HF2⟩ := hrel
          have HV2 := hide (HV.out.fr HF2.out (fun _ b o _ hne h => hne (by rw [h])))
          obtain ⟨g', z, hg, -, hgl2, hz, hzl, hcz, hfz⟩ := HO2.out.at (k := j + i') (by omega)
          obtain rfl : g = g' := by simpa using hg
          have hz2 : (n ++ [e])[i']? = some z := by
            rw [splice_get (by rw [HNL2.out, HRL.out]; omega) (Nat.le_of_eq HNL2.out), HR.out, splice_in (by simp [HNL.out, hUN.out]; omega) (by simp [HNL.out]; omega)] at hz
            exact hz
          have HZ := hide hz2
          have hfz0 := hfz (j + i')
          clear hfz hz hg hz2
          by_cases him2 : i' < i
          · obtain ⟨b2, o2, x, rfl, -, -, hx, hxl, hcx⟩ := HV2.out.at him2
            have HX := hide hx
            clear hx
            have g1 : (0 : Int) ≤ (i' : Int) := by omega
            have g2 : (i' : Int) < (i : Int) := by omega
            have g3 : (0 : Int) ≤ (i' : Int) + (j : Int) := by omega
            have g4 : (i' : Int) + (j : Int) < (N : Int) := by omega
            have HZ2 := hide (show n[i']? = some z by
              have h := HZ.out
              rwa [List.getElem?_append_left (by rw [HNL.out]; omega)] at h)
            rw [Nat.add_comm j i'] at hcz hfz0
            go_upto_region 17 with (fail)
            go_quiet (fail)
            go_wp2_with fail
            refine ⟨?_, by simp [intOf] <;> omega⟩
            have hp := (HO2.out.drewN nq).put (k := j + i') (x := (z + x + c') % 4294967296) (by omega) (by omega)
            have e2 : (((z + x + c') % 4294967296 : Nat) : Int) = ((c' : Int) + ((z : Int) + (x : Int))) % 4294967296 := by omega
            rw [e2, ← HNL2.out, splice_set (by rw [HNL2.out, HRL.out]; omega)] at hp
            rw [HNL2.out, Nat.add_comm j i'] at hp
            refine ⟨i' + 1, (z + x + c') / 4294967296, n' ++ [(z + x + c') % 4294967296], by omega, by omega, vint (by omega), by go_num, hide (by simp [HNL2.out]), hide (HNK2.out.append (by intro z hz; simp at hz; omega)), hide (back_step HNL2.out HX.out HZ2.out HI2.out rfl), hide hp, hide (Fr.setCell (HF2.out.drewN nq) (Or.inr rfl) _)⟩
          · obtain rfl : i' = i := by omega
            obtain rfl : z = e := by
              have h := HZ.out
              rw [List.getElem?_append_right (by rw [HNL.out]; omega), HNL.out, Nat.sub_self] at h
              simpa using h.symm
            have g5 : (c' : Int) % 4294967296 = (c' : Int) := by omega
            have hi2 := HI2.out
            rw [List.take_of_length_le (by have := HNL.out; omega), List.take_of_length_le (by have := HV.out.len; omega)] at hi2
            have hbe := back_end (n' := n') (c' := c') (z := (z + c') % 4294967296) HNK.out HNK2.out HNL.out HNL2.out HSL.out HV.out.len HY.out rfl rfl HI.out hi2 (by have := HE.out; omega) (by omega) ⟨(z + c') / 4294967296, by have := HE.out; omega⟩ HQ2.out HVP.out (by have := lv_lt HV.out.ok; rwa [HV.out.len] at this)
            have HB := hide hbe
            have hq1 : 1 ≤ q := by rw [hbe.1]; exact Nat.le_add_left 1 _
            have g6 : ((q : Int) - 1) % 4294967296 = (q : Int) - 1 := by omega
            have hp := HO2.out.put (k := j + i') (x := (z + c') % 4294967296) (by omega) (by omega)
            rw [← HNL2.out, splice_set (by rw [HNL2.out, HRL.out]; omega), HR.out, splice_splice (by simp [HNL.out, hUN.out]; omega) (by simp [HNL.out, HNL2.out])] at hp
            rw [HNL2.out] at hp
            have g7 : IntKind.u32.wrap ((z : Int) + (c' : Int)) = (((z + c') % 4294967296 : Nat) : Int) := by rw [IntKind.wrap_u32]; omega
            have HPP := hide hp
            clear hbe hi2 hp
            go_wp2_with fail
            go_ret
            exact ⟨n' ++ [(z + c') % 4294967296], q - 1, by rw [Int.natCast_sub hq1]; rfl, hide (by have := HB.out.1; generalize lv S / lv vs = D at *; omega), by omega, by simp [HNL2.out], HB.out.2, HPP.out, Fr.setCell HF2.out (Or.inr rfl) _⟩
end Go.Proofs.Ytnofljgmkdommaa
