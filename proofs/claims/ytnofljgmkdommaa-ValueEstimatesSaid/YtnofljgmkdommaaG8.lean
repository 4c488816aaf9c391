/- Contracts of the functions that these laws reach: part 8: Contract: the reference's Split; Contracts: lists of ints, the tape; Contracts: the tape, Pick. -/
import Derived.Test.YtnofljgmkdommaaG7
import Derived.Test.YtnofljgmkdommaaG1
import Derived.Deep.RegionHeld3
set_option linter.unusedVariables false
set_option linter.unusedSimpArgs false

/- Contract: the reference's Split. -/
namespace Go.Proofs.Ytnofljgmkdommaa
open Go.RowKit

/-- Rows of the same length with the same value are the same. -/
theorem lv_inj : ∀ {a b : List Nat}, okL a → okL b → a.length = b.length → lv a = lv b → a = b
  | [], [], _, _, _, _ => rfl
  | x :: a, y :: b, ha, hb, hl, h => by
    have hx := ha x (by simp)
    have hy := hb y (by simp)
    simp only [lv] at h
    have e1 : x = y := by omega
    have e2 : lv a = lv b := by omega
    rw [e1, lv_inj (fun z hz => ha z (by simp [hz])) (fun z hz => hb z (by simp [hz])) (by simpa using hl) e2]
theorem up_take {vs : List Nat} {m Y : Nat} (hok : okL vs) (hl : vs.length = m + 1) (hv : lv vs = Y) (hY : (lm Y).length = m) : vs.take m = lm Y := by
  refine lv_inj (hok.take m) (okL_lm Y) (by rw [List.length_take, hY]; omega) ?_
  have h1 := lv_take_drop vs m (by omega)
  have h2 := lm_lt_pow Y
  rw [hY, ← hv] at h2
  rw [lv_lm, ← hv]
  rcases Nat.eq_zero_or_pos (lv (vs.drop m)) with h0 | h0
  · rw [h0] at h1; omega
  · have := Nat.mul_pos (pow_pos' m) h0
    have := Nat.le_mul_of_pos_right (4294967296 ^ m) h0
    omega
theorem OF.ulfr {w0 w w' : World} {A : Option Addr} {m c : Nat} {l : List Nat} {S : Nat → Prop} (h : OF w0 w A m c l) (hf : Fr w w' S) (hS : ∀ k, S k → k < w0.heap.size) : Ul w' none A m l := by
  refine h.ul.fr hf (fun hl b o hA _ hs => ?_)
  have hm : 0 < m := by
    rcases Nat.eq_zero_or_pos m with h0 | h0
    · exact absurd (List.eq_nil_of_length_eq_zero (by rw [h.len, h0])) hl
    · exact h0
  obtain ⟨g, x, hg, h1, -⟩ := h.at (k := 0) hm
  rw [hg] at hA
  injection hA with hA
  injection hA with hA
  have := hS b hs
  omega
theorem split_close {W0 wr w7 : World} {gu gq gv n K m j D x y s : Nat} {us qs sg S : List Nat} (hU1 : OF W0 wr (some ⟨gu, 0, none⟩) (n + 1) (n + 1) us) (hQ1 : OF W0 wr (some ⟨gq, 0, none⟩) K K qs) (hne : gq ≠ gu) (hk : j + 1 ≤ K) (hjm : j + m < n + 1) (hD : D < 4294967296)
    (hI : x * 2 ^ s = lv us + y * 2 ^ s * (4294967296 ^ (j + 1) * lv (qs.drop (j + 1)))) (hS : S = (us.drop j).take (m + 1)) (hSG : lv S = lv (us.drop j)) (hsl : sg.length = m + 1) (hsv : lv sg = lv S % (y * 2 ^ s)) (hDD : D = lv S / (y * 2 ^ s)) (hVP : 0 < y * 2 ^ s)
    (hO7 : OF W0 w7 (some ⟨gu, 0, none⟩) (n + 1) (n + 1) (splice us j sg)) (hQ7 : OF W0 w7 (some ⟨gq, 0, none⟩) K K qs) (hV7 : Ul w7 (some gu) (some ⟨gv, 0, none⟩) m (lm (y * 2 ^ s))) (hgv : gv ≠ gq) (hgW : W0.heap.size ≤ gq) :
    ∃ k us qs, k ≤ K ∧ Value.int IntKind.i64 ((j : Int) - 1) = Value.int IntKind.i64 ((k : Int) - 1) ∧ Hid (OF W0 (w7.setCell ⟨gq, j, none⟩ (.int .u32 (D : Int))) (some ⟨gu, 0, none⟩) (n + 1) (n + 1) us) ∧ Hid (OF W0 (w7.setCell ⟨gq, j, none⟩ (.int .u32 (D : Int))) (some ⟨gq, 0, none⟩) K K qs) ∧ Hid (Ul (w7.setCell ⟨gq, j, none⟩ (.int .u32 (D : Int))) (some gu) (some ⟨gv, 0, none⟩) m (lm (y * 2 ^ s))) ∧ Hid (x * 2 ^ s = lv us + y * 2 ^ s * (4294967296 ^ k * lv (qs.drop k))) ∧ Hid (lv (us.drop k) < y * 2 ^ s) := by
  have hqs := hQ7.put (k := j) (x := D) (by omega) hD
  have hul := hU1.len
  have hspl : (splice us j sg).length = us.length := splice_len (by omega)
  have hdrop : lv ((splice us j sg).drop j) = lv sg := by
    have e1 : (splice us j sg).drop j = sg ++ us.drop (j + sg.length) := by
      unfold splice
      rw [List.append_assoc, List.drop_append_of_le_length (by simp; omega), List.drop_of_length_le (by simp; omega), List.nil_append]
    have e2 : lv (us.drop (j + sg.length)) = 0 := by
      rw [hsl]
      have h1 := lv_take_drop (us.drop j) (m + 1) (by rw [List.length_drop]; omega)
      rw [← hS, ← hSG, List.drop_drop] at h1
      rcases Nat.eq_zero_or_pos (lv (us.drop (j + (m + 1)))) with h0 | h0
      · exact h0
      · have := Nat.mul_pos (pow_pos' (m + 1)) h0
        omega
    rw [e1, lv_append, e2]
    simp
  have htake : lv ((splice us j sg).take j) = lv (us.take j) := by
    unfold splice
    rw [List.append_assoc, List.take_append_of_le_length (by simp; omega), List.take_of_length_le (by simp; omega)]
  have hTu := lv_take_drop us j (by omega)
  have hTs := lv_take_drop (splice us j sg) j (by omega)
  rw [hSG] at hsv hDD
  refine ⟨j, splice us j sg, qs.set j D, by omega, rfl, hide ?_, hide hqs, hide ?_, hide ?_, hide ?_⟩
  · exact hO7.frS (Fr.setCell (S := fun b => b = gq) (p := ⟨gq, j, none⟩) (Fr.refl _ _) (Or.inr rfl) _) (fun h => hne h.symm) (by intro k hk; omega)
  · exact hV7.fr (Fr.setCell (S := fun b => b = gq) (p := ⟨gq, j, none⟩) (Fr.refl _ _) (Or.inr rfl) _) (fun _ b o hA _ h => by injection hA with hA; injection hA with hA; omega)
  · have hst := div_step (d := D) (by have := hQ1.len; omega) hI (lv (us.take j)) (lv (us.drop j)) hTu hDD
    rw [hst, hTs, hdrop, htake, hsv]
  · rw [hdrop, hsv]
    exact Nat.mod_lt _ hVP
set_option maxRecDepth 100000 in
set_option maxHeartbeats 8000000 in
theorem r1split_lt (w : World) (av av' : Option Nat) (A : Option Addr) (n c : Nat) (B : Option Addr) (m d : Nat) (x y : Nat) (hU : Ul w av A n (lm x)) (hV : Ul w av' B m (lm y)) (hn : n ≤ 500000) (hm : m ≤ 500000) (hlt : x < y) :
    Calls Try.prog 86 #[.slice A n c, .slice B m d] w fun e w' => ∃ A' m' c' A2 m2 c2, e = .returned (.tuple #[.slice A' m' c', .slice A2 m2 c2]) ∧ m' ≤ c' ∧ m2 ≤ c2 ∧ Ul w' none A' m' (lm (x / y)) ∧ Ul w' none A2 m2 (lm (x % y)) ∧ Below w.heap.size w w' := by
  have HU := hide hU
  have HV := hide hV
  clear hU hV
  have HD := hide (Nat.div_eq_of_lt hlt)
  have HM := hide (Nat.mod_eq_of_lt hlt)
  have HC := hide (cmpN_lt hlt)
  clear hlt
  go_enter Try.func86, Try.ntmps86
  go_wp2_with (first
    | (go_at_call 71; refine (r1order_any _ av av' _ _ _ _ _ _ x y HU.out HV.out (by omega) (by omega)).mono ?_; rintro e w1 ⟨rfl, hd⟩; rw [HC.out]; have HD1 := hide hd; clear hd)
    | (at_builtin; refine wl_appall_u32 (w0 := w1) rfl _ _ _ Try.underlying34 rfl none 0 0 [] av A n c (lm x) rfl rfl (OF.nil (Fr.refl w1 _)) (HU.out.dr HD1.out) (by omega) ?_; intro A1 c1 w2 ho; rw [List.nil_append, Nat.zero_add] at ho; rw [Nat.zero_add]; have HO2 := hide ho; clear ho))
  go_ret2
  exact ⟨none, 0, 0, A1, n, c1, rfl, by omega, HO2.out.cap, by rw [HD.out, lm_zero]; exact Ul.nil, by rw [HM.out]; exact HO2.out.ul, HD1.out.below.trans ((fr_below HO2.out.fr).mono HD1.out.below.size)⟩
set_option maxRecDepth 100000 in
set_option maxHeartbeats 8000000 in
theorem r1split_one (w : World) (av av' : Option Nat) (A : Option Addr) (n c : Nat) (B : Option Addr) (d : Nat) (x y : Nat) (hU : Ul w av A n (lm x)) (hV : Ul w av' B 1 (lm y)) (hn : n ≤ 500000) (hlt : y ≤ x) :
    Calls Try.prog 86 #[.slice A n c, .slice B 1 d] w fun e w' => ∃ A' m' c' A2 m2 c2, e = .returned (.tuple #[.slice A' m' c', .slice A2 m2 c2]) ∧ m' ≤ c' ∧ m2 ≤ c2 ∧ Ul w' none A' m' (lm (x / y)) ∧ Ul w' none A2 m2 (lm (x % y)) ∧ Below w.heap.size w w' := by
  have HU := hide hU
  have HV := hide hV
  clear hU hV
  have hc1 : decide (cmpN x y < 0) = false := decide_eq_false (fun h => by have := cmpN_neg.1 h; omega)
  clear hlt
  obtain ⟨hl1, hy1, hy2⟩ := lm_len1 HV.out.len
  obtain ⟨b, o, p, rfl, -, -, hp, hpl, hcell⟩ := HV.out.at (k := 0) (by omega)
  obtain rfl : p = y := by rw [hl1] at hp; simpa using hp.symm
  clear hp hl1
  go_enter Try.func86, Try.ntmps86
  go_wp2_with (first
    | (go_at_call 71; refine (r1order_any _ av av' _ _ _ _ _ _ x p HU.out HV.out (by omega) (by omega)).mono ?_; rintro e w1 ⟨rfl, hd⟩; have HD1 := hide hd; have hcell1 : w1.cell? ⟨b, o, none⟩ = some (.int .u32 (p : Int)) := (by obtain ⟨k, rfl⟩ := hd; simpa using hcell); clear hd)
    | (go_at_call 100; refine (r1small_any _ av _ _ _ x p (HU.out.dr HD1.out) (by omega) hpl hy2).mono ?_; rintro e w2 ⟨A2, m2, c2, r, rfl, hc2, hr, HR, hu2, hb2⟩; have HU2 := hide hu2; have HB2 := hide hb2; clear hu2 hb2)
    | (go_at_call 80; refine (r1of_any _ r (by omega)).mono ?_; rintro e w3 ⟨A3, m3, c3, rfl, hc3, -, hu3, hb3⟩; have HU3 := hide hu3; have HB3 := hide hb3; clear hu3 hb3))
  go_ret2
  exact ⟨A2, m2, c2, A3, m3, c3, rfl, hc2, hc3, HU2.out.below HB3.out, by rw [← HR.out]; exact HU3.out, HD1.out.below.trans ((HB2.out.trans (HB3.out.mono HB2.out.size)).mono HD1.out.below.size)⟩
set_option maxRecDepth 100000 in
set_option maxHeartbeats 8000000 in
theorem r1split_gen (w : World) (av av' : Option Nat) (A : Option Addr) (n c : Nat) (B : Option Addr) (m d : Nat) (x y : Nat) (hU : Ul w av A n (lm x)) (hV : Ul w av' B m (lm y)) (hn : n ≤ 500000) (hm : m ≤ 500000) (hm2 : 2 ≤ m) (hlt : y ≤ x) :
    Calls Try.prog 86 #[.slice A n c, .slice B m d] w fun e w' => ∃ A' m' c' A2 m2 c2, e = .returned (.tuple #[.slice A' m' c', .slice A2 m2 c2]) ∧ m' ≤ c' ∧ m2 ≤ c2 ∧ Ul w' none A' m' (lm (x / y)) ∧ Ul w' none A2 m2 (lm (x % y)) ∧ Below w.heap.size w w' := by
  have HU := hide hU
  have HV := hide hV
  clear hU hV
  have hc1 : decide (cmpN x y < 0) = false := decide_eq_false (fun h => by have := cmpN_neg.1 h; omega)
  have hmn : m ≤ n := by
    have := lm_length_mono hlt
    rwa [HU.out.len, HV.out.len] at this
  clear hlt
  have hy : 0 < y := by
    rcases Nat.eq_zero_or_pos y with h | h
    · exfalso
      have := HV.out.len
      rw [h, lm_zero] at this
      simp at this
      omega
    · exact h
  obtain ⟨tb, htb, htb0, htbl, -⟩ := lm_top HV.out.len (by omega)
  obtain ⟨b, o, p, rfl, -, -, hp, hpl, hcell⟩ := HV.out.at (k := m - 1) (by omega)
  obtain rfl : tb = p := by rw [htb] at hp; injection hp
  have HTB := hide htb
  clear htb hp
  have hd1 : ((m : Int) == 1) = false := by simp; omega
  obtain ⟨K, hK⟩ : ∃ K, K = n - m + 1 := ⟨_, rfl⟩
  have HK := hide hK
  have hKm : K + m ≤ n + 1 := by omega
  have hKn : n + 1 ≤ K + m := by omega
  clear hK
  have gi0 : (0 : Int) ≤ (m : Int) - 1 := by omega
  have gi1 : (m : Int) - 1 < (m : Int) := by omega
  go_enter Try.func86, Try.ntmps86
  go_upto_region 7 with (go_at_call 71; refine (r1order_any _ av av' _ _ _ _ _ _ x y HU.out HV.out (by omega) (by omega)).mono ?_; rintro e w1 ⟨rfl, hd⟩; have HD1 := hide hd; have hcell1 : w1.cell? ⟨b, o + (m - 1), none⟩ = some (.int .u32 (tb : Int)) := (by obtain ⟨k, rfl⟩ := hd; simpa using hcell); clear hd)
  clear hcell
  go_loopw [8] (fun sv wr => ∃ s : Nat, s ≤ 31 ∧ sv = .int .i64 (s : Int) ∧ Hid (tb * 2 ^ s < 4294967296) ∧ wr = w1) (fun sv _ => 32 - (intOf sv).toNat)
  case atStart => exact ⟨0, by omega, rfl, hide (by omega), rfl⟩
  case round =>
    obtain ⟨s, hs, rfl, HS, rfl⟩ := hrel
    have gs0 : (0 : Int) ≤ (s : Int) := by omega
    have gs1 : (s : Int) < 64 := by omega
    obtain ⟨P, hP⟩ : ∃ P, P = tb * 2 ^ s := ⟨_, rfl⟩
    have HP := hide hP
    have hPl : P < 4294967296 := by rw [hP]; exact HS.out
    have hPi : (tb : Int) * 2 ^ s = (P : Int) := by rw [hP, Int.natCast_mul, Int.natCast_pow]; rfl
    have hPm : (P : Int) % 4294967296 = (P : Int) := by omega
    clear hP
    by_cases hlt : P < 2147483648
    · have d1 : decide ((P : Int) < 2147483648) = true := decide_eq_true (by omega)
      have hs30 : s < 31 := by
        rcases Nat.lt_or_ge s 31 with h | h
        · exact h
        · exfalso
          obtain rfl : s = 31 := by omega
          have := HP.out
          have := Nat.le_mul_of_pos_left (2 ^ 31) (Nat.pos_of_ne_zero htb0)
          omega
      go_wp2_with fail
      refine ⟨⟨s + 1, by omega, by go_num, hide ?_, trivial⟩, by simp [intOf] <;> omega⟩
      rw [Nat.pow_succ, ← Nat.mul_assoc, ← HP.out]
      omega
    · have d1 : decide ((P : Int) < 2147483648) = false := decide_eq_false (by omega)
      go_upto_region 9 with (fail)
      clear HP hPi hPm hlt hPl gs1 d1
      have gm0 : (0 : Int) ≤ (m : Int) := by omega
      have gm1 : (m : Int) ≤ (m : Int) + 1 := by omega
      go_region_with (first
        | (go_at_call 101; (with_reducible refine (r1up_any _ av _ n _ x s (HU.out.dr HD1.out).drew (by omega) hs).mono ?_); rintro e w2 ⟨us, rfl, hus, hou⟩; have HUS := hide hus; have HOU := hide hou; have hbl2 := fr_below hou.fr; have HB2 := hide hbl2; clear hus hou hbl2)
        | (go_at_call 101; (with_reducible refine (r1up_any _ av' _ m _ y s ((HV.out.dr HD1.out).drew.below HB2.out) (by omega) hs).mono ?_); rintro e w3 ⟨vs, rfl, hvs, hov⟩; have HVS := hide hvs; have HOV := hide hov; have hbl3 := fr_below hov.fr; have HB3 := hide hbl3; clear hvs hov hbl3))
      go_upto_region 13 with (at_make; refine wl_make_u32 (w0 := wr.drew) rfl _ _ _ Try.underlying34 rfl K K _ _ rfl rfl (by omega) (by omega) (by omega) (by omega) (HOU.out.fr.below_ HB3.out) ?_; intro w5 ho5 hs5 hb5; have HO5 := hide ho5; have HB5 := hide hb5; clear ho5 hb5)
      have HTS := HS
      have hlY := shl_len HV.out.len (by omega) HTB.out hs HTS.out hy
      have hg1 : wr.heap.size < w2.heap.size := by
        obtain ⟨g, _, hg, _, hgl, _⟩ := HOU.out.at (k := 0) (by omega)
        injection hg with hg
        injection hg with hg
        simp at hg
        omega
      have hg2 : w2.heap.size < w3.heap.size := by
        obtain ⟨g, _, hg, _, hgl, _⟩ := HOV.out.at (k := 0) (by omega)
        injection hg with hg
        injection hg with hg
        omega
      have hHV5 := (((HOV.out.ulav (av := some wr.heap.size) (by intro t ht; injection ht with ht; omega)).take (k := m) (by omega)).below HB5.out)
      rw [up_take HOV.out.ok HOV.out.len HVS.out hlY] at hHV5
      have HV5 := hide hHV5
      have HOU5 := hide ((HOU.out.below HB3.out).below HB5.out)
      have HST := hide (div_start HU.out.len HV.out.len hmn (by omega) HOU.out.len HUS.out)
      rw [← HK.out] at HST
      have HBW := hide (HD1.out.drew.below.trans ((fr_below HO5.out.fr).mono HD1.out.below.size) : Below w.heap.size w w5)
      have hw1 := HD1.out.below.size
      obtain ⟨W0, hW0⟩ : ∃ W : World, W = wr.drew := ⟨_, rfl⟩
      have hWs : W0.heap.size = wr.heap.size := by rw [hW0]; rfl
      rw [← hW0] at HOU5 HO5
      rw [hWs] at HOU5
      obtain ⟨gu, hgu⟩ : ∃ g, g = wr.heap.size := ⟨_, rfl⟩
      obtain ⟨gv, hgv⟩ : ∃ g, g = w2.heap.size := ⟨_, rfl⟩
      obtain ⟨gq, hgq⟩ : ∃ g, g = w3.heap.size := ⟨_, rfl⟩
      rw [← hgu, ← hgv] at hg1
      rw [← hgv, ← hgq] at hg2
      rw [← hgu] at HOU5 hw1 hWs
      rw [← hgu, ← hgv] at HV5
      rw [← hgq] at HO5 ⊢
      rw [← hgu, ← hgv]
      have hgw : W0.heap.size ≤ gu := by omega
      have HWB := hide (show Below w.heap.size w W0 by rw [hW0]; exact HD1.out.drew.below)
      clear hW0 hgu hgv hgq hcell1 HOU HOV HB2 HB3 HB5 hHV5 HD1 hpl htbl hlY hs5
      go_loopw [12, 13, 14, 15] (fun i t13 t14 t15 wr => ∃ (k : Nat) (us qs : List Nat), k ≤ K ∧ i = .int .i64 ((k : Int) - 1) ∧ Hid (OF W0 wr (some ⟨gu, 0, none⟩) (n + 1) (n + 1) us) ∧ Hid (OF W0 wr (some ⟨gq, 0, none⟩) K K qs) ∧ Hid (Ul wr (some gu) (some ⟨gv, 0, none⟩) m (lm (y * 2 ^ s))) ∧ Hid (x * 2 ^ s = lv us + y * 2 ^ s * (4294967296 ^ k * lv (qs.drop k))) ∧ Hid (lv (us.drop k) < y * 2 ^ s)) (fun i _ _ _ _ => (intOf i + 1).toNat)
      case atStart => exact ⟨K, us, _, by omega, by go_num, HOU5, HO5, HV5, hide (by rw [List.drop_eq_nil_of_le (by simp), HUS.out]; simp [lv]), HST⟩
      case round =>
        obtain ⟨k, us, qs, hk, rfl, HU1, HQ1, HV1, HI, HL⟩ := hrel
        clear HOU5 HO5 HV5 HST HUS HVS
        by_cases hk0 : k = 0
        · subst hk0
          have h0 : x * 2 ^ s = lv us + y * 2 ^ s * (1 * lv qs) := HI.out
          rw [Nat.one_mul] at h0
          have hlt0 : lv us < y * 2 ^ s := HL.out
          have hsp : 0 < 2 ^ s := Nat.pow_pos (by omega)
          have hVp : 0 < y * 2 ^ s := Nat.mul_pos hy hsp
          have hq0 : lv qs = x / y := by
            rw [← Nat.mul_div_mul_right x y hsp, h0, Nat.add_mul_div_left _ _ hVp, Nat.div_eq_of_lt hlt0, Nat.zero_add]
          have hr0 : lv us / 2 ^ s = x % y := by
            have e : x * 2 ^ s % (y * 2 ^ s) = lv us := by rw [h0, Nat.add_mul_mod_self_left, Nat.mod_eq_of_lt hlt0]
            rw [← e, Nat.mul_mod_mul_right, Nat.mul_div_cancel _ hsp]
          have HQR := hide hq0
          have HRR := hide hr0
          have hbw := HBW.out
          have hz0 : s / 32 < n + 1 := by omega
          clear h0 hlt0 hq0 hr0 hsp hVp
          have hgl : gu < wr.heap.size := by
            obtain ⟨g, _, hg, _, hgl, _⟩ := HU1.out.at (k := 0) (by omega)
            injection hg with hg
            injection hg with hg
            omega
          clear HBW hbw HL HI
          go_wp2_with (first
            | (go_at_call 87; (with_reducible refine (r1trim_any _ none (some ⟨gq, 0, none⟩) K K qs HQ1.out.ul (Nat.le_refl _) (by omega)).mono ?_); rintro e w6 ⟨A6, m6, c6, rfl, hm6, ho6⟩; rw [HQR.out] at ho6; have HO6 := hide ho6; clear ho6)
            | (go_at_call 90; (with_reducible refine (r1down_any W0 _ gu 0 (n + 1) (n + 1) us s (HU1.out.win.below (fr_bel HO6.out.fr)) hz0 (by omega) (by omega)).mono ?_); rintro e w7 ⟨o7, m7, c7, rfl, hc7, hw7, hf7⟩; rw [HRR.out] at hw7; have HW7 := hide hw7; have HU6 := hide (HO6.out.ulfr hf7 (fun k hk => by omega)); have hmc7 := hw7.hc; clear hw7 hf7)
            | (go_at_call 87; (with_reducible refine (r1trim_any _ none (some ⟨gu, o7, none⟩) m7 c7 _ HW7.out.ul HW7.out.hc (by omega)).mono ?_); rintro e w8 ⟨A8, m8, c8, rfl, hm8, ho8⟩; rw [lv_lm] at ho8; have HO8 := hide ho8; clear ho8))
          go_ret2
          exact ⟨A6, m6, c6, A8, m8, c8, rfl, HO6.out.cap, HO8.out.cap, HU6.out.frF HO8.out.fr, HO8.out.ul, HWB.out.trans (((fr_bel HW7.out.fr).trans ((fr_bel HO8.out.fr).mono HW7.out.fr.size)).mono HWB.out.size)⟩
        · obtain ⟨j, rfl⟩ : ∃ j, k = j + 1 := ⟨k - 1, by omega⟩
          have HVP := hide (show 0 < y * 2 ^ s from Nat.mul_pos hy (Nat.pow_pos (by omega)))
          have hul := HU1.out.len
          have hdl := lv_drop (List.getElem?_eq_getElem (l := us) (i := j) (by omega))
          have hub := (okL.get HU1.out.ok (i := j) (List.getElem?_eq_getElem (by omega)))
          have HDB := hide (show lv (us.drop j) < y * 2 ^ s * 4294967296 by have := HL.out; omega)
          have hVlt := lm_lt_pow (y * 2 ^ s)
          rw [HV1.out.len] at hVlt
          have HSG := hide (drop_seg (u := us) (j := j) (m := m + 1) HU1.out.ok (by
            have h1 := HDB.out
            have h2 : y * 2 ^ s * 4294967296 ≤ 4294967296 ^ m * 4294967296 := Nat.mul_le_mul_right _ (Nat.le_of_lt hVlt)
            rw [← Nat.pow_succ] at h2
            exact Nat.lt_of_lt_of_le h1 h2) (by omega))
          obtain ⟨S, hS⟩ : ∃ S, S = (us.drop j).take (m + 1) := ⟨_, rfl⟩
          rw [← hS] at HSG
          have hSl : S.length = m + 1 := by rw [hS, List.length_take, List.length_drop]; omega
          have hSo : okL S := by rw [hS]; exact (HU1.out.ok.drop j).take _
          have hSg : ∀ i, i < m + 1 → S[i]? = us[j + i]? := fun i hi => by rw [hS, seg_get hi]
          have HS1 := hide hS
          obtain ⟨g', u0, hg', -, hgl, hu0, hu0l, hcu0, -⟩ := HU1.out.at (k := j + m) (by omega)
          obtain rfl : gu = g' := by simpa using hg'
          obtain ⟨g', u1, hg', -, -, hu1, hu1l, hcu1, -⟩ := HU1.out.at (k := j + (m - 1)) (by omega)
          obtain rfl : gu = g' := by simpa using hg'
          obtain ⟨g', u2, hg', -, -, hu2, hu2l, hcu2, -⟩ := HU1.out.at (k := j + (m - 2)) (by omega)
          obtain rfl : gu = g' := by simpa using hg'
          obtain ⟨b1, o1, v1, hA1, -, -, hv1, hv1l, hcv1⟩ := HV1.out.at (k := m - 1) (by omega)
          obtain ⟨rfl, rfl⟩ : gv = b1 ∧ 0 = o1 := by simpa using hA1
          obtain ⟨b1, o1, v2, hA2, -, -, hv2, hv2l, hcv2⟩ := HV1.out.at (k := m - 2) (by omega)
          obtain ⟨rfl, rfl⟩ : gv = b1 ∧ 0 = o1 := by simpa using hA2
          rw [← hSg _ (by omega)] at hu0 hu1 hu2
          have hv1p : 0 < v1 := by
            obtain ⟨tv, htv, htv0, -, -⟩ := lm_top HV1.out.len (by omega)
            rw [hv1] at htv
            injection htv with h
            omega
          have hor := or_32 u0 u1 hu0l hu1l
          obtain ⟨t, ht⟩ : ∃ t : Nat, t = u0 * 4294967296 + u1 := ⟨_, rfl⟩
          have ht2 : (u0 : Int) * 4294967296 + (u1 : Int) = (t : Int) := by omega
          rw [ht2] at hor
          have htl : t < 18446744073709551616 := by omega
          have hT : Top (lv S) (y * 2 ^ s) t v1 v2 u2 := by
            rw [← lv_lm (y * 2 ^ s)]
            obtain ⟨n, rfl⟩ : ∃ n, m = n + 2 := ⟨m - 2, by omega⟩
            refine ⟨⟨4294967296 ^ n, lv ((lm (y * 2 ^ s)).take n), lv (S.take n), pow_pos' n, ?_, ?_, take_lt HV1.out.ok (by have := HV1.out.len; omega), take_lt hSo (by omega)⟩, by rw [HSG.out, lv_lm]; exact HDB.out, hv1p, hv2l, hu2l⟩
            · exact top2 HV1.out.len hv2 hv1
            · rw [ht]; exact top3 hSl hu2 hu1 hu0
          have HT := hide hT
          have HTT := hide ht
          obtain ⟨q0, hq0⟩ : ∃ q0 : Nat, q0 = t / v1 := ⟨_, rfl⟩
          obtain ⟨r0, hr0⟩ : ∃ r0 : Nat, r0 = t % v1 := ⟨_, rfl⟩
          have hq0I : (t : Int) / (v1 : Int) = (q0 : Int) := by rw [hq0, Int.natCast_ediv]
          have hr0I : (t : Int) % (v1 : Int) = (r0 : Int) := by rw [hr0, Int.natCast_emod]
          have hq0l : q0 < 18446744073709551616 := by rw [hq0]; exact Nat.lt_of_le_of_lt (Nat.div_le_self _ _) htl
          have hr0l : r0 < v1 := by rw [hr0]; exact Nat.mod_lt _ hv1p
          have HQ0 := hide (show q0 * v1 + r0 = t by rw [hq0, hr0, Nat.mul_comm]; exact Nat.div_add_mod t v1)
          have HQ1q := hide (show lv S / (y * 2 ^ s) ≤ q0 by rw [hq0]; exact hT.ge)
          have hcv1' : wr.cell? ⟨gv, m - 1, none⟩ = some (.int .u32 (v1 : Int)) := by rw [Nat.zero_add] at hcv1; exact hcv1
          have hcv2' : wr.cell? ⟨gv, m - 2, none⟩ = some (.int .u32 (v2 : Int)) := by rw [Nat.zero_add] at hcv2; exact hcv2
          have hcu1' : wr.cell? ⟨gu, j + m - 1, none⟩ = some (.int .u32 (u1 : Int)) := by rw [Nat.add_sub_assoc (by omega)]; exact hcu1
          have hcu2' : wr.cell? ⟨gu, j + m - 2, none⟩ = some (.int .u32 (u2 : Int)) := by rw [Nat.add_sub_assoc (by omega)]; exact hcu2
          clear hul hdl hub hVlt hS hSo hSg hg' hu0 hu1 hu2 hA1 hA2 hv1 hv2 hT ht ht2 hq0 hr0 hcv1 hcv2 hcu1 hcu2
          have gi1 : (0 : Int) ≤ (m : Int) - 1 := by omega
          have gi2 : (0 : Int) ≤ (m : Int) - 2 := by omega
          have gi6 : (m : Int) - 1 < (m : Int) := by omega
          have gi7 : (m : Int) - 2 < (m : Int) := by omega
          have gj0 : (0 : Int) ≤ (j : Int) + (m : Int) := by omega
          have gj1 : (0 : Int) ≤ (j : Int) + (m : Int) - 1 := by omega
          have gj2 : (0 : Int) ≤ (j : Int) + (m : Int) - 2 := by omega
          have gj3 : (j : Int) + (m : Int) < (n : Int) + 1 := by omega
          have gj4 : (j : Int) + (m : Int) - 1 < (n : Int) + 1 := by omega
          have gj5 : (j : Int) + (m : Int) - 2 < (n : Int) + 1 := by omega
          have gj6 : (0 : Int) ≤ (j : Int) := by omega
          have gj7 : (j : Int) < (K : Int) := by omega
          have gv1 : (1 : Int) ≤ (v1 : Int) := by omega
          have hjp : ((j + 1 : Nat) : Int) - 1 = (j : Int) := by omega
          rw [hjp]
          clear hjp
          go_upto_region 15 with (fail)
          go_quiet (fail)
          go_upto_region 16 with (fail)
          go_quiet (fail)
          go_upto_region 17 with (fail)
          have HR0 := hide hr0I
          clear hq0I hr0I hor hcu0 hcu1'
          generalize hWW : World.drewN wr _ = wq
          have HDw := hide (show Dr wr wq by rw [← hWW]; exact (Dr.refl wr).drewN _)
          have hku2 : wq.cell? ⟨gu, j + m - 2, none⟩ = some (.int .u32 (u2 : Int)) := by rw [← hWW]; exact hcu2'
          have hkv1 : wq.cell? ⟨gv, m - 1, none⟩ = some (.int .u32 (v1 : Int)) := by rw [← hWW]; exact hcv1'
          have hkv2 : wq.cell? ⟨gv, m - 2, none⟩ = some (.int .u32 (v2 : Int)) := by rw [← hWW]; exact hcv2'
          clear hWW hcu2' hcv1' hcv2'
          obtain ⟨D, hD⟩ : ∃ D, D = lv S / (y * 2 ^ s) := ⟨_, rfl⟩
          rw [← hD] at HQ1q
          have HD := hide hD
          clear hD
          go_loopw [14, 15] (fun qv rv wx => ∃ q r : Nat, q < 18446744073709551616 ∧ r < 8589934592 ∧ qv = .int .u64 (q : Int) ∧ rv = .int .u64 (r : Int) ∧ Hid (q * v1 + r = t) ∧ Hid (D ≤ q) ∧ Hid (Dr wr wx) ∧ wx.cell? ⟨gu, j + m - 2, none⟩ = some (.int .u32 (u2 : Int)) ∧ wx.cell? ⟨gv, m - 1, none⟩ = some (.int .u32 (v1 : Int)) ∧ wx.cell? ⟨gv, m - 2, none⟩ = some (.int .u32 (v2 : Int))) (fun _ rv _ => 8589934592 - (intOf rv).toNat)
          case atStart => exact ⟨q0, r0, hq0l, by omega, rfl, rfl, HQ0, HQ1q, HDw, hku2, hkv1, hkv2⟩
          case round =>
            obtain ⟨q, r, hql, hrl, rfl, rfl, HQI, HG, HDr, hk0, hk1, hk2⟩ := hrel
            clear hku2 hkv1 hkv2 HDw HQ0 HQ1q HR0 hq0l hr0l
            by_cases hrb : 4294967296 ≤ r
            · have d0 : decide ((r : Int) < 4294967296) = false := decide_eq_false (by omega)
              obtain ⟨hqB, hqD⟩ := HT.out.brk HQI.out hrb
              have HE := hide (show q ≤ D + 1 by rw [HD.out]; exact hqD)
              clear hqD hrb
              go_upto_region 17 with (fail)
              go_quiet (fail)
              have HU1b := fun k => hide (HU1.out.frS ((HDr.out.drewN k).fr (fun _ => False)) (fun h => h) (fun _ h => h.elim))
              have HV1b := fun k => hide (HV1.out.dr (HDr.out.drewN k))
              have HQ1b := fun k => hide (HQ1.out.frS ((HDr.out.drewN k).fr (fun _ => False)) (fun h => h) (fun _ h => h.elim))
              have HQa := hide (show lv ((us.drop j).take (m + 1)) / lv (lm (y * 2 ^ s)) ≤ q by rw [lv_lm, ← HS1.out, ← HD.out]; exact HG.out)
              have HQb := hide (show q ≤ lv ((us.drop j).take (m + 1)) / lv (lm (y * 2 ^ s)) + 1 by rw [lv_lm, ← HS1.out, ← HD.out]; exact HE.out)
              have HVq := hide (show 0 < lv (lm (y * 2 ^ s)) by rw [lv_lm]; exact HVP.out)
              have hgqu : gq ≠ gu := by omega
              have hjm : j + m < n + 1 := by omega
              have hn2 : n + 1 ≤ 4294967296 := by omega
              go_wp2_with (go_at_call 102; (with_reducible refine (r1place_any W0 _ gu (n + 1) (n + 1) j m (some ⟨gv, 0, none⟩) (m + 1) us (lm (y * 2 ^ s)) q (HU1b _).out (HV1b _).out hjm hn2 hqB HVq.out HQa.out HQb.out).mono ?_); rintro e w7 ⟨sg, D', rfl, hDD, hD', hsl, hsv, ho7, hf7⟩; rw [lv_lm, ← HS1.out] at hsv hDD; have HDD := hide hDD.out; have HSV := hide hsv; have HSL := hide hsl; have HO7 := hide ho7; have hq7 := (HQ1b _).out.frS hf7 hgqu (by intro k hk; omega); obtain ⟨gq', z7, hgq', -, hgl7, -, -, hcz7, hfz7⟩ := hq7.at (k := j) (by omega); obtain rfl : gq = gq' := (by simpa using hgq'); have hfz8 := hfz7 j; have HQ7 := hide hq7; have HV7 := hide ((HV1b _).out.fr hf7 (fun _ b o hA hne h => by injection hA with hA; injection hA with hA; omega)); clear hsv hDD hsl ho7 hf7 hq7 hfz7 hgq')
              refine ⟨split_close HU1.out HQ1.out hgqu (by omega) (by omega) hD' HI.out HS1.out HSG.out HSL.out HSV.out HDD.out HVP.out HO7.out HQ7.out HV7.out (by omega) (by omega), by simp [intOf] <;> omega⟩
            · have d0 : decide ((r : Int) < 4294967296) = true := decide_eq_true (by omega)
              have hrl2 : r < 4294967296 := by omega
              have hor2 := or_32 r u2 hrl2 hu2l
              obtain ⟨R, hR⟩ : ∃ R : Nat, R = r * 4294967296 + u2 := ⟨_, rfl⟩
              have hR2 : (r : Int) * 4294967296 + (u2 : Int) = (R : Int) := by omega
              rw [hR2] at hor2
              have hRl : R < 18446744073709551616 := by omega
              by_cases hqB : 4294967296 ≤ q
              · have HN := hide (dec_mul HQI.out (by omega))
                have HL2 := hide (show D < q by rw [HD.out]; exact HT.out.big hqB)
                have d1 : decide ((4294967296 : Int) ≤ (q : Int)) = true := decide_eq_true (by omega)
                clear hor2 hR hR2
                go_upto_region 17 with (fail)
                go_quiet (fail)
                go_upto_region 18 with (fail)
                go_quiet (fail)
                go_wp2_with fail
                refine ⟨⟨q - 1, r + v1, by omega, by omega, vint (by omega), vint (by omega), HN, hide (by have := HL2.out; omega), hide (by first | exact HDr.out.drewN _ | exact (HDr.out.drewN _).drewN _), hk0, hk1, hk2⟩, by simp [intOf] <;> omega⟩
              · have hqB' : q < 4294967296 := by omega
                have d1 : decide ((4294967296 : Int) ≤ (q : Int)) = false := decide_eq_false (by omega)
                obtain ⟨hp1, hp2⟩ := mul_le hqB' hv2l
                by_cases hlt : R < q * v2
                · have hq1 : 0 < q := by
                    rcases Nat.eq_zero_or_pos q with h | h
                    · rw [h] at hlt; omega
                    · exact h
                  have HN := hide (dec_mul HQI.out hq1)
                  have HL2 := hide (show D < q by rw [HD.out]; exact HT.out.dec HQI.out (by omega))
                  have d2 : decide ((R : Int) < (q : Int) * (v2 : Int)) = true := decide_eq_true (by rw [← toN]; omega)
                  clear hR hR2 hlt
                  go_upto_region 17 with (fail)
                  go_quiet (fail)
                  go_upto_region 18 with (fail)
                  go_quiet (fail)
                  go_wp2_with fail
                  refine ⟨⟨q - 1, r + v1, by omega, by omega, vint (by omega), vint (by omega), HN, hide (by have := HL2.out; omega), hide (by first | exact HDr.out.drewN _ | exact (HDr.out.drewN _).drewN _), hk0, hk1, hk2⟩, by simp [intOf] <;> omega⟩
                · have d2 : decide ((R : Int) < (q : Int) * (v2 : Int)) = false := decide_eq_false (by rw [← toN]; omega)
                  have HE := hide (show q ≤ D + 1 by rw [HD.out]; exact HT.out.le HQI.out (by omega) hqB')
                  clear hR hR2 hlt hrb
                  have hqB := hqB'
                  go_upto_region 17 with (fail)
                  go_quiet (fail)
                  have HU1b := fun k => hide (HU1.out.frS ((HDr.out.drewN k).fr (fun _ => False)) (fun h => h) (fun _ h => h.elim))
                  have HV1b := fun k => hide (HV1.out.dr (HDr.out.drewN k))
                  have HQ1b := fun k => hide (HQ1.out.frS ((HDr.out.drewN k).fr (fun _ => False)) (fun h => h) (fun _ h => h.elim))
                  have HQa := hide (show lv ((us.drop j).take (m + 1)) / lv (lm (y * 2 ^ s)) ≤ q by rw [lv_lm, ← HS1.out, ← HD.out]; exact HG.out)
                  have HQb := hide (show q ≤ lv ((us.drop j).take (m + 1)) / lv (lm (y * 2 ^ s)) + 1 by rw [lv_lm, ← HS1.out, ← HD.out]; exact HE.out)
                  have HVq := hide (show 0 < lv (lm (y * 2 ^ s)) by rw [lv_lm]; exact HVP.out)
                  have hgqu : gq ≠ gu := by omega
                  have hjm : j + m < n + 1 := by omega
                  have hn2 : n + 1 ≤ 4294967296 := by omega
                  go_wp2_with (go_at_call 102; (with_reducible refine (r1place_any W0 _ gu (n + 1) (n + 1) j m (some ⟨gv, 0, none⟩) (m + 1) us (lm (y * 2 ^ s)) q (HU1b _).out (HV1b _).out hjm hn2 hqB HVq.out HQa.out HQb.out).mono ?_); rintro e w7 ⟨sg, D', rfl, hDD, hD', hsl, hsv, ho7, hf7⟩; rw [lv_lm, ← HS1.out] at hsv hDD; have HDD := hide hDD.out; have HSV := hide hsv; have HSL := hide hsl; have HO7 := hide ho7; have hq7 := (HQ1b _).out.frS hf7 hgqu (by intro k hk; omega); obtain ⟨gq', z7, hgq', -, hgl7, -, -, hcz7, hfz7⟩ := hq7.at (k := j) (by omega); obtain rfl : gq = gq' := (by simpa using hgq'); have hfz8 := hfz7 j; have HQ7 := hide hq7; have HV7 := hide ((HV1b _).out.fr hf7 (fun _ b o hA hne h => by injection hA with hA; injection hA with hA; omega)); clear hsv hDD hsl ho7 hf7 hq7 hfz7 hgq')
                  refine ⟨split_close HU1.out HQ1.out hgqu (by omega) (by omega) hD' HI.out HS1.out HSG.out HSL.out HSV.out HDD.out HVP.out HO7.out HQ7.out HV7.out (by omega) (by omega), by simp [intOf] <;> omega⟩
end Go.Proofs.Ytnofljgmkdommaa

/- Contracts: lists of ints, the tape. -/
namespace Go.Proofs.Ytnofljgmkdommaa
open Go.RowKit

def iv (i : Int) : List Value := [.int .i64 i]
theorem iv_len (i : Int) : (iv i).length = 1 := rfl
theorem iv_one (i : Int) : ∀ u ∈ iv i, u.oneCell' = true := by
  intro u hu
  simp [iv] at hu
  subst hu
  rfl

/-- A slice of ints, element k. -/
theorem ints_at {w : World} {av : Option Nat} {A : Option Addr} {l : List Int} (h : Rs w av 1 iv A l) {k : Nat} (hk : k < l.length) :
    ∃ b o, A = some ⟨b, o, none⟩ ∧ some b ≠ av ∧ b < w.heap.size ∧ w.cell? ⟨b, o + k, none⟩ = some (.int .i64 l[k]) := by
  obtain ⟨b, o, h1, h2, h3, h4⟩ := h.at (List.getElem?_eq_getElem hk)
  refine ⟨b, o, h1, h2, h3, ?_⟩
  have := h4 0 (.int .i64 l[k]) rfl
  simpa using this

/-- The tape at block T: the list l, the next place a. -/
def TapeAt (w : World) (T : Nat) (A : Option Addr) (n c : Nat) (l : List Int) (a : Nat) : Prop :=
  T < w.heap.size ∧ w.cell? ⟨T, 0, none⟩ = some (.slice A n c) ∧ w.cell? ⟨T, 1, none⟩ = some (.int .i64 a) ∧ (∀ j, w.frozen? ⟨T, j, none⟩ = false) ∧ Rs w (some T) 1 iv A l ∧ l.length = n

def tapeV (l : List Int) (a : Nat) (N : Int) : Int := foldV (if h : a < l.length then l[a] else ((a : Int) * 7) % 11) N
theorem tapeV_lo (l : List Int) (a : Nat) (N : Int) : 0 ≤ tapeV l a N ∧ (tapeV l a N < N ∨ tapeV l a N = 0) := foldV_lo _ _

theorem TapeAt.fr {w w' : World} {T : Nat} {A : Option Addr} {n c : Nat} {l : List Int} {a : Nat} (h : TapeAt w T A n c l a) {S : Nat → Prop} (hb : Fr w w' S) (hS : ¬ S T) (hA : ∀ b o, A = some ⟨b, o, none⟩ → l ≠ [] → ¬ S b) : TapeAt w' T A n c l a := by
  obtain ⟨h1, h2, h3, h4, h5, h6⟩ := h
  have hk := hb.block T h1 hS
  refine ⟨Nat.lt_of_lt_of_le h1 hb.size, ?_, ?_, fun j => ?_, ?_, h6⟩
  · rw [World.cell?_of_block (w := w) (a := ⟨T, 0, none⟩) hk]; exact h2
  · rw [World.cell?_of_block (w := w) (a := ⟨T, 1, none⟩) hk]; exact h3
  · rw [World.frozen?_of_block (w := w) (a := ⟨T, j, none⟩) hk]; exact h4 j
  · intro hl
    obtain ⟨b, o, g1, g2, g3, g4⟩ := h5 hl
    refine ⟨b, o, g1, g2, Nat.lt_of_lt_of_le g3 hb.size, fun k x hk j u hu => ?_⟩
    rw [World.cell?_of_block (w := w) (a := ⟨b, o + k * 1 + j, none⟩) (hb.block b g3 (hA b o g1 hl))]
    exact g4 k x hk j u hu
theorem TapeAt.below {w w' : World} {T : Nat} {A : Option Addr} {n c : Nat} {l : List Int} {a : Nat} (h : TapeAt w T A n c l a) (hb : Below w.heap.size w w') : TapeAt w' T A n c l a :=
  h.fr (Fr.of_below (fun _ => False) hb) (fun h => h) (fun _ _ _ _ h => h)
theorem TapeAt.alloc {w : World} {T : Nat} {A : Option Addr} {n c : Nat} {l : List Int} {a : Nat} (h : TapeAt w T A n c l a) (o : Obj) : TapeAt (w.alloc o) T A n c l a := h.below ((Below.refl _ _).alloc (Nat.le_refl _) _)
theorem TapeAt.drew {w : World} {T : Nat} {A : Option Addr} {n c : Nat} {l : List Int} {a : Nat} (h : TapeAt w T A n c l a) : TapeAt w.drew T A n c l a := h

theorem fold_next (l : List Int) (a : Nat) (N v : Int) (h : v = if h : a < l.length then l[a] else ((a : Int) * 7) % 11) : foldV v N = tapeV l a N := by rw [h]; rfl

theorem tape_put {w : World} {T : Nat} {A : Option Addr} {n c : Nat} {l : List Int} {a : Nat} (h : TapeAt w T A n c l a) : TapeAt (w.setCell ⟨T, 1, none⟩ (.int .i64 (a + 1 : Nat))) T A n c l (a + 1) := by
  obtain ⟨h1, h2, h3, h4, h5, h6⟩ := h
  refine ⟨by simpa [World.setCell] using h1, ?_, World.cell?_setCell_same w _ _ h3, fun j => by rw [World.frozen?_setCell]; exact h4 j, ?_, h6⟩
  · rw [World.cell?_setCell_other _ _ _ _ (by simp)]; exact h2
  · intro hl
    obtain ⟨b, o, g1, g2, g3, g4⟩ := h5 hl
    refine ⟨b, o, g1, g2, by simpa [World.setCell] using g3, fun k x hk j u hu => ?_⟩
    rw [World.cell?_setCell_other _ _ _ _ (by intro e; injection e with e1; exact g2 (by rw [e1]))]
    exact g4 k x hk j u hu
theorem fr_put {w : World} {T : Nat} {o : Nat} {v : Value} : Fr w (w.setCell ⟨T, o, none⟩ v) (fun b => b = T) := Fr.setCell (S := fun b => b = T) (p := ⟨T, o, none⟩) (Fr.refl w _) (Or.inr rfl) v

set_option maxHeartbeats 1000000 in
theorem next_any (w : World) (T : Nat) (A : Option Addr) (n c : Nat) (l : List Int) (a : Nat) (N : Int) (hT : TapeAt w T A n c l a) (ha : a ≤ 4294967296) (hN : N ≤ 4294967296) :
    Calls Try.prog 22 #[.pointer (some ⟨T, 0, none⟩), .int .i64 N] w fun e w' => e = .returned (.int .i64 (tapeV l a N)) ∧ TapeAt w' T A n c l (a + 1) ∧ Fr w w' (fun b => b = T) := by
  have HT := hide hT
  obtain ⟨h1, h2, h3, h4, h5, h6⟩ := hT
  by_cases hlt : a < n
  · obtain ⟨b, o, rfl, hne, hb, hc⟩ := ints_at h5 (k := a) (by omega)
    obtain ⟨x, hx⟩ : ∃ x, x = l[a]'(by omega) := ⟨_, rfl⟩
    rw [← hx] at hc
    have HV := hide (fold_next l a N x (by rw [dif_pos (by omega)]; exact hx))
    have ht : decide (a < n) = true := by simpa using hlt
    have hi1 : (0 : Int) ≤ (a : Int) := by omega
    have hi2 : (a : Int) < (n : Int) := by omega
    have hbT : ¬ b = T := fun e => hne (by rw [e])
    clear h5 h6 hx
    go_enter Try.func22, Try.ntmps22
    go_wp2_with fail
    go_region_held3 (fun W => W.cell? ⟨T, 0, none⟩ = some (.slice (some ⟨b, o, none⟩) n c) ∧ W.cell? ⟨T, 1, none⟩ = some (.int .i64 a)) (first | (go_keep; done) | ((try dsimp only); (repeat' apply And.intro) <;> first | (go_keep; done) | ((repeat rw [World.cell?_setCell_other _ _ _ _ (by intro h; injection h; omega)]); go_keep; done))) (fail)
    go_wp2_with fail
    go_region_held3 (fun W => W.cell? ⟨T, 0, none⟩ = some (.slice (some ⟨b, o, none⟩) n c) ∧ W.cell? ⟨T, 1, none⟩ = some (.int .i64 a) ∧ W.cell? ⟨b, o + a, none⟩ = some (.int .i64 x)) (first | (go_keep; done) | ((try dsimp only); (repeat' apply And.intro) <;> first | (go_keep; done) | ((repeat rw [World.cell?_setCell_other _ _ _ _ (by intro h; injection h; omega)]); go_keep; done))) (fail)
    go_wp2_with (go_at_call 15; refine (fold_any _ _ _ hN).mono ?_; rintro e w1 ⟨rfl, rfl⟩)
    go_ret
    exact ⟨ret_int HV.out, tape_put HT.out, fr_put.drew.drew⟩
  · have HV := hide (fold_next l a N ((a : Int) * 7 % 11) (by rw [dif_neg (by omega)]))
    have ht : decide (a < n) = false := by simpa using hlt
    clear h5 h6
    go_enter Try.func22, Try.ntmps22
    go_wp2_with fail
    go_region_held3 (fun W => W.cell? ⟨T, 0, none⟩ = some (.slice A n c) ∧ W.cell? ⟨T, 1, none⟩ = some (.int .i64 a)) (first | (go_keep; done) | ((try dsimp only); (repeat' apply And.intro) <;> first | (go_keep; done) | ((repeat rw [World.cell?_setCell_other _ _ _ _ (by intro h; injection h; omega)]); go_keep; done))) (fail)
    go_wp2_with (go_at_call 15; refine (fold_any _ _ _ hN).mono ?_; rintro e w1 ⟨rfl, rfl⟩)
    go_ret
    exact ⟨ret_int HV.out, tape_put HT.out, fr_put.drew⟩

/-- A slice of ints just built. -/
theorem rs_new {w : World} {T : Nat} (hT : T < w.heap.size) (xs : List Int) (t : TypeId) : Rs (w.alloc (.cells ((xs.map (Value.int .i64)).toArray) t)) (some T) 1 iv (some ⟨w.heap.size, 0, none⟩) xs := by
  intro _
  refine ⟨w.heap.size, 0, rfl, by intro h; injection h with h; omega, by simp, fun k a hk j u hu => ?_⟩
  match j with
  | 0 =>
    simp [iv] at hu
    subst hu
    rw [World.cell?_alloc_new]
    simp [hk]
  | j + 1 => simp [iv] at hu

end Go.Proofs.Ytnofljgmkdommaa

/- Contracts: the tape, Pick. -/
namespace Go.Proofs.Ytnofljgmkdommaa
open Go.RowKit

set_option maxHeartbeats 400000 in
theorem pick_any (w : World) (T : Nat) (A : Option Addr) (n c : Nat) (l : List Int) (a : Nat) (g m d : Nat) (xs : List Int) (hT : TapeAt w T A n c l a) (ha : a ≤ 4294967296)
    (hx : Rs w (some T) 1 iv (some ⟨g, 0, none⟩) xs) (hl : xs.length = m) (h0 : 0 < m) (hm : m ≤ 4294967296) :
    Calls Try.prog 44 #[.pointer (some ⟨T, 0, none⟩), .slice (some ⟨g, 0, none⟩) m d] w fun e w' => (∃ v, v ∈ xs ∧ e = .returned (.int .i64 v)) ∧ TapeAt w' T A n c l (a + 1) ∧ Fr w w' (fun b => b = T) := by
  have hv := tapeV_lo l a m
  obtain ⟨k, hk⟩ : ∃ k : Nat, tapeV l a m = k := ⟨(tapeV l a m).toNat, by omega⟩
  have hkm : k < m := by omega
  obtain ⟨b, o, hA, hne, hb, hc⟩ := ints_at hx (k := k) (by omega)
  obtain ⟨rfl, rfl⟩ : b = g ∧ o = 0 := by simp at hA; omega
  have hbT : ¬ b = T := fun e => hne (by rw [e])
  obtain ⟨x, hxx⟩ : ∃ x, x = xs[k]'(by omega) := ⟨_, rfl⟩
  rw [← hxx] at hc
  have HM := hide (show x ∈ xs from by rw [hxx]; exact List.getElem_mem _)
  have hmI : (0 : Int) < (m : Int) := by omega
  have hkI : (k : Int) < (m : Int) := by omega
  have hkJ : (0 : Int) ≤ (k : Int) := by omega
  have HK := hide hk
  have HX := hide hx
  clear hA hxx hl hv hk hx
  have hm0 : ((m : Int) == 0) = false := by simp; omega
  go_enter Try.func44, Try.ntmps44
  go_wp2_with (go_at_call 22; refine (next_any _ T A n c l a m hT ha (by omega)).mono ?_; rintro e w1 ⟨rfl, ht1, hf1⟩; rw [HK.out]; have hc1 : w1.cell? ⟨b, 0 + k, none⟩ = some (.int .i64 x) := (by rw [← hc]; exact World.cell?_of_block (w := w) (hf1.block b hb hbT)); simp only [Nat.zero_add] at hc1)
  go_ret
  exact ⟨⟨_, HM.out, rfl⟩, ht1, hf1⟩

end Go.Proofs.Ytnofljgmkdommaa
