/- Contracts of the functions that these laws reach: part 13: Contracts: the reference's Choose; The walk of the law NoiseChooses; Contracts: the reference's Check, Order, Compare; Contracts: the reference's Plus, Minus; Contracts: the reference's Times; Contracts: the reference's small, cut. -/
import Derived.Test.YtclflfglhbkfkaaG3
import Derived.Test.YtclflfglhbkfkaaG12
import Derived.Test.YtclflfglhbkfkaaG6
import Derived.Test.YtclflfglhbkfkaaG4
set_option linter.unusedVariables false
set_option linter.unusedSimpArgs false

/- Contracts: the reference's Choose. -/
namespace Go.Proofs.Ytclflfglhbkfkaa
open Go.RowKit

theorem ch_one : ∀ n, ch n 1 = n
  | 0 => rfl
  | n + 1 => by show ch n 0 + ch n 1 = _; rw [ch_zero, ch_one n]; omega
theorem ch_mul : ∀ n k : Nat, ch (n + 1) (k + 1) * (k + 1) = ch n k * (n + 1)
  | 0, 0 => rfl
  | 0, k + 1 => by
    show (ch 0 (k + 1) + ch 0 (k + 2)) * (k + 2) = ch 0 (k + 1) * 1
    show (0 + 0) * _ = 0 * 1
    omega
  | n + 1, 0 => by rw [ch_one, ch_zero]; omega
  | n + 1, k + 1 => by
    have h1 := ch_mul n k
    have h2 := ch_mul n (k + 1)
    show (ch (n + 1) (k + 1) + ch (n + 1) (k + 2)) * (k + 1 + 1) = (ch n k + ch n (k + 1)) * (n + 1 + 1)
    have e : ch (n + 1) (k + 1) = ch n k + ch n (k + 1) := rfl
    rw [Nat.add_mul, h2]
    rw [Nat.mul_add _ (k + 1) 1, h1, e, Nat.mul_one]
    rw [show n + 1 + 1 = (n + 1) + 1 from rfl, Nat.mul_add _ (n + 1) 1, Nat.mul_one, Nat.add_mul]
    omega
theorem ch_step {d i : Nat} : ch (d + i) i * (d + (i + 1)) / (i + 1) = ch (d + (i + 1)) (i + 1) := by
  have h := ch_mul (d + i) i
  rw [show d + (i + 1) = d + i + 1 by omega, ← h]
  exact Nat.mul_div_cancel _ (by omega)
theorem r1of_zero (w : World) : Calls Try.prog 52 #[.int .u64 0] w fun e w' => ∃ A m c, e = .returned (.slice A m c) ∧ m ≤ c ∧ m ≤ 2 ∧ Ul w' none A m (lm 0) ∧ Below w.heap.size w w' := r1of_any w 0 (by omega)
set_option maxRecDepth 100000 in
set_option maxHeartbeats 4000000 in
theorem rchoose_any (w : World) (n k : Int) :
    Calls Try.prog 26 #[.int .i64 n, .int .i64 k] w fun e w' => ∃ A m c, e = .returned (.tuple #[.slice A m c, .int .i64 (chooseE n)]) ∧ m ≤ c ∧ m ≤ 2 ∧ Ul w' none A m (chooseL n k) ∧ Below w.heap.size w w' := by
  by_cases h0 : n < 0
  · have e1 := hide (show chooseE n = 3 from if_pos (.inl h0))
    have e2 := hide (show chooseL n k = [] from if_pos (.inl h0))
    go_enter Try.func26, Try.ntmps26
    go_wp2_with fail
    go_ret2
    exact ⟨none, 0, 0, by rw [e1.out]; rfl, by omega, by omega, by rw [e2.out]; exact Ul.nil, Below.refl _ _⟩
  · by_cases h1 : 32 < n
    · have e1 := hide (show chooseE n = 3 from if_pos (.inr h1))
      have e2 := hide (show chooseL n k = [] from if_pos (.inr h1))
      have d0 : decide (n < 0) = false := decide_eq_false h0
      have d1 : decide (n > 32) = true := decide_eq_true h1
      clear h0 h1
      go_enter Try.func26, Try.ntmps26
      go_wp2_with fail
      go_ret2
      exact ⟨none, 0, 0, by rw [e1.out]; rfl, by omega, by omega, by rw [e2.out]; exact Ul.nil, Below.refl _ _⟩
    · have e1 := hide (show chooseE n = 0 from if_neg (by omega))
      have d0 : decide (n < 0) = false := decide_eq_false h0
      have d1 : decide (n > 32) = false := decide_eq_false h1
      by_cases hk : k < 0 ∨ n < k
      · have e2 := hide (show chooseL n k = lm 0 by unfold chooseL; rw [if_neg (by omega), if_pos hk, lm_zero])
        by_cases hk0 : k < 0
        · have d2 : decide (k < 0) = true := decide_eq_true hk0
          clear h0 h1 hk hk0
          go_enter Try.func26, Try.ntmps26
          go_wp2_with (go_at_call 52; (with_reducible refine (r1of_zero _).mono ?_); rintro e w1 ⟨A, m, c, rfl, hmc, hm2, hu, hb⟩; have HU := hide hu; have HB := hide hb; clear hu hb)
          go_ret2
          exact ⟨A, m, c, by rw [e1.out]; rfl, hmc, hm2, by rw [e2.out]; exact HU.out, HB.out⟩
        · have d2 : decide (k < 0) = false := decide_eq_false hk0
          have d3 : decide (k > n) = true := decide_eq_true (by omega)
          clear h0 h1 hk hk0
          go_enter Try.func26, Try.ntmps26
          go_wp2_with (go_at_call 52; (with_reducible refine (r1of_zero _).mono ?_); rintro e w1 ⟨A, m, c, rfl, hmc, hm2, hu, hb⟩; have HU := hide hu; have HB := hide hb; clear hu hb)
          go_ret2
          exact ⟨A, m, c, by rw [e1.out]; rfl, hmc, hm2, by rw [e2.out]; exact HU.out, HB.out⟩
      · obtain ⟨N, rfl⟩ : ∃ N : Nat, n = N := ⟨n.toNat, by omega⟩
        obtain ⟨K, rfl⟩ : ∃ K : Nat, k = K := ⟨k.toNat, by omega⟩
        obtain ⟨D, rfl⟩ : ∃ D, N = D + K := ⟨N - K, by omega⟩
        have e2 := hide (show chooseL ((D + K : Nat) : Int) (K : Int) = lm (ch (D + K) K) by unfold chooseL; rw [if_neg (by omega), if_neg hk]; rfl)
        have d2 : decide ((K : Int) < 0) = false := decide_eq_false (by omega)
        have hN : D + K ≤ 32 := by omega
        have HDK := hide (show (((D + K : Nat) : Int)) = (D : Int) + (K : Int) by omega)
        obtain ⟨NN, hNN⟩ : ∃ NN : Int, NN = ((D + K : Nat) : Int) := ⟨_, rfl⟩
        have d3 : decide ((K : Int) > NN) = false := decide_eq_false (by omega)
        have hsub : NN - (K : Int) = (D : Int) := by omega
        have hn0 : ¬ NN < 0 := by omega
        have hn32 : NN ≤ 32 := by omega
        have hnk : (K : Int) ≤ NN := by omega
        rw [← hNN] at e1 e2 d0 d1 ⊢
        clear h0 h1 hk hNN HDK
        go_enter Try.func26, Try.ntmps26
        go_wp2_with fail
        go_loopw [6, 7] (fun c i W => ∃ j : Nat, c = .int .u64 (ch (D + j) j : Int) ∧ i = .int .i64 ((j : Int) + 1) ∧ j ≤ K ∧ W = w) (fun _ i _ => K + 1 - (intOf i).toNat)
        case atStart => exact ⟨0, by rw [ch_zero]; rfl, rfl, by omega, rfl⟩
        case round =>
          obtain ⟨j, rfl, rfl, hj, rfl⟩ := hrel
          have hch : ch (D + j) j ≤ 4294967296 := by
            have h1 := ch_le (D + j) j
            have h2 : 2 ^ (D + j) ≤ 2 ^ 32 := Nat.pow_le_pow_right (by omega) (by omega)
            omega
          by_cases hjK : j = K
          · subst hjK
            have HCH := hide (show ch (D + j) j < 18446744073709551616 by omega)
            go_wp2_with (go_at_call 52; (with_reducible refine (r1of_any _ (ch (D + j) j) HCH.out).mono ?_); rintro e w2 ⟨A, m, c, rfl, hmc, hm2, hu, hb⟩; have HU := hide hu; have HB := hide hb; clear hu hb)
            go_ret2
            exact ⟨A, m, c, by rw [e1.out]; rfl, hmc, hm2, by rw [e2.out]; exact HU.out, HB.out⟩
          · have hlt : (j : Int) + 1 ≤ (K : Int) := by omega
            have HST := hide (ch_step (d := D) (i := j))
            obtain ⟨q, hq⟩ : ∃ q, q = ch (D + j) j := ⟨_, rfl⟩
            rw [← hq] at HST hch ⊢
            clear hq
            have hd : D + (j + 1) ≤ 32 := by omega
            have w1 : IntKind.u64.wrap ((D : Int) + ((j : Int) + 1)) = ((D + (j + 1) : Nat) : Int) := by
              show ((D : Int) + ((j : Int) + 1)) % 18446744073709551616 = _
              omega
            have hm : q * (D + (j + 1)) ≤ 4294967296 * 32 := Nat.mul_le_mul hch hd
            have hv : IntKind.u64.wrap ((IntKind.u64.wrap ((q : Int) * ((D : Int) + ((j : Int) + 1)))).tdiv ((j : Int) + 1)) = ((ch (D + (j + 1)) (j + 1) : Nat) : Int) := by
              have h0 := HST.out
              obtain ⟨p, hp⟩ : ∃ p, p = q * (D + (j + 1)) := ⟨_, rfl⟩
              have a1 : (q : Int) * ((D : Int) + ((j : Int) + 1)) = (p : Int) := by rw [hp]; push_cast; rfl
              rw [← hp] at hm h0
              have a2 : IntKind.u64.wrap (p : Int) = (p : Int) := by
                show (p : Int) % 18446744073709551616 = _
                omega
              obtain ⟨s, hs⟩ : ∃ s, s = p / (j + 1) := ⟨_, rfl⟩
              have a3 : ((p : Int)).tdiv ((j : Int) + 1) = (s : Int) := by rw [hs]; rfl
              have a4 : s ≤ p := by rw [hs]; exact Nat.div_le_self _ _
              rw [a1, a2, a3, ← h0, ← hs]
              show (s : Int) % 18446744073709551616 = _
              omega
            have HV := hide hv
            clear hv
            go_wp2_with fail
            first
              | (go_roundw
                 case rel => exact ⟨j + 1, by rw [HV.out], by go_num, by omega, by first | rfl | trivial⟩
                 case measure => simp [intOf]; omega)
              | exact ⟨⟨j + 1, by rw [HV.out], by go_num, by omega, by first | rfl | trivial⟩, by simp [intOf]; omega⟩
end Go.Proofs.Ytclflfglhbkfkaa

/- The walk of the law NoiseChooses. -/
namespace Go.Proofs.Ytclflfglhbkfkaa
open Go.RowKit

theorem two_new (w : World) (x y : Int) (t : TypeId) : Rs (w.alloc (.cells #[.int .i64 x, .int .i64 y] t)) none 1 iv (some ⟨w.heap.size, 0, none⟩) [x, y] := by
  intro _
  refine ⟨w.heap.size, 0, rfl, by simp, by simp, fun k a hk j u hu => ?_⟩
  have hj : j = 0 := by
    have := (List.getElem?_eq_some_iff.1 hu).1
    simp [iv] at this
    omega
  subst hj
  simp [iv] at hu
  subst hu
  rcases k with _ | _ | k
  · simp at hk; subst hk; simp [go_sem]
  · simp at hk; subst hk; simp [go_sem]
  · simp at hk
set_option maxRecDepth 100000 in
set_option maxHeartbeats 8000000 in
theorem chooses_walk (w : World) (N K : Int) :
    Calls Try.prog 6 #[.int .i64 N, .int .i64 K] w fun e w' => e = .returned (.bool true) ∧ Below w.heap.size w w' := by
  obtain ⟨m, hm, hF⟩ := fold_nat N 34 (by omega) (by omega)
  obtain ⟨q, hq, hG⟩ := fold_nat K 34 (by omega) (by omega)
  have HF := hide hF
  have HG := hide hG
  clear hF hG
  go_enter Try.func6, Try.ntmps6
  go_upto_region 2 with (go_at_call 12; (with_reducible refine (HF.out _).mono ?_); rintro e w' ⟨rfl, rfl⟩)
  generalize hW : World.alloc w _ = v
  have HR := hide (show Rs v none 1 iv (some ⟨w.heap.size, 0, none⟩) [N, (m : Int)] by rw [← hW]; exact two_new w N m 3)
  have HB := hide (show Below w.heap.size w v by rw [← hW]; exact (Below.refl _ _).alloc (Nat.le_refl _) _)
  clear hW
  go_loopw [18] (fun i wr => ∃ j : Nat, i = .int .i64 (j : Int) ∧ j ≤ 2 ∧ Hid (Below v.heap.size v wr)) (fun i _ => 2 - (intOf i).toNat)
  case atStart => exact ⟨0, rfl, by omega, hide (Below.refl _ _)⟩
  case round =>
    obtain ⟨j, rfl, hj, HBr⟩ := hrel
    by_cases hj2 : j = 2
    · subst hj2
      go_wp2_with (go_at_call 15; (with_reducible refine (known_any _).mono ?_); rintro e w9 ⟨rfl, hb⟩; have HB9 := hide (HBr.out.trans (hb.mono HBr.out.size)); clear hb)
      go_ret
      exact ⟨rfl, HB.out.trans (HB9.out.mono HB.out.size)⟩
    · have hj0 : (0 : Int) ≤ (j : Int) := by omega
      have hjlt : (j : Int) < 2 := by omega
      obtain ⟨b, o, hbo, -, hb, hcell⟩ := ints_at (HR.out.below HBr.out) (k := j) (by simp; omega)
      obtain ⟨x, hx⟩ : ∃ x, x = [N, (m : Int)][j]'(by simp; omega) := ⟨_, rfl⟩
      rw [← hx] at hcell
      injection hbo with hbo
      injection hbo with h1 h2
      subst h1
      subst h2
      simp only [Nat.zero_add] at hcell
      clear hx
      go_upto_region 5 with (go_at_call 12; (with_reducible refine (HG.out _).mono ?_); rintro e w' ⟨rfl, rfl⟩)
      generalize hW : World.alloc wr _ = v2
      have HR2 := hide (show Rs v2 none 1 iv (some ⟨wr.heap.size, 0, none⟩) [K, (q : Int)] by rw [← hW]; exact two_new wr K q 3)
      have HB2 := hide (show Below v.heap.size v v2 by rw [← hW]; exact HBr.out.alloc HBr.out.size _)
      clear hW hcell
      go_loopw [27] (fun i wx => ∃ k : Nat, i = .int .i64 (k : Int) ∧ k ≤ 2 ∧ Hid (Below v2.heap.size v2 wx)) (fun i _ => 2 - (intOf i).toNat)
      case atStart => exact ⟨0, rfl, by omega, hide (Below.refl _ _)⟩
      case round =>
        obtain ⟨k, rfl, hk, HBx⟩ := hrel
        by_cases hk2 : k = 2
        · subst hk2
          go_wp2_with fail
          go_roundw
          case rel => exact ⟨j + 1, by go_num, by omega, hide (HB2.out.trans (HBx.out.mono HB2.out.size))⟩
          case measure => simp [intOf]; omega
        · have hk0 : (0 : Int) ≤ (k : Int) := by omega
          have hklt : (k : Int) < 2 := by omega
          obtain ⟨b, o, hbo, -, hb2, hcell⟩ := ints_at (HR2.out.below HBx.out) (k := k) (by simp; omega)
          obtain ⟨y, hy⟩ : ∃ y, y = [K, (q : Int)][k]'(by simp; omega) := ⟨_, rfl⟩
          rw [← hy] at hcell
          injection hbo with hbo
          injection hbo with h1 h2
          subst h1
          subst h2
          simp only [Nat.zero_add] at hcell
          clear hy
          go_wp2_with (first
            | (go_at_call 25; (with_reducible refine (choose_any _ x y).mono ?_); rintro e w3 ⟨A3, m3, d3, rfl, hd3, hm3, hu, hb⟩; have HU3 := hide hu; have HB3 := hide (HBx.out.trans (hb.mono HBx.out.size)); clear hu hb)
            | (go_at_call 26; (with_reducible refine (rchoose_any _ x y).mono ?_); rintro e w4 ⟨A4, m4, d4, rfl, hd4, hm4, hu, hb⟩; have HU4 := hide hu; have HU3b := hide (HU3.out.below hb); have HB4 := hide (HB3.out.trans (hb.mono HB3.out.size)); have hmm : m3 = m4 := HU3b.out.len.symm.trans HU4.out.len; have HMM := hide hmm; clear hu hb hmm)
            | (go_at_call 27; (with_reducible refine (samenat_eq2 _ A3 A4 m3 m4 d3 d4 HMM.out _ HU3b.out HU4.out (by omega)).mono ?_); rintro e w5 ⟨rfl, hb⟩; have HB5 := hide (HB4.out.trans (hb.mono HB4.out.size)); clear hb))
          go_roundw
          case rel => exact ⟨k + 1, by go_num, by omega, HB5⟩
          case measure => simp [intOf]; omega
end Go.Proofs.Ytclflfglhbkfkaa

/- Contracts: the reference's Check, Order, Compare. -/
namespace Go.Proofs.Ytclflfglhbkfkaa
open Go.RowKit

set_option maxRecDepth 100000 in
set_option maxHeartbeats 4000000 in
theorem r1check_any (w : World) (av : Option Nat) (A : Option Addr) (n c : Nat) (l : List Nat) (hU : Ul w av A n l) (hn : n ≤ 9223372036854775807) :
    Calls Try.prog 78 #[.slice A n c] w fun e w' => e = .returned (.bool (natB l)) ∧ w' = w := by
  by_cases h1 : 128 < n
  · have hb := hide (natB_big (l := l) (by rw [hU.len]; exact h1))
    have d1 : decide ((n : Int) ≤ 128) = false := decide_eq_false (by omega)
    clear hU
    go_enter Try.func78, Try.ntmps78
    go_wp2
    go_ret
    exact ⟨by rw [hb.out]; rfl, rfl⟩
  · have d1 : decide ((n : Int) ≤ 128) = true := decide_eq_true (by omega)
    by_cases h0 : n = 0
    · subst h0
      have hl : l = [] := List.eq_nil_of_length_eq_zero hU.len
      subst hl
      go_enter Try.func78, Try.ntmps78
      go_wp2
      go_ret
      exact ⟨by rw [natB_nil]; rfl, rfl⟩
    · obtain ⟨k, rfl⟩ : ∃ k, n = k + 1 := ⟨n - 1, by omega⟩
      obtain ⟨b, o, x, rfl, -, -, hx, hxl, hcell⟩ := hU.at (k := k) (by omega)
      have hb := natB_last hU.ok hU.len (by omega) hx
      have g1 : (0 : Int) ≤ (k : Int) := by omega
      have d2 : ((k : Int) + 1 == 0) = false := by simp; omega
      by_cases hx0 : x = 0
      · subst hx0
        have HB := hide (show natB l = false by rw [hb]; rfl)
        clear hU hx hb
        go_enter Try.func78, Try.ntmps78
        go_wp2
        go_ret
        exact ⟨by rw [HB.out]; rfl, rfl⟩
      · have HB := hide (show natB l = true by rw [hb]; simp [hx0])
        have d3 : ((x : Int) != 0) = true := by simp; omega
        clear hU hx hb
        go_enter Try.func78, Try.ntmps78
        go_wp2
        go_ret
        exact ⟨by rw [HB.out]; rfl, rfl⟩
set_option maxRecDepth 100000 in
set_option maxHeartbeats 4000000 in
theorem r1order_any (w : World) (av av' : Option Nat) (A : Option Addr) (n c : Nat) (A' : Option Addr) (n' c' : Nat) (x y : Nat) (hU : Ul w av A n (lm x)) (hV : Ul w av' A' n' (lm y)) (hn : n ≤ 4294967296) (hn' : n' ≤ 4294967296) :
    Calls Try.prog 93 #[.slice A n c, .slice A' n' c'] w fun e w' => e = .returned (.int .i64 (cmpN x y)) ∧ Dr w w' := by
  have HU := hide hU
  have HV := hide hV
  clear hU hV
  by_cases hne : n = n'
  · subst hne
    go_enter Try.func93, Try.ntmps93
    go_wp2
    go_loopw [5] (fun i wr => ∃ k : Nat, k ≤ n ∧ i = .int .i64 ((k : Int) - 1) ∧ Hid ((lm x).drop k = (lm y).drop k) ∧ Hid (Dr w wr)) (fun i _ => (intOf i + 1).toNat)
    case atStart => exact ⟨n, Nat.le_refl _, rfl, hide (by rw [List.drop_eq_nil_of_le (by have := HU.out.len; omega), List.drop_eq_nil_of_le (by have := HV.out.len; omega)]), hide (Dr.refl w)⟩
    case round =>
      obtain ⟨k, hk, rfl, HK, HD⟩ := hrel
      by_cases hk0 : k = 0
      · subst hk0
        go_wp2
        go_ret
        have e : x = y := lm_inj (by simpa using HK.out)
        exact ⟨by rw [e, cmpN_eq]; rfl, HD.out⟩
      · obtain ⟨j, rfl⟩ : ∃ j, k = j + 1 := ⟨k - 1, by omega⟩
        obtain ⟨b, o, p, rfl, -, -, hp, hpl, hcell⟩ := (HU.out.dr HD.out).at (k := j) (by omega)
        obtain ⟨b', o', q, rfl, -, -, hq, hql, hcell'⟩ := (HV.out.dr HD.out).at (k := j) (by omega)
        have HP := hide hp
        have HQ := hide hq
        clear hp hq
        have g1 : (0 : Int) ≤ (j : Int) := by omega
        have g2 : (j : Int) < (n : Int) := by omega
        rcases Nat.lt_trichotomy p q with hlt | heq | hlt
        · have h := lt_of_limb (okL_lm x) HP.out HQ.out HK.out hlt
          rw [lv_lm, lv_lm] at h
          have HC := hide (cmpN_lt h)
          clear h
          have d1 : ((p : Int) == (q : Int)) = false := by simp; omega
          have d2 : decide ((p : Int) < (q : Int)) = true := decide_eq_true (by omega)
          go_wp2
          go_quiet (fail)
          go_wp2
          go_quiet (fail)
          go_wp2
          go_ret
          exact ⟨by rw [HC.out]; rfl, (HD.out.drewN _).drewN _⟩
        · subst heq
          go_wp2
          go_quiet (fail)
          go_wp2
          go_roundw
          case rel => exact ⟨j, by omega, by go_num, hide (by rw [drop_cons HP.out, drop_cons HQ.out, HK.out]), hide (HD.out.drewN _)⟩
          case measure => simp [intOf] <;> omega
        · have h := lt_of_limb (okL_lm y) HQ.out HP.out HK.out.symm hlt
          rw [lv_lm, lv_lm] at h
          have HC := hide (cmpN_gt h)
          clear h
          have d1 : ((p : Int) == (q : Int)) = false := by simp; omega
          have d2 : decide ((p : Int) < (q : Int)) = false := decide_eq_false (by omega)
          go_wp2
          go_quiet (fail)
          go_wp2
          go_quiet (fail)
          go_wp2
          go_ret
          exact ⟨by rw [HC.out]; rfl, (HD.out.drewN _).drewN _⟩
  · by_cases hlt : n < n'
    · have h : x < y := lt_of_length (by rw [HU.out.len, HV.out.len]; exact hlt)
      go_enter Try.func93, Try.ntmps93
      go_wp2
      go_ret
      exact ⟨by rw [cmpN_lt h]; rfl, Dr.refl w⟩
    · have h : y < x := lt_of_length (by rw [HU.out.len, HV.out.len]; omega)
      go_enter Try.func93, Try.ntmps93
      go_wp2
      go_ret
      exact ⟨by rw [cmpN_gt h]; rfl, Dr.refl w⟩
set_option maxRecDepth 100000 in
set_option maxHeartbeats 4000000 in
theorem r1cmp_any (w : World) (av av' : Option Nat) (A : Option Addr) (n c : Nat) (B : Option Addr) (m d : Nat) (l k : List Nat) (hU : Ul w av A n l) (hV : Ul w av' B m k) (hn : n ≤ 4294967296) (hm : m ≤ 4294967296) :
    Calls Try.prog 68 #[.slice A n c, .slice B m d] w fun e w' => e = .returned (.int .i64 (if natB l && natB k then cmpN (lv l) (lv k) else 0)) ∧ Below w.heap.size w w' := by
  have HU := hide hU
  have HV := hide hV
  clear hU hV
  cases h1 : natB l
  · have H1 := hide h1
    clear h1
    go_enter Try.func68, Try.ntmps68
    go_wp2_with (go_at_call 78; (with_reducible refine (r1check_any _ av A n c l HU.out (by omega)).mono ?_); rintro e w' ⟨rfl, rfl⟩; rw [H1.out])
    go_ret
    exact ⟨rfl, Below.refl _ _⟩
  · cases h2 : natB k
    · have H1 := hide h1
      have H2 := hide h2
      clear h1 h2
      go_enter Try.func68, Try.ntmps68
      go_wp2_with (first
        | (go_at_call 78; (with_reducible refine (r1check_any _ av A n c l HU.out (by omega)).mono ?_); rintro e w' ⟨rfl, rfl⟩; rw [H1.out])
        | (go_at_call 78; (with_reducible refine (r1check_any _ av' B m d k HV.out (by omega)).mono ?_); rintro e w' ⟨rfl, rfl⟩; rw [H2.out]))
      go_ret
      exact ⟨rfl, Below.refl _ _⟩
    · have H1 := hide h1
      have H2 := hide h2
      have e1 := hide (natB_iff.1 h1).2
      have e2 := hide (natB_iff.1 h2).2
      clear h1 h2
      have HU2 := hide (show Ul w av A n (lm (lv l)) by rw [← e1.out]; exact HU.out)
      have HV2 := hide (show Ul w av' B m (lm (lv k)) by rw [← e2.out]; exact HV.out)
      go_enter Try.func68, Try.ntmps68
      go_wp2_with (first
        | (go_at_call 78; (with_reducible refine (r1check_any _ av A n c l HU.out (by omega)).mono ?_); rintro e w' ⟨rfl, rfl⟩; rw [H1.out])
        | (go_at_call 78; (with_reducible refine (r1check_any _ av' B m d k HV.out (by omega)).mono ?_); rintro e w' ⟨rfl, rfl⟩; rw [H2.out])
        | (go_at_call 93; (with_reducible refine (r1order_any _ av av' A n c B m d (lv l) (lv k) HU2.out HV2.out hn hm).mono ?_); rintro e w' ⟨rfl, hd⟩; have HD := hide hd; clear hd))
      go_ret
      exact ⟨rfl, HD.out.below⟩
end Go.Proofs.Ytclflfglhbkfkaa

/- Contracts: the reference's Plus, Minus. -/
namespace Go.Proofs.Ytclflfglhbkfkaa
open Go.RowKit

theorem fr_bel {a b : World} (h : Fr a b (fun _ => False)) : Below a.heap.size a b := h.below (Nat.le_refl _) (fun _ _ h => h)
set_option maxRecDepth 100000 in
set_option maxHeartbeats 4000000 in
theorem r1plus_any (w : World) (av av' : Option Nat) (A : Option Addr) (n c : Nat) (B : Option Addr) (m d : Nat) (x y : Nat) (hU : Ul w av A n (lm x)) (hV : Ul w av' B m (lm y)) (hn : n ≤ 1000000) (hm : m ≤ 1000000) :
    Calls Try.prog 117 #[.slice A n c, .slice B m d] w fun e w' => ∃ A' m' c', e = .returned (.slice A' m' c') ∧ m' ≤ c' ∧ Ul w' none A' m' (lm (x + y)) ∧ Below w.heap.size w w' := by
  have HU := hide hU
  have HV := hide hV
  clear hU hV
  go_enter Try.func117, Try.ntmps117
  go_wp2_with fail
  go_loopw [5, 6, 7] (fun out carry i wr => ∃ (k cc : Nat) (A' : Option Addr) (c' : Nat) (o : List Nat), cc ≤ 1 ∧ (k ≤ n ∨ k ≤ m ∨ cc = 0 ∧ k ≤ n + m + 1) ∧ out = .slice A' k c' ∧ carry = .int .u64 (cc : Int) ∧ i = .int .i64 k ∧ Hid (OF w wr A' k c' o) ∧ Hid (lv o + 4294967296 ^ k * cc = lv ((lm x).take k) + lv ((lm y).take k))) (fun _ _ i _ => n + m + 2 - (intOf i).toNat)
  case atStart => exact ⟨0, 0, none, 0, [], by omega, by omega, rfl, rfl, rfl, hide (OF.nil (Fr.refl _ _)), hide (by simp [lv])⟩
  case round =>
    obtain ⟨k, cc, A', c', o, hc1, hk, rfl, rfl, rfl, HO, HI⟩ := hrel
    have g1 : (0 : Int) ≤ (k : Int) := by omega
    by_cases hkn : k < n
    · obtain ⟨b1, o1, p, rfl, -, -, hp, hpl, hcell⟩ := (HU.out.frF HO.out.fr).at hkn
      have HP := hide (getD_some hp)
      clear hp
      have g2 : (k : Int) < (n : Int) := by omega
      by_cases hkm : k < m
      · obtain ⟨b2, o2, q, rfl, -, -, hq, hql, hcell2⟩ := (HV.out.frF HO.out.fr).at hkm
        have HQ := hide (getD_some hq)
        clear hq
        have g3 : (k : Int) < (m : Int) := by omega
        go_wp2_with (at_builtin; refine wl_app_u32 (w0 := w) rfl _ _ _ Try.underlying24 rfl A' k c' o ((cc + p + q) % 4294967296) _ (by omega) (by omega) rfl rfl HO.out (by omega) ?_; intro A2 c2 w2 ho2; have HO2 := hide ho2; clear ho2)
        go_roundw
        case rel => exact ⟨k + 1, (cc + p + q) / 4294967296, A2, c2, _, by omega, by omega, rfl, vint (by omega), by go_num, HO2, hide (add_step (s := cc + p + q) HO.out.len HI.out (by rw [HP.out, HQ.out]; omega))⟩
        case measure => simp [intOf] <;> omega
      · have g4 : decide ((k : Int) < (m : Int)) = false := decide_eq_false (by omega)
        have HQ := hide (getD_none (l := lm y) (k := k) (by have := HV.out.len; omega))
        go_wp2_with (at_builtin; refine wl_app_u32 (w0 := w) rfl _ _ _ Try.underlying24 rfl A' k c' o ((cc + p) % 4294967296) _ (by omega) (by omega) rfl rfl HO.out (by omega) ?_; intro A2 c2 w2 ho2; have HO2 := hide ho2; clear ho2)
        go_roundw
        case rel => exact ⟨k + 1, (cc + p) / 4294967296, A2, c2, _, by omega, by omega, rfl, vint (by omega), by go_num, HO2, hide (add_step (s := cc + p) HO.out.len HI.out (by rw [HP.out, HQ.out]; omega))⟩
        case measure => simp [intOf] <;> omega
    · have g2 : decide ((k : Int) < (n : Int)) = false := decide_eq_false (by omega)
      have HP := hide (getD_none (l := lm x) (k := k) (by have := HU.out.len; omega))
      by_cases hkm : k < m
      · obtain ⟨b2, o2, q, rfl, -, -, hq, hql, hcell2⟩ := (HV.out.frF HO.out.fr).at hkm
        have HQ := hide (getD_some hq)
        clear hq
        have g3 : (k : Int) < (m : Int) := by omega
        go_wp2_with (at_builtin; refine wl_app_u32 (w0 := w) rfl _ _ _ Try.underlying24 rfl A' k c' o ((cc + q) % 4294967296) _ (by omega) (by omega) rfl rfl HO.out (by omega) ?_; intro A2 c2 w2 ho2; have HO2 := hide ho2; clear ho2)
        go_roundw
        case rel => exact ⟨k + 1, (cc + q) / 4294967296, A2, c2, _, by omega, by omega, rfl, vint (by omega), by go_num, HO2, hide (add_step (s := cc + q) HO.out.len HI.out (by rw [HP.out, HQ.out]; omega))⟩
        case measure => simp [intOf] <;> omega
      · have g4 : decide ((k : Int) < (m : Int)) = false := decide_eq_false (by omega)
        have HQ := hide (getD_none (l := lm y) (k := k) (by have := HV.out.len; omega))
        by_cases hcc : cc = 0
        · subst hcc
          have HE := hide (show lv o = x + y by
            have h := HI.out
            rw [List.take_of_length_le (by have := HU.out.len; omega), List.take_of_length_le (by have := HV.out.len; omega), lv_lm, lv_lm] at h
            omega)
          go_wp2_with (go_at_call 80; refine (r1trim_any _ none _ _ _ _ HO.out.ul HO.out.cap (by omega)).mono ?_; rintro e w3 ⟨A3, m3, c3, rfl, hm3, ho3⟩; rw [HE.out] at ho3; have HO3 := hide ho3; clear ho3)
          go_ret
          exact ⟨A3, m3, c3, rfl, HO3.out.cap, HO3.out.ul, fr_bel (HO.out.fr.trans HO3.out.fr)⟩
        · have g5 : (0 : Int) < (cc : Int) := by omega
          go_wp2_with (at_builtin; refine wl_app_u32 (w0 := w) rfl _ _ _ Try.underlying24 rfl A' k c' o ((cc) % 4294967296) _ (by omega) (by omega) rfl rfl HO.out (by omega) ?_; intro A2 c2 w2 ho2; have HO2 := hide ho2; clear ho2)
          go_roundw
          case rel => exact ⟨k + 1, cc / 4294967296, A2, c2, _, by omega, by omega, rfl, vint (by omega), by go_num, HO2, hide (add_step (s := cc) HO.out.len HI.out (by rw [HP.out, HQ.out]; omega))⟩
          case measure => simp [intOf] <;> omega
/-- A round of the reference's subtraction: the limb p, the borrow and the limb q. -/
theorem minus_dig {p q b : Nat} (hp : p < 4294967296) (hq : q < 4294967296) (hb : b ≤ 1) (b' : Nat) (hb' : b' = if p < b + q then 1 else 0) :
    p + 4294967296 * b' - (b + q) < 4294967296 ∧ b + q ≤ p + 4294967296 * b' ∧ b' ≤ 1 := by
  subst hb'
  split <;> omega
set_option maxRecDepth 100000 in
set_option maxHeartbeats 4000000 in
theorem r1minus_any (w : World) (av av' : Option Nat) (A : Option Addr) (n c : Nat) (B : Option Addr) (m d : Nat) (x y : Nat) (hU : Ul w av A n (lm x)) (hV : Ul w av' B m (lm y)) (hn : n ≤ 1000000) (hm : m ≤ 1000000) (hyx : y ≤ x) :
    Calls Try.prog 99 #[.slice A n c, .slice B m d] w fun e w' => ∃ A' m' c', e = .returned (.slice A' m' c') ∧ m' ≤ c' ∧ Ul w' none A' m' (lm (x - y)) ∧ Below w.heap.size w w' := by
  have HU := hide hU
  have HV := hide hV
  have hmn : m ≤ n := by
    have := lm_length_mono hyx
    rw [hU.len, hV.len] at this
    exact this
  clear hU hV
  go_enter Try.func99, Try.ntmps99
  go_wp2_with fail
  go_loopw [5, 6, 7] (fun out borrow i wr => ∃ (k b : Nat) (A' : Option Addr) (c' : Nat) (o : List Nat), k ≤ n ∧ b ≤ 1 ∧ out = .slice A' k c' ∧ borrow = .int .u64 (b : Int) ∧ i = .int .i64 k ∧ Hid (OF w wr A' k c' o) ∧ Hid (lv o + lv ((lm y).take k) = lv ((lm x).take k) + 4294967296 ^ k * b)) (fun _ _ i _ => n - (intOf i).toNat)
  case atStart => exact ⟨0, 0, none, 0, [], by omega, by omega, rfl, rfl, rfl, hide (OF.nil (Fr.refl _ _)), hide (by simp [lv])⟩
  case round =>
    obtain ⟨k, b, A', c', o, hk, hb1, rfl, rfl, rfl, HO, HI⟩ := hrel
    have g1 : (0 : Int) ≤ (k : Int) := by omega
    by_cases hkn : k < n
    · obtain ⟨b1, o1, p, rfl, -, -, hp, hpl, hcell⟩ := (HU.out.frF HO.out.fr).at hkn
      have HP := hide (getD_some hp)
      clear hp
      have g2 : (k : Int) < (n : Int) := by omega
      by_cases hkm : k < m
      · obtain ⟨b2, o2, q, rfl, -, -, hq, hql, hcell2⟩ := (HV.out.frF HO.out.fr).at hkm
        have HQ := hide (getD_some hq)
        clear hq
        have g3 : (k : Int) < (m : Int) := by omega
        by_cases hlt : p < b + q
        · have g5 : (p : Int) < (b : Int) + (q : Int) := by omega
          go_wp2_with (at_builtin; refine wl_app_u32 (w0 := w) rfl _ _ _ Try.underlying24 rfl A' k c' o (p + 4294967296 - (b + q)) _ (by omega) (by omega) rfl rfl HO.out (by omega) ?_; intro A2 c2 w2 ho2; have HO2 := hide ho2; clear ho2)
          go_roundw
          case rel => exact ⟨k + 1, 1, A2, c2, _, by omega, by omega, rfl, vint (by omega), by go_num, HO2, hide (sub_step HO.out.len HI.out (by rw [HP.out, HQ.out]; omega))⟩
          case measure => simp [intOf] <;> omega
        · have g5 : ¬ (p : Int) < (b : Int) + (q : Int) := by omega
          go_wp2_with (at_builtin; refine wl_app_u32 (w0 := w) rfl _ _ _ Try.underlying24 rfl A' k c' o (p - (b + q)) _ (by omega) (by omega) rfl rfl HO.out (by omega) ?_; intro A2 c2 w2 ho2; have HO2 := hide ho2; clear ho2)
          go_roundw
          case rel => exact ⟨k + 1, 0, A2, c2, _, by omega, by omega, rfl, vint (by omega), by go_num, HO2, hide (sub_step HO.out.len HI.out (by rw [HP.out, HQ.out]; omega))⟩
          case measure => simp [intOf] <;> omega
      · have g4 : decide ((k : Int) < (m : Int)) = false := decide_eq_false (by omega)
        have HQ := hide (getD_none (l := lm y) (k := k) (by have := HV.out.len; omega))
        by_cases hlt : p < b
        · have g5 : (p : Int) < (b : Int) := by omega
          go_wp2_with (at_builtin; refine wl_app_u32 (w0 := w) rfl _ _ _ Try.underlying24 rfl A' k c' o (p + 4294967296 - b) _ (by omega) (by omega) rfl rfl HO.out (by omega) ?_; intro A2 c2 w2 ho2; have HO2 := hide ho2; clear ho2)
          go_roundw
          case rel => exact ⟨k + 1, 1, A2, c2, _, by omega, by omega, rfl, vint (by omega), by go_num, HO2, hide (sub_step HO.out.len HI.out (by rw [HP.out, HQ.out]; omega))⟩
          case measure => simp [intOf] <;> omega
        · have g5 : ¬ (p : Int) < (b : Int) := by omega
          go_wp2_with (at_builtin; refine wl_app_u32 (w0 := w) rfl _ _ _ Try.underlying24 rfl A' k c' o (p - b) _ (by omega) (by omega) rfl rfl HO.out (by omega) ?_; intro A2 c2 w2 ho2; have HO2 := hide ho2; clear ho2)
          go_roundw
          case rel => exact ⟨k + 1, 0, A2, c2, _, by omega, by omega, rfl, vint (by omega), by go_num, HO2, hide (sub_step HO.out.len HI.out (by rw [HP.out, HQ.out]; omega))⟩
          case measure => simp [intOf] <;> omega
    · obtain rfl : k = n := by omega
      have HE := hide (show lv o = x - y by
        have h := HI.out
        rw [List.take_of_length_le (by have := HU.out.len; have := HV.out.len; omega), List.take_of_length_le (by have := HU.out.len; have := HV.out.len; omega)] at h
        have := sub_end (n := k) HO.out.ok HO.out.len h (by rw [lv_lm, lv_lm]; exact hyx)
        rwa [lv_lm, lv_lm] at this)
      go_wp2_with (go_at_call 80; refine (r1trim_any _ none _ _ _ _ HO.out.ul HO.out.cap (by omega)).mono ?_; rintro e w3 ⟨A3, m3, c3, rfl, hm3, ho3⟩; rw [HE.out] at ho3; have HO3 := hide ho3; clear ho3)
      go_ret
      exact ⟨A3, m3, c3, rfl, HO3.out.cap, HO3.out.ul, fr_bel (HO.out.fr.trans HO3.out.fr)⟩
end Go.Proofs.Ytclflfglhbkfkaa

/- Contracts: the reference's Times. -/
namespace Go.Proofs.Ytclflfglhbkfkaa
open Go.RowKit

set_option maxRecDepth 100000 in
set_option maxHeartbeats 8000000 in
theorem r1times_any (w : World) (av av' : Option Nat) (A : Option Addr) (n c : Nat) (B : Option Addr) (m d : Nat) (x y : Nat) (hU : Ul w av A n (lm x)) (hV : Ul w av' B m (lm y)) (hn : n ≤ 1000000) (hm : m ≤ 1000000) :
    Calls Try.prog 84 #[.slice A n c, .slice B m d] w fun e w' => ∃ A' m' c', e = .returned (.slice A' m' c') ∧ m' ≤ c' ∧ Ul w' none A' m' (lm (x * y)) ∧ Below w.heap.size w w' := by
  have HU := hide hU
  have HV := hide hV
  clear hU hV
  go_enter Try.func84, Try.ntmps84
  go_wp2_with (at_make; refine wl_make_u32 (w0 := w) rfl _ _ _ Try.underlying24 rfl (n + m) (n + m) _ _ rfl rfl (by omega) (by omega) (by omega) (by omega) (Fr.refl _ _) ?_; intro w1 ho1 hs1 hb1; have HO1 := hide ho1; clear ho1 hb1 hs1)
  go_loopw [6] (fun i wr => ∃ (k : Nat) (o : List Nat), k ≤ n ∧ i = .int .i64 k ∧ Hid (OF w wr (some ⟨w.heap.size, 0, none⟩) (n + m) (n + m) o) ∧ Hid (lv o = lv ((lm x).take k) * lv (lm y)) ∧ Hid (∀ j, k + m ≤ j → o[j]?.getD 0 = 0)) (fun i _ => n - (intOf i).toNat)
  case atStart => exact ⟨0, _, by omega, rfl, HO1, hide (by rw [lv_replicate]; simp [lv]), hide (fun j _ => by rw [List.getElem?_replicate]; split <;> rfl)⟩
  case round =>
    obtain ⟨i, o, hi, rfl, HO, HI, HJ⟩ := hrel
    by_cases hin : i < n
    · obtain ⟨b1, o1, p, rfl, -, -, hp, hpl, hcell⟩ := (HU.out.frF HO.out.fr).at hin
      have HP := hide (getD_some hp)
      have HPc := hide hp
      clear hp hcell
      have g1 : (0 : Int) ≤ (i : Int) := by omega
      have g2 : (i : Int) < (n : Int) := by omega
      go_wp2_with fail
      go_loopw [7, 8] (fun carry ix wr => ∃ (k c : Nat) (o' : List Nat), (k ≤ m ∨ c = 0 ∧ k = m + 1) ∧ c < 4294967296 ∧ carry = .int .u64 (c : Int) ∧ ix = .int .i64 k ∧ Hid (OF w wr (some ⟨w.heap.size, 0, none⟩) (n + m) (n + m) o') ∧ Hid (lv o' + 4294967296 ^ (i + k) * c = lv o + 4294967296 ^ i * (p * lv ((lm y).take k))) ∧ Hid (∀ j, i + k ≤ j → o'[j]? = o[j]?)) (fun _ ix _ => m + 2 - (intOf ix).toNat)
      case atStart => exact ⟨0, 0, o, by omega, by omega, rfl, rfl, HO, hide (by simp [lv]), hide (fun _ _ => rfl)⟩
      case round =>
        obtain ⟨k, c, o', hk, hc, rfl, rfl, HO2, HI2, HJ2⟩ := hrel
        obtain ⟨b9, o9, p9, hA9, -, -, hp9, hpl9, hcell⟩ := (HU.out.frF HO2.out.fr).at hin
        injection hA9 with hA9
        injection hA9 with h91 h92
        subst h91
        subst h92
        rw [HPc.out] at hp9
        injection hp9 with hp9
        subst hp9
        have g5 : (0 : Int) ≤ (k : Int) := by omega
        by_cases hkm : k < m
        · obtain ⟨b2, o2, q, rfl, -, -, hq, hql, hcell2⟩ := (HV.out.frF HO2.out.fr).at hkm
          obtain ⟨g', z, hg, -, hgl, hz, hzl, hcellz, hfz⟩ := HO2.out.at (k := i + k) (by omega)
          obtain rfl : w.heap.size = g' := by simpa using hg
          have HQ := hide (getD_some hq)
          have HZ2 := hide (getD_some hz)
          clear hq hz hg
          have g6 : (k : Int) < (m : Int) := by omega
          have g3 : (0 : Int) ≤ (i : Int) + (k : Int) := by omega
          have g4 : (i : Int) + (k : Int) < (n : Int) + (m : Int) := by omega
          obtain ⟨hxy, hxy0⟩ := mul_le hpl hql
          have hfz0 := hfz (i + k)
          clear hfz
          have hml := mul_lt hpl hql hzl hc
          go_upto_region 11 with (fail)
          go_region_held3 (fun W => W.cell? ⟨b1, o1 + i, none⟩ = some (.int .u32 (p : Int)) ∧ W.cell? ⟨b2, o2 + k, none⟩ = some (.int .u32 (q : Int))) (first | (go_keep; done) | ((try dsimp only); (repeat' apply And.intro) <;> first | (go_keep; done) | ((repeat rw [World.cell?_setCell_other _ _ _ _ (by intro h; injection h; omega)]); go_keep; done))) (fail)
          go_wp2_with fail
          have hp := (HO2.out.put (k := i + k) (x := (p * q + z + c) % 4294967296) (by omega) (by omega)).drew
          have e : (((p * q + z + c) % 4294967296 : Nat) : Int) = ((c : Int) + (z : Int) + (p : Int) * (q : Int)) % 4294967296 := by
            rw [Int.natCast_emod, Int.natCast_add, Int.natCast_add, Int.natCast_mul]
            congr 1
            omega
          have e2 : (((p * q + z + c) / 4294967296 : Nat) : Int) = ((c : Int) + (z : Int) + (p : Int) * (q : Int)) / 4294967296 := by
            rw [Int.natCast_ediv, Int.natCast_add, Int.natCast_add, Int.natCast_mul]
            congr 1
            omega
          rw [e] at hp
          refine ⟨⟨k + 1, (p * q + z + c) / 4294967296, _, by omega, ?_, vint e2.symm, by go_num, hide hp, hide ?_, hide ?_⟩, by simp [intOf] <;> omega⟩
          · omega
          · exact mul_step (by have := HO2.out.len; omega) HI2.out (by rw [HQ.out, HZ2.out])
          · intro j hj
            rw [List.getElem?_set_ne (by omega)]
            exact HJ2.out j (by omega)
        · by_cases hc0 : c = 0
          · subst hc0
            have g6 : decide ((k : Int) < (m : Int)) = false := decide_eq_false (by omega)
            have HV2 := hide (show lv ((lm y).take k) = lv (lm y) by rw [List.take_of_length_le (by have := HV.out.len; omega)])
            go_wp2_with fail
            go_roundw
            case rel =>
              refine ⟨i + 1, o', by omega, by go_num, HO2, hide ?_, hide ?_⟩
              · have h := HI2.out
                rw [Nat.mul_zero, Nat.add_zero, HV2.out] at h
                rw [h, HI.out, ← HP.out, mul_row]
              · intro j hj
                rw [HJ2.out j (by omega)]
                exact HJ.out j (by omega)
            case measure => simp [intOf] <;> omega
          · obtain rfl : k = m := by omega
            obtain ⟨g', z, hg, -, hgl, hz, hzl, hcellz, hfz⟩ := HO2.out.at (k := i + k) (by omega)
            obtain rfl : w.heap.size = g' := by simpa using hg
            have hz0 : z = 0 := by
              have := HJ.out (i + k) (Nat.le_refl _)
              rw [← HJ2.out _ (Nat.le_refl _), hz] at this
              exact this
            subst hz0
            have HZ2 := hide (getD_some hz)
            clear hz hg
            have hcp : (0 : Int) < (c : Int) := by omega
            have g3 : (0 : Int) ≤ (i : Int) + (k : Int) := by omega
            have g4 : (i : Int) + (k : Int) < (n : Int) + (k : Int) := by omega
            have hfz0 := hfz (i + k)
            clear hfz
            go_wp2_with fail
            have hp := HO2.out.put (k := i + k) (x := c) (by omega) hc
            have hs := mul_step (o := o') (b := lm y) (x := p) (s := c) (by have := HO2.out.len; omega) HI2.out (by rw [HZ2.out, getD_none (l := lm y) (k := k) (by have := HV.out.len; omega)]; first | done | omega)
            rw [Nat.mod_eq_of_lt hc, Nat.div_eq_of_lt hc] at hs
            refine ⟨⟨k + 1, 0, _, .inr ⟨rfl, rfl⟩, by omega, vint (by omega), by go_num, hide hp, hide hs, hide ?_⟩, by simp [intOf] <;> omega⟩
            intro j hj
            rw [List.getElem?_set_ne (by omega)]
            exact HJ2.out j (by omega)
    · obtain rfl : i = n := by omega
      have HE := hide (show lv o = x * y by rw [HI.out, List.take_of_length_le (by have := HU.out.len; omega), lv_lm, lv_lm])
      go_wp2_with (go_at_call 80; refine (r1trim_any _ none _ _ _ _ HO.out.ul (by omega) (by omega)).mono ?_; rintro e w3 ⟨A3, m3, c3, rfl, hm3, ho3⟩; rw [HE.out] at ho3; have HO3 := hide ho3; clear ho3)
      go_ret
      exact ⟨A3, m3, c3, rfl, HO3.out.cap, HO3.out.ul, fr_bel (HO.out.fr.trans HO3.out.fr)⟩
end Go.Proofs.Ytclflfglhbkfkaa

/- Contracts: the reference's small, cut. -/
namespace Go.Proofs.Ytclflfglhbkfkaa
open Go.RowKit

set_option maxRecDepth 100000 in
set_option maxHeartbeats 4000000 in
theorem r1small_any (w : World) (av : Option Nat) (A : Option Addr) (n c : Nat) (x d : Nat) (hU : Ul w av A n (lm x)) (hn : n ≤ 1000000) (hd : d < 4294967296) (hd1 : 1 ≤ d) :
    Calls Try.prog 114 #[.slice A n c, .int .u64 (d : Int)] w fun e w' => ∃ A' m' c' r, e = .returned (.tuple #[.slice A' m' c', .int .u64 ((r : Nat) : Int)]) ∧ m' ≤ c' ∧ r < d ∧ Hid (r = x % d) ∧ Ul w' none A' m' (lm (x / d)) ∧ Below w.heap.size w w' := by
  have HU := hide hU
  clear hU
  go_enter Try.func114, Try.ntmps114
  go_wp2_with (at_make; refine wl_make_u32 (w0 := w) rfl _ _ _ Try.underlying24 rfl n n _ _ rfl rfl rfl rfl (by omega) (by omega) (Fr.refl _ _) ?_; intro w1 ho1 hs1 hb1; have HO1 := hide ho1; clear ho1 hb1)
  go_loopw [7, 8] (fun rest i wr => ∃ (k r : Nat) (o : List Nat), k ≤ n ∧ r < d ∧ rest = .int .u64 (r : Int) ∧ i = .int .i64 ((k : Int) - 1) ∧ Hid (OF w wr (some ⟨w.heap.size, 0, none⟩) n n o) ∧ Hid (lv ((lm x).drop k) = lv (o.drop k) * d + r)) (fun _ i _ => (intOf i + 1).toNat)
  case atStart => exact ⟨n, 0, _, by omega, by omega, rfl, rfl, HO1, hide (by rw [List.drop_eq_nil_of_le (by have := HU.out.len; omega), List.drop_eq_nil_of_le (by simp)]; simp [lv])⟩
  case round =>
    obtain ⟨k, r, o, hk, hr, rfl, rfl, HO, HI⟩ := hrel
    by_cases hk0 : k = 0
    · subst hk0
      have h0 : lv (lm x) = lv o * d + r := HI.out
      rw [lv_lm] at h0
      have hq : lv o = x / d := by rw [h0, Nat.mul_comm, Nat.mul_add_div (by omega), Nat.div_eq_of_lt hr, Nat.add_zero]
      have hm : r = x % d := by rw [h0, Nat.mul_comm, Nat.mul_add_mod, Nat.mod_eq_of_lt hr]
      have HQ := hide hq
      have HM := hide hm
      clear h0 hq hm
      have g5 : (r : Int) % 4294967296 = (r : Int) := by omega
      go_wp2_with (go_at_call 80; refine (r1trim_any _ none _ _ _ _ HO.out.ul (by omega) (by omega)).mono ?_; rintro e w3 ⟨A3, m3, c3, rfl, hm3, ho3⟩; rw [HQ.out] at ho3; have HO3 := hide ho3; clear ho3)
      go_ret2
      exact ⟨A3, m3, c3, r, rfl, HO3.out.cap, hr, HM, HO3.out.ul, fr_bel (HO.out.fr.trans HO3.out.fr)⟩
    · obtain ⟨j, rfl⟩ : ∃ j, k = j + 1 := ⟨k - 1, by omega⟩
      obtain ⟨b, oo, p, rfl, -, -, hp, hpl, hcell⟩ := (HU.out.frF HO.out.fr).at (k := j) (by omega)
      obtain ⟨g', z, hg, -, hgl, hz, hzl, hcellz, hfz⟩ := HO.out.at (k := j) (by omega)
      obtain rfl : w.heap.size = g' := by simpa using hg
      have HP := hide hp
      clear hp hz hg
      have g1 : (0 : Int) ≤ (j : Int) := by omega
      have g2 : (j : Int) < (n : Int) := by omega
      have hor := or_32 r p (by omega) hpl
      have g3 : (1 : Int) ≤ (d : Int) := by omega
      have hfz0 := hfz j
      clear hfz
      have hs := small_lt hr hpl (s := r * 4294967296 + p) rfl
      have hs2 : ((r : Int) * 4294967296 + (p : Int)) / (d : Int) < 4294967296 := by
        have : (((r * 4294967296 + p) / d : Nat) : Int) < 4294967296 := by omega
        rw [Int.natCast_ediv] at this
        simpa using this
      have hs3 : 0 ≤ ((r : Int) * 4294967296 + (p : Int)) / (d : Int) := Int.ediv_nonneg (by omega) (by omega)
      have hr2 : r * 4294967296 + p < 18446744073709551616 := by omega
      have HS := hide hs
      go_wp2
      go_roundw
      case rel =>
        have hp := HO.out.put (k := j) (x := (r * 4294967296 + p) / d) (by omega) hs
        have e : (((r * 4294967296 + p) / d : Nat) : Int) = ((r : Int) * 4294967296 + (p : Int)) / (d : Int) := by rw [Int.natCast_ediv]; simp
        rw [e] at hp
        refine ⟨j, (r * 4294967296 + p) % d, _, by omega, Nat.mod_lt _ (by omega), vint (by rw [Int.natCast_emod]; simp), by go_num, hide hp, hide ?_⟩
        exact small_step (by have := HU.out.len; have := HO.out.len; omega) (by have := HU.out.len; omega) HP.out HI.out rfl
      case measure => simp [intOf] <;> omega

set_option maxRecDepth 100000 in
set_option maxHeartbeats 4000000 in
theorem r1cut_any (w : World) (av : Option Nat) (A : Option Addr) (n c : Nat) (l : List Nat) (hU : Ul w av A n l) (hc : n ≤ c) (hc63 : n ≤ 4294967296) :
    Calls Try.prog 120 #[.slice A n c] w fun e w' => ∃ m, e = .returned (.slice A m c) ∧ m ≤ n ∧ l.take m = lm (lv l) ∧ w' = w := by
  have HU := hide hU
  have HE := hide (show lv (l.take n) = lv l by rw [List.take_of_length_le (by have := hU.len; omega)])
  clear hU
  go_enter Try.func120, Try.ntmps120
  go_wp2
  go_loop [3] (fun v => ∃ k : Nat, k ≤ n ∧ v = .int .i64 (k : Int) ∧ Hid (lv (l.take k) = lv l)) (fun v => (intOf v).toNat)
  case atStart => exact ⟨n, Nat.le_refl _, rfl, HE⟩
  case round =>
    obtain ⟨k, hk, rfl, HK⟩ := hrel
    by_cases hk0 : k = 0
    · subst hk0
      have e : lm (lv l) = [] := by rw [← HK.out]; simp [lv, lm_zero]
      have HEE := hide e
      clear e
      go_wp2
      go_ret
      exact ⟨0, rfl, by omega, by rw [HEE.out]; rfl, rfl⟩
    · obtain ⟨j, rfl⟩ : ∃ j, k = j + 1 := ⟨k - 1, by omega⟩
      obtain ⟨b, o, x, rfl, -, -, hx, hxl, hcell⟩ := HU.out.at (k := j) (by omega)
      have HX := hide hx
      clear hx
      have g1 : (0 : Int) ≤ (j : Int) := by omega
      have g2 : decide ((0 : Int) < (j : Int) + 1) = true := decide_eq_true (by omega)
      have g3 : (j : Int) < (n : Int) := by omega
      by_cases hx0 : x = 0
      · subst hx0
        go_wp2
        go_round
        case rel => exact ⟨j, by omega, by go_num, hide ((lv_take_zero HX.out).symm.trans HK.out)⟩
        case measure => simp [intOf] <;> omega
      · have hxd : ((x : Int) == 0) = false := by simp; omega
        have HEE := hide (take_eq_lm HU.out.ok (by have := HU.out.len; omega) HK.out (.inr ⟨x, HX.out, hx0⟩))
        go_wp2
        go_ret
        exact ⟨j + 1, rfl, by omega, HEE.out, rfl⟩
end Go.Proofs.Ytclflfglhbkfkaa
