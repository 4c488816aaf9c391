/- Contracts of the functions that these laws reach: part 13: Contracts: noise.Choose; Contracts: the reference's Choose. -/
import Derived.Test.YtclflfglhbkfkaaG12
set_option linter.unusedVariables false
set_option linter.unusedSimpArgs false

/- Contracts: noise.Choose. -/
namespace Go.Proofs.Ytclflfglhbkfkaa
open Go.RowKit

def chooseL (n k : Int) : List Nat := if n < 0 ∨ 32 < n then [] else if k < 0 ∨ n < k then [] else lm (ch n.toNat k.toNat)
def chooseE (n : Int) : Int := if n < 0 ∨ 32 < n then 3 else 0
theorem nof_zero (w : World) : Calls Try.prog 61 #[.int .u64 0] w fun e w' => ∃ A m c, e = .returned (.slice A m c) ∧ m ≤ c ∧ m ≤ 2 ∧ Ul w' none A m (lm 0) ∧ Below w.heap.size w w' := nof_any w 0 (by omega)
theorem index_row {N K : Nat} (hK : K < 33) (W : World) : (Instr.index 81 (.agg (rowCells N).toArray) (.int .i64 (K : Int))).run Try.prog W = .ok (.int .u64 (ch N K : Int)) W := by
  have h1 : (underlying 81).run Try.prog W = .ok (.array 33 63) W := run_underlying Try.underlying81 W
  have h2 : (isAgg 63).run Try.prog W = .ok false W := by
    unfold isAgg
    rw [Sem.run_bind, run_underlying Try.underlying63]
    rfl
  have h3 : (sizeOf 63).run Try.prog W = .ok 1 W := by
    unfold sizeOf typeInfo
    have hi : (Try.prog.info? 63).map (·.size) = some 1 := by kernel_rfl
    cases h : Try.prog.info? 63 with
    | none => rw [h] at hi; simp at hi
    | some i =>
      rw [h] at hi
      simp at hi
      simp [go_sem, h, hi]
  have hget : (rowCells N)[K]? = some (.int .u64 (ch N K : Int)) := rowCells_get hK
  have hK2 : (K : Int) < 33 := by omega
  simp [Instr.index, asIntOf, part, Sem.run_bind, Sem.run_pure, Result.andThen_ok, h1, h2, h3, hget, hK2]
  intro h
  omega
set_option maxRecDepth 100000 in
set_option maxHeartbeats 4000000 in
theorem choose_any (w : World) (n k : Int) :
    Calls Try.prog 25 #[.int .i64 n, .int .i64 k] w fun e w' => ∃ A m c, e = .returned (.tuple #[.slice A m c, .int .i64 (chooseE n)]) ∧ m ≤ c ∧ m ≤ 2 ∧ Ul w' none A m (chooseL n k) ∧ Below w.heap.size w w' := by
  by_cases h0 : n < 0
  · have e1 := hide (show chooseE n = 3 from if_pos (.inl h0))
    have e2 := hide (show chooseL n k = [] from if_pos (.inl h0))
    go_enter Try.func25, Try.ntmps25
    go_wp2_with fail
    go_ret2
    exact ⟨none, 0, 0, by rw [e1.out]; rfl, by omega, by omega, by rw [e2.out]; exact Ul.nil, Below.refl _ _⟩
  · by_cases h1 : 32 < n
    · have e1 := hide (show chooseE n = 3 from if_pos (.inr h1))
      have e2 := hide (show chooseL n k = [] from if_pos (.inr h1))
      have d0 : decide (n < 0) = false := decide_eq_false h0
      have d1 : decide (n > 32) = true := decide_eq_true h1
      clear h0 h1
      go_enter Try.func25, Try.ntmps25
      go_wp2_with fail
      go_ret2
      exact ⟨none, 0, 0, by rw [e1.out]; rfl, by omega, by omega, by rw [e2.out]; exact Ul.nil, Below.refl _ _⟩
    · have e1 := hide (show chooseE n = 0 from if_neg (by omega))
      have d0 : decide (n < 0) = false := decide_eq_false h0
      have d1 : decide (n > 32) = false := decide_eq_false h1
      by_cases hk : k < 0 ∨ n < k
      · have e2 := hide (show chooseL n k = lm 0 by unfold chooseL; rw [if_neg (by omega), if_pos hk, lm_zero])
        by_cases hk0 : k < 0
        · have d2 : decide (k < 0) = true := decide_eq_true hk0
          clear h0 h1 hk hk0
          go_enter Try.func25, Try.ntmps25
          go_wp2_with (go_at_call 61; (with_reducible refine (nof_zero _).mono ?_); rintro e w1 ⟨A, m, c, rfl, hmc, hm2, hu, hb⟩; have HU := hide hu; have HB := hide hb; clear hu hb)
          go_ret2
          exact ⟨A, m, c, by rw [e1.out]; rfl, hmc, hm2, by rw [e2.out]; exact HU.out, HB.out⟩
        · have d2 : decide (k < 0) = false := decide_eq_false hk0
          have d3 : decide (k > n) = true := decide_eq_true (by omega)
          clear h0 h1 hk hk0
          go_enter Try.func25, Try.ntmps25
          go_wp2_with (go_at_call 61; (with_reducible refine (nof_zero _).mono ?_); rintro e w1 ⟨A, m, c, rfl, hmc, hm2, hu, hb⟩; have HU := hide hu; have HB := hide hb; clear hu hb)
          go_ret2
          exact ⟨A, m, c, by rw [e1.out]; rfl, hmc, hm2, by rw [e2.out]; exact HU.out, HB.out⟩
      · obtain ⟨N, rfl⟩ : ∃ N : Nat, n = N := ⟨n.toNat, by omega⟩
        obtain ⟨K, rfl⟩ : ∃ K : Nat, k = K := ⟨k.toNat, by omega⟩
        have e2 := hide (show chooseL (N : Int) (K : Int) = lm (ch N K) by unfold chooseL; rw [if_neg (by omega), if_neg hk]; rfl)
        have d2 : decide ((K : Int) < 0) = false := decide_eq_false (by omega)
        have d3 : decide ((K : Int) > (N : Int)) = false := decide_eq_false (by omega)
        have d4 : decide (N < K) = false := decide_eq_false (by omega)
        have hN : N ≤ 32 := by omega
        have g0 : (0 : Int) ≤ (K : Int) := by omega
        have g1 : (K : Int) < 33 := by omega
        have hK33 : K < 33 := by omega
        have hget : (rowCells N).toArray[K]? = some (.int .u64 (ch N K : Int)) := by simpa using rowCells_get (n := N) hK33
        have hsz : (rowCells N).toArray.size = 33 := by simp [rowCells_len]
        have hch : ch N K < 18446744073709551616 := by
          have h1 := ch_le N K
          have h2 : 2 ^ N ≤ 2 ^ 32 := Nat.pow_le_pow_right (by omega) hN
          omega
        have HCH := hide hch
        have hix := index_row (N := N) hK33
        clear h0 h1 hk hch hget hsz hK33
        go_enter Try.func25, Try.ntmps25
        go_wp2_with (first
          | (go_at_call 62; (with_reducible refine (row_any _ N hN).mono ?_); rintro e w1 ⟨rfl, hb⟩; have HB1 := hide hb; clear hb)
          | (go_at_call 61; (with_reducible refine (nof_any _ (ch N K) HCH.out).mono ?_); rintro e w2 ⟨A, m, c, rfl, hmc, hm2, hu, hb⟩; have HU := hide hu; have HB := hide (HB1.out.trans (hb.mono HB1.out.size)); clear hu hb))
        go_ret2
        exact ⟨A, m, c, by rw [e1.out]; rfl, hmc, hm2, by rw [e2.out]; exact HU.out, HB.out⟩
end Go.Proofs.Ytclflfglhbkfkaa

/- Contracts: the reference's Choose. -/
namespace Go.Proofs.Ytclflfglhbkfkaa
open Go.RowKit

theorem ch_one : ∀ n, ch n 1 = n
  | 0 => rfl
  | n + 1 => by show ch n 0 + ch n 1 = _; rw [ch_zero, ch_one n]; omega
theorem ch_mul : ∀ n k : Nat, ch (n + 1) (k + 1) * (k + 1) = ch n k * (n + 1)
  | 0, 0 => rfl
  | 0, k + 1 => by
    show (ch 0 (k + 1) + ch 0 (k + 2)) * (k + 2) = ch 0 (k + 1) * 1
    show (0 + 0) * _ = 0 * 1
    omega
  | n + 1, 0 => by rw [ch_one, ch_zero]; omega
  | n + 1, k + 1 => by
    have h1 := ch_mul n k
    have h2 := ch_mul n (k + 1)
    show (ch (n + 1) (k + 1) + ch (n + 1) (k + 2)) * (k + 1 + 1) = (ch n k + ch n (k + 1)) * (n + 1 + 1)
    have e : ch (n + 1) (k + 1) = ch n k + ch n (k + 1) := rfl
    rw [Nat.add_mul, h2]
    rw [Nat.mul_add _ (k + 1) 1, h1, e, Nat.mul_one]
    rw [show n + 1 + 1 = (n + 1) + 1 from rfl, Nat.mul_add _ (n + 1) 1, Nat.mul_one, Nat.add_mul]
    omega
theorem ch_step {d i : Nat} : ch (d + i) i * (d + (i + 1)) / (i + 1) = ch (d + (i + 1)) (i + 1) := by
  have h := ch_mul (d + i) i
  rw [show d + (i + 1) = d + i + 1 by omega, ← h]
  exact Nat.mul_div_cancel _ (by omega)
theorem r1of_zero (w : World) : Calls Try.prog 52 #[.int .u64 0] w fun e w' => ∃ A m c, e = .returned (.slice A m c) ∧ m ≤ c ∧ m ≤ 2 ∧ Ul w' none A m (lm 0) ∧ Below w.heap.size w w' := r1of_any w 0 (by omega)
set_option maxRecDepth 100000 in
set_option maxHeartbeats 4000000 in
theorem rchoose_any (w : World) (n k : Int) :
    Calls Try.prog 26 #[.int .i64 n, .int .i64 k] w fun e w' => ∃ A m c, e = .returned (.tuple #[.slice A m c, .int .i64 (chooseE n)]) ∧ m ≤ c ∧ m ≤ 2 ∧ Ul w' none A m (chooseL n k) ∧ Below w.heap.size w w' := by
  by_cases h0 : n < 0
  · have e1 := hide (show chooseE n = 3 from if_pos (.inl h0))
    have e2 := hide (show chooseL n k = [] from if_pos (.inl h0))
    go_enter Try.func26, Try.ntmps26
    go_wp2_with fail
    go_ret2
    exact ⟨none, 0, 0, by rw [e1.out]; rfl, by omega, by omega, by rw [e2.out]; exact Ul.nil, Below.refl _ _⟩
  · by_cases h1 : 32 < n
    · have e1 := hide (show chooseE n = 3 from if_pos (.inr h1))
      have e2 := hide (show chooseL n k = [] from if_pos (.inr h1))
      have d0 : decide (n < 0) = false := decide_eq_false h0
      have d1 : decide (n > 32) = true := decide_eq_true h1
      clear h0 h1
      go_enter Try.func26, Try.ntmps26
      go_wp2_with fail
      go_ret2
      exact ⟨none, 0, 0, by rw [e1.out]; rfl, by omega, by omega, by rw [e2.out]; exact Ul.nil, Below.refl _ _⟩
    · have e1 := hide (show chooseE n = 0 from if_neg (by omega))
      have d0 : decide (n < 0) = false := decide_eq_false h0
      have d1 : decide (n > 32) = false := decide_eq_false h1
      by_cases hk : k < 0 ∨ n < k
      · have e2 := hide (show chooseL n k = lm 0 by unfold chooseL; rw [if_neg (by omega), if_pos hk, lm_zero])
        by_cases hk0 : k < 0
        · have d2 : decide (k < 0) = true := decide_eq_true hk0
          clear h0 h1 hk hk0
          go_enter Try.func26, Try.ntmps26
          go_wp2_with (go_at_call 52; (with_reducible refine (r1of_zero _).mono ?_); rintro e w1 ⟨A, m, c, rfl, hmc, hm2, hu, hb⟩; have HU := hide hu; have HB := hide hb; clear hu hb)
          go_ret2
          exact ⟨A, m, c, by rw [e1.out]; rfl, hmc, hm2, by rw [e2.out]; exact HU.out, HB.out⟩
        · have d2 : decide (k < 0) = false := decide_eq_false hk0
          have d3 : decide (k > n) = true := decide_eq_true (by omega)
          clear h0 h1 hk hk0
          go_enter Try.func26, Try.ntmps26
          go_wp2_with (go_at_call 52; (with_reducible refine (r1of_zero _).mono ?_); rintro e w1 ⟨A, m, c, rfl, hmc, hm2, hu, hb⟩; have HU := hide hu; have HB := hide hb; clear hu hb)
          go_ret2
          exact ⟨A, m, c, by rw [e1.out]; rfl, hmc, hm2, by rw [e2.out]; exact HU.out, HB.out⟩
      · obtain ⟨N, rfl⟩ : ∃ N : Nat, n = N := ⟨n.toNat, by omega⟩
        obtain ⟨K, rfl⟩ : ∃ K : Nat, k = K := ⟨k.toNat, by omega⟩
        obtain ⟨D, rfl⟩ : ∃ D, N = D + K := ⟨N - K, by omega⟩
        have e2 := hide (show chooseL ((D + K : Nat) : Int) (K : Int) = lm (ch (D + K) K) by unfold chooseL; rw [if_neg (by omega), if_neg hk]; rfl)
        have d2 : decide ((K : Int) < 0) = false := decide_eq_false (by omega)
        have hN : D + K ≤ 32 := by omega
        have HDK := hide (show (((D + K : Nat) : Int)) = (D : Int) + (K : Int) by omega)
        obtain ⟨NN, hNN⟩ : ∃ NN : Int, NN = ((D + K : Nat) : Int) := ⟨_, rfl⟩
        have d3 : decide ((K : Int) > NN) = false := decide_eq_false (by omega)
        have hsub : NN - (K : Int) = (D : Int) := by omega
        have hn0 : ¬ NN < 0 := by omega
        have hn32 : NN ≤ 32 := by omega
        have hnk : (K : Int) ≤ NN := by omega
        rw [← hNN] at e1 e2 d0 d1 ⊢
        clear h0 h1 hk hNN HDK
        go_enter Try.func26, Try.ntmps26
        go_wp2_with fail
        go_loopw [6, 7] (fun c i W => ∃ j : Nat, c = .int .u64 (ch (D + j) j : Int) ∧ i = .int .i64 ((j : Int) + 1) ∧ j ≤ K ∧ W = w) (fun _ i _ => K + 1 - (intOf i).toNat)
        case atStart => exact ⟨0, by rw [ch_zero]; rfl, rfl, by omega, rfl⟩
        case round =>
          obtain ⟨j, rfl, rfl, hj, rfl⟩ := hrel
          have hch : ch (D + j) j ≤ 4294967296 := by
            have h1 := ch_le (D + j) j
            have h2 : 2 ^ (D + j) ≤ 2 ^ 32 := Nat.pow_le_pow_right (by omega) (by omega)
            omega
          by_cases hjK : j = K
          · subst hjK
            have HCH := hide (show ch (D + j) j < 18446744073709551616 by omega)
            go_wp2_with (go_at_call 52; (with_reducible refine (r1of_any _ (ch (D + j) j) HCH.out).mono ?_); rintro e w2 ⟨A, m, c, rfl, hmc, hm2, hu, hb⟩; have HU := hide hu; have HB := hide hb; clear hu hb)
            go_ret2
            exact ⟨A, m, c, by rw [e1.out]; rfl, hmc, hm2, by rw [e2.out]; exact HU.out, HB.out⟩
          · have hlt : (j : Int) + 1 ≤ (K : Int) := by omega
            have HST := hide (ch_step (d := D) (i := j))
            obtain ⟨q, hq⟩ : ∃ q, q = ch (D + j) j := ⟨_, rfl⟩
            rw [← hq] at HST hch ⊢
            clear hq
            have hd : D + (j + 1) ≤ 32 := by omega
            have w1 : IntKind.u64.wrap ((D : Int) + ((j : Int) + 1)) = ((D + (j + 1) : Nat) : Int) := by
              show ((D : Int) + ((j : Int) + 1)) % 18446744073709551616 = _
              omega
            have hm : q * (D + (j + 1)) ≤ 4294967296 * 32 := Nat.mul_le_mul hch hd
            have hv : IntKind.u64.wrap ((IntKind.u64.wrap ((q : Int) * ((D : Int) + ((j : Int) + 1)))).tdiv ((j : Int) + 1)) = ((ch (D + (j + 1)) (j + 1) : Nat) : Int) := by
              have h0 := HST.out
              obtain ⟨p, hp⟩ : ∃ p, p = q * (D + (j + 1)) := ⟨_, rfl⟩
              have a1 : (q : Int) * ((D : Int) + ((j : Int) + 1)) = (p : Int) := by rw [hp]; push_cast; rfl
              rw [← hp] at hm h0
              have a2 : IntKind.u64.wrap (p : Int) = (p : Int) := by
                show (p : Int) % 18446744073709551616 = _
                omega
              obtain ⟨s, hs⟩ : ∃ s, s = p / (j + 1) := ⟨_, rfl⟩
              have a3 : ((p : Int)).tdiv ((j : Int) + 1) = (s : Int) := by rw [hs]; rfl
              have a4 : s ≤ p := by rw [hs]; exact Nat.div_le_self _ _
              rw [a1, a2, a3, ← h0, ← hs]
              show (s : Int) % 18446744073709551616 = _
              omega
            have HV := hide hv
            clear hv
            go_wp2_with fail
            first
              | (go_roundw
                 case rel => exact ⟨j + 1, by rw [HV.out], by go_num, by omega, by first | rfl | trivial⟩
                 case measure => simp [intOf]; omega)
              | exact ⟨⟨j + 1, by rw [HV.out], by go_num, by omega, by first | rfl | trivial⟩, by simp [intOf]; omega⟩
end Go.Proofs.Ytclflfglhbkfkaa
