/- Contracts of the functions that these laws reach: part 4: Contracts: limbs.Small, shift, unshift; Contracts: limbs.guess; Contracts: limbs.reduce. -/
import Derived.Test.YtnofljgmkdommaaG3
import Derived.Laws.BitsAllLaws
import Derived.Laws.Shifts
import Derived.Deep.Cut
set_option linter.unusedVariables false
set_option linter.unusedSimpArgs false

/- Contracts: limbs.Small, shift, unshift. -/
namespace Go.Proofs.Ytnofljgmkdommaa
open Go.RowKit

theorem or_shift (a b k : Nat) (hb : b < 2 ^ k) : a * 2 ^ k ||| b = a * 2 ^ k + b := by
  rw [Nat.mul_comm]
  exact (Nat.two_pow_add_eq_or_of_lt hb a).symm
theorem or_u64 (a b k : Nat) (hb : b < 2 ^ k) (h : a * 2 ^ k + b < 18446744073709551616) : bits .or .u64 ((a * 2 ^ k : Nat) : Int) (b : Int) = ((a * 2 ^ k + b : Nat) : Int) := by
  rw [u64_or_nat _ _ (by omega) (by omega), or_shift a b k hb]
theorem or_32 (r x : Nat) (hr : r < 4294967296) (hx : x < 4294967296) : bits .or .u64 ((r : Int) * 4294967296) (x : Int) = (r : Int) * 4294967296 + (x : Int) := by
  have := or_u64 r x 32 (by omega) (by omega)
  simpa using this
theorem take_set_succ {l : List Nat} {k d : Nat} (h : k < l.length) : (l.set k d).take (k + 1) = l.take k ++ [d] := by
  rw [List.take_succ_eq_append_getElem (by simpa using h)]
  simp [List.take_set_of_le]
set_option maxRecDepth 100000 in
set_option maxHeartbeats 2000000 in
theorem lsmall_any (w : World) (av : Option Nat) (A : Option Addr) (n c : Nat) (x d : Nat) (hU : Ul w av A n (lm x)) (hn : n ≤ 1000000) (hd : d < 4294967296) (hd1 : 1 ≤ d) :
    Calls Try.prog 94 #[.slice A n c, .int .u32 (d : Int)] w fun e w' => ∃ A' m' c' r, e = .returned (.tuple #[.slice A' m' c', .int .u32 ((r : Nat) : Int)]) ∧ m' ≤ c' ∧ r < d ∧ Hid (r = x % d) ∧ Ul w' none A' m' (lm (x / d)) ∧ Below w.heap.size w w' := by
  have HU := hide hU
  clear hU
  go_enter Try.func94, Try.ntmps94
  go_wp2_with (at_make; refine wl_make_u32 (w0 := w) rfl _ _ _ Try.underlying33 rfl n n _ _ rfl rfl rfl rfl (by omega) (by omega) (Fr.refl _ _) ?_; intro w1 ho1 hs1 hb1; have HO1 := hide ho1; clear ho1 hb1)
  go_loopw [7, 8] (fun rest i wr => ∃ (k r : Nat) (o : List Nat), k ≤ n ∧ r < d ∧ rest = .int .u64 (r : Int) ∧ i = .int .i64 ((k : Int) - 1) ∧ Hid (OF w wr (some ⟨w.heap.size, 0, none⟩) n n o) ∧ Hid (lv ((lm x).drop k) = lv (o.drop k) * d + r)) (fun _ i _ => (intOf i + 1).toNat)
  case atStart => exact ⟨n, 0, _, by omega, by omega, rfl, rfl, HO1, hide (by rw [List.drop_eq_nil_of_le (by have := HU.out.len; omega), List.drop_eq_nil_of_le (by simp)]; simp [lv])⟩
  case round =>
    obtain ⟨k, r, o, hk, hr, rfl, rfl, HO, HI⟩ := hrel
    by_cases hk0 : k = 0
    · subst hk0
      have h0 : lv (lm x) = lv o * d + r := HI.out
      rw [lv_lm] at h0
      have hq : lv o = x / d := by rw [h0, Nat.mul_comm, Nat.mul_add_div (by omega), Nat.div_eq_of_lt hr, Nat.add_zero]
      have hm : r = x % d := by rw [h0, Nat.mul_comm, Nat.mul_add_mod, Nat.mod_eq_of_lt hr]
      have HQ := hide hq
      have HM := hide hm
      clear h0 hq hm
      have g5 : (r : Int) % 4294967296 = (r : Int) := by omega
      go_wp2_with (go_at_call 83; refine (trim_any _ none _ _ _ _ HO.out.ul (by omega) (by omega)).mono ?_; rintro e w3 ⟨m3, rfl, hm3, hu3, rfl⟩; rw [HQ.out] at hu3)
      go_ret2
      exact ⟨_, _, _, r, rfl, by omega, hr, HM, hu3, fr_below HO.out.fr⟩
    · obtain ⟨j, rfl⟩ : ∃ j, k = j + 1 := ⟨k - 1, by omega⟩
      obtain ⟨b, oo, p, rfl, -, -, hp, hpl, hcell⟩ := (HU.out.frF HO.out.fr).at (k := j) (by omega)
      obtain ⟨g', z, hg, -, hgl, hz, hzl, hcellz, hfz⟩ := HO.out.at (k := j) (by omega)
      obtain rfl : w.heap.size = g' := by simpa using hg
      have HP := hide hp
      clear hp hz hg
      have g1 : (0 : Int) ≤ (j : Int) := by omega
      have g2 : (j : Int) < (n : Int) := by omega
      have hor := or_32 r p (by omega) hpl
      have g3 : (1 : Int) ≤ (d : Int) := by omega
      have hfz0 := hfz j
      clear hfz
      have hs := small_lt hr hpl (s := r * 4294967296 + p) rfl
      have hs2 : ((r : Int) * 4294967296 + (p : Int)) / (d : Int) < 4294967296 := by
        have : (((r * 4294967296 + p) / d : Nat) : Int) < 4294967296 := by omega
        rw [Int.natCast_ediv] at this
        simpa using this
      have hs3 : 0 ≤ ((r : Int) * 4294967296 + (p : Int)) / (d : Int) := Int.ediv_nonneg (by omega) (by omega)
      have hr2 : r * 4294967296 + p < 18446744073709551616 := by omega
      have HS := hide hs
      go_wp2
      go_roundw
      case rel =>
        have hp := HO.out.put (k := j) (x := (r * 4294967296 + p) / d) (by omega) hs
        have e : (((r * 4294967296 + p) / d : Nat) : Int) = ((r : Int) * 4294967296 + (p : Int)) / (d : Int) := by rw [Int.natCast_ediv]; simp
        rw [e] at hp
        refine ⟨j, (r * 4294967296 + p) % d, _, by omega, Nat.mod_lt _ (by omega), vint (by rw [Int.natCast_emod]; simp), by go_num, hide hp, hide ?_⟩
        exact small_step (by have := HU.out.len; have := HO.out.len; omega) (by have := HU.out.len; omega) HP.out HI.out rfl
      case measure => simp [intOf] <;> omega

theorem shl_or {p c s : Nat} (hs : s ≤ 31) (hp : p < 4294967296) (hc : c < 2 ^ s) : ∃ S : Nat, S = p * 2 ^ s + c ∧ S < 9223372036854775808 ∧ S / 4294967296 < 2 ^ s ∧ bits BinOp.or IntKind.u64 (IntKind.u64.wrap ((p : Int) * 2 ^ s)) (c : Int) = (S : Int) := by
  have h1 : p * 2 ^ s + c < 4294967296 * 2 ^ s := by
    have : (p + 1) * 2 ^ s ≤ 4294967296 * 2 ^ s := Nat.mul_le_mul_right _ hp
    rw [Nat.add_mul] at this
    omega
  have h2 : 4294967296 * 2 ^ s ≤ 4294967296 * 2147483648 := Nat.mul_le_mul_left _ (by
    have : (2 : Nat) ^ s ≤ 2 ^ 31 := Nat.pow_le_pow_right (by omega) hs
    omega)
  refine ⟨_, rfl, by omega, by rw [Nat.div_lt_iff_lt_mul (by omega)]; omega, ?_⟩
  have e : (p : Int) * 2 ^ s = ((p * 2 ^ s : Nat) : Int) := by rw [Int.natCast_mul, Int.natCast_pow]; rfl
  rw [e, IntWalk.u64_in _ (by omega)]
  exact or_u64 p c s hc (by omega)
set_option maxRecDepth 100000 in
set_option maxHeartbeats 2000000 in
theorem lshift_any (w : World) (av : Option Nat) (A : Option Addr) (n c : Nat) (x s : Nat) (hU : Ul w av A n (lm x)) (hn : n ≤ 1000000) (hs : s ≤ 31) :
    Calls Try.prog 96 #[.slice A n c, .int .i64 (s : Int)] w fun e w' => ∃ o, e = .returned (.slice (some ⟨w.heap.size, 0, none⟩) (n + 1) (n + 1)) ∧ lv o = x * 2 ^ s ∧ OF w w' (some ⟨w.heap.size, 0, none⟩) (n + 1) (n + 1) o := by
  have HU := hide hU
  clear hU
  go_enter Try.func96, Try.ntmps96
  go_wp2_with (at_make; refine wl_make_u32 (w0 := w) rfl _ _ _ Try.underlying33 rfl (n + 1) (n + 1) _ _ rfl rfl rfl rfl (by omega) (by omega) (Fr.refl _ _) ?_; intro w1 ho1 hs1 hb1; have HO1 := hide ho1; clear ho1 hb1)
  go_loopw [6, 16] (fun carry i wr => ∃ (k c : Nat) (o : List Nat), k ≤ n ∧ c < 2 ^ s ∧ carry = .int .u64 (c : Int) ∧ i = .int .i64 (k : Int) ∧ Hid (OF w wr (some ⟨w.heap.size, 0, none⟩) (n + 1) (n + 1) o) ∧ Hid (lv (o.take k) + 4294967296 ^ k * c = lv ((lm x).take k) * 2 ^ s)) (fun _ i _ => n - (intOf i).toNat)
  case atStart => exact ⟨0, 0, _, by omega, Nat.pow_pos (by omega), rfl, rfl, HO1, hide (by simp [lv])⟩
  case round =>
    obtain ⟨k, c, o, hk, hc, rfl, rfl, HO, HI⟩ := hrel
    by_cases hkn : k < n
    · obtain ⟨b, oo, p, rfl, -, -, hp, hpl, hcell⟩ := (HU.out.frF HO.out.fr).at hkn
      obtain ⟨g', z, hg, -, hgl, hz, hzl, hcellz, hfz⟩ := HO.out.at (k := k) (by omega)
      obtain rfl : w.heap.size = g' := by simpa using hg
      have HP := hide hp
      clear hp hz hg
      have g1 : (0 : Int) ≤ (k : Int) := by omega
      have g2 : (k : Int) < (n : Int) := by omega
      have g3 : (k : Int) < (n : Int) + 1 := by omega
      have hfz0 := hfz k
      clear hfz
      obtain ⟨S, hS, hSl, hSc, hor⟩ := shl_or hs hpl hc
      have HS := hide hS
      have hor2 := hor
      clear hS hc hor
      go_wp2
      go_roundw
      case rel =>
        have hp := HO.out.put (k := k) (x := S % 4294967296) (by omega) (by omega)
        have e : ((S % 4294967296 : Nat) : Int) = (S : Int) % 4294967296 := by omega
        rw [e] at hp
        refine ⟨k + 1, S / 4294967296, _, by omega, hSc, vint (by omega), by go_num, hide hp, hide ?_⟩
        rw [take_set_succ (by have := HO.out.len; omega)]
        exact shl_step (by rw [List.length_take]; have := HO.out.len; omega) HP.out HI.out HS.out
      case measure => simp [intOf] <;> omega
    · obtain rfl : k = n := by omega
      obtain ⟨g', z, hg, -, hgl, hz, hzl, hcellz, hfz⟩ := HO.out.at (k := k) (by omega)
      obtain rfl : w.heap.size = g' := by simpa using hg
      have hc2 : c < 4294967296 := Nat.lt_of_lt_of_le hc (Nat.le_trans (Nat.pow_le_pow_right (by omega) hs) (by omega))
      have g3 : (k : Int) < (k : Int) + 1 := by omega
      have hfz0 := hfz k
      have g5 : (c : Int) % 4294967296 = (c : Int) := by omega
      clear hfz hz hg hc
      go_wp2
      go_ret
      have hp := HO.out.put (k := k) (x := c) (by omega) hc2
      refine ⟨_, rfl, ?_, hp⟩
      have e : (o.set k c) = (o.set k c).take (k + 1) := by rw [List.take_of_length_le (by rw [List.length_set]; have := HO.out.len; omega)]
      rw [e, take_set_succ (by have := HO.out.len; omega), lv_snoc, List.length_take, Nat.min_eq_left (by have := HO.out.len; omega), HI.out, List.take_of_length_le (by have := HU.out.len; omega), lv_lm]

theorem shr_or {p q s : Nat} (hp : p < 4294967296) (hq : q < 4294967296) : bits BinOp.or IntKind.u64 (p : Int) ((q : Int) * 4294967296) = ((p + 4294967296 * q : Nat) : Int) := by
  have e : (q : Int) * 4294967296 = ((q * 2 ^ 32 : Nat) : Int) := by omega
  rw [e, u64_or_nat _ _ (by omega) (by omega), Nat.or_comm, or_shift q p 32 (by omega)]
  omega
theorem natCast_div2 (S s : Nat) : ((S / 2 ^ s : Nat) : Int) = (S : Int) / 2 ^ s := by rw [Int.natCast_ediv, Int.natCast_pow]; rfl
set_option maxRecDepth 100000 in
set_option maxHeartbeats 2000000 in
theorem lunshift_any (w : World) (av : Option Nat) (A : Option Addr) (n c : Nat) (x s : Nat) (hU : Ul w av A n (lm x)) (hn : n ≤ 1000001) (hs : s ≤ 31) :
    Calls Try.prog 99 #[.slice A n c, .int .i64 (s : Int)] w fun e w' => ∃ A' m' c', e = .returned (.slice A' m' c') ∧ m' ≤ c' ∧ Ul w' none A' m' (lm (x / 2 ^ s)) ∧ Below w.heap.size w w' := by
  have HU := hide hU
  clear hU
  go_enter Try.func99, Try.ntmps99
  go_wp2_with (at_make; refine wl_make_u32 (w0 := w) rfl _ _ _ Try.underlying33 rfl n n _ _ rfl rfl rfl rfl (by omega) (by omega) (Fr.refl _ _) ?_; intro w1 ho1 hs1 hb1; have HO1 := hide ho1; clear ho1 hb1)
  go_loopw [14] (fun i wr => ∃ (k : Nat) (o : List Nat), k ≤ n ∧ i = .int .i64 (k : Int) ∧ Hid (OF w wr (some ⟨w.heap.size, 0, none⟩) n n o) ∧ Hid (lv (o.take k) + 4294967296 ^ k * (lv ((lm x).drop k) / 2 ^ s) = x / 2 ^ s)) (fun i _ => n - (intOf i).toNat)
  case atStart => exact ⟨0, _, by omega, rfl, HO1, hide (by simp [lv, lv_lm])⟩
  case round =>
    obtain ⟨k, o, hk, rfl, HO, HI⟩ := hrel
    by_cases hkn : k < n
    · obtain ⟨b, oo, p, rfl, -, -, hp, hpl, hcell⟩ := (HU.out.frF HO.out.fr).at hkn
      obtain ⟨g', z, hg, -, hgl, hz, hzl, hcellz, hfz⟩ := HO.out.at (k := k) (by omega)
      obtain rfl : w.heap.size = g' := by simpa using hg
      have HP := hide hp
      clear hp hz hg
      have g1 : (0 : Int) ≤ (k : Int) := by omega
      have g2 : (k : Int) < (n : Int) := by omega
      have hfz0 := hfz k
      clear hfz
      by_cases hk1 : k + 1 < n
      · obtain ⟨b2, o2, q, hA, -, -, hq, hql, hcell2⟩ := (HU.out.frF HO.out.fr).at hk1
        obtain ⟨rfl, rfl⟩ : b = b2 ∧ oo = o2 := by simpa using hA
        have HQ := hide (getD_some hq)
        clear hq hA
        have g3 : (k : Int) + 1 < (n : Int) := by omega
        have g4 : decide ((k : Int) + 1 < (n : Int)) = true := decide_eq_true g3
        have hor := shr_or (s := s) hpl hql
        obtain ⟨S, hS⟩ : ∃ S : Nat, S = p + 4294967296 * q := ⟨_, rfl⟩
        rw [← hS] at hor
        have HS := hide hS
        clear hS
        go_wp2
        go_roundw
        case rel =>
          have hp := HO.out.put (k := k) (x := S / 2 ^ s % 4294967296) (by omega) (by omega)
          have e : ((S / 2 ^ s % 4294967296 : Nat) : Int) = (S : Int) / 2 ^ s % 4294967296 := by rw [Int.natCast_emod, natCast_div2]; rfl
          rw [e] at hp
          refine ⟨k + 1, _, by omega, by go_num, hide hp, hide ?_⟩
          rw [take_set_succ (by have := HO.out.len; omega)]
          exact shr_step (by rw [List.length_take]; have := HO.out.len; omega) (by omega) (okL_lm x) HP.out (by rw [HQ.out, HS.out]) HI.out
        case measure => simp [intOf] <;> omega
      · have g4 : decide ((k : Int) + 1 < (n : Int)) = false := decide_eq_false (by omega)
        have HQ := hide (getD_none (l := lm x) (k := k + 1) (by have := HU.out.len; omega))
        go_wp2
        go_roundw
        case rel =>
          have hp := HO.out.put (k := k) (x := p / 2 ^ s % 4294967296) (by omega) (by omega)
          have e : ((p / 2 ^ s % 4294967296 : Nat) : Int) = (p : Int) / 2 ^ s % 4294967296 := by rw [Int.natCast_emod, natCast_div2]; rfl
          rw [e] at hp
          refine ⟨k + 1, _, by omega, by go_num, hide hp, hide ?_⟩
          rw [take_set_succ (by have := HO.out.len; omega)]
          exact shr_step (by rw [List.length_take]; have := HO.out.len; omega) (by omega) (okL_lm x) HP.out (by rw [HQ.out]; simp) HI.out
        case measure => simp [intOf] <;> omega
    · obtain rfl : k = n := by omega
      have HE := hide (show lv o = x / 2 ^ s by
        have h := HI.out
        rw [List.drop_eq_nil_of_le (by have := HU.out.len; omega), List.take_of_length_le (by have := HO.out.len; omega)] at h
        simpa [lv] using h)
      go_wp2_with (go_at_call 83; refine (trim_any _ none _ _ _ _ HO.out.ul (by omega) (by omega)).mono ?_; rintro e w3 ⟨m3, rfl, hm3, hu3, rfl⟩; rw [HE.out] at hu3)
      go_ret
      exact ⟨_, _, _, rfl, by omega, hu3, fr_below HO.out.fr⟩
end Go.Proofs.Ytnofljgmkdommaa

/- Contracts: limbs.guess. -/
namespace Go.Proofs.Ytnofljgmkdommaa
open Go.RowKit

theorem top2 {l : List Nat} {n x0 x1 : Nat} (hl : l.length = n + 2) (h0 : l[n]? = some x0) (h1 : l[n + 1]? = some x1) : lv l = (x1 * 4294967296 + x0) * 4294967296 ^ n + lv (l.take n) := by
  rw [lv_take_drop l n (by omega), lv_drop h0, lv_drop h1, List.drop_eq_nil_of_le (by omega)]
  rw [Nat.mul_comm (x1 * 4294967296 + x0)]
  have e : x0 + 4294967296 * (x1 + 4294967296 * lv []) = x1 * 4294967296 + x0 := by simp [lv]; omega
  rw [e]; omega
theorem top3 {l : List Nat} {n x0 x1 x2 : Nat} (hl : l.length = n + 3) (h0 : l[n]? = some x0) (h1 : l[n + 1]? = some x1) (h2 : l[n + 2]? = some x2) : lv l = ((x2 * 4294967296 + x1) * 4294967296 + x0) * 4294967296 ^ n + lv (l.take n) := by
  rw [lv_take_drop l n (by omega), lv_drop h0, lv_drop h1, lv_drop h2, List.drop_eq_nil_of_le (by omega)]
  rw [Nat.mul_comm ((x2 * 4294967296 + x1) * 4294967296 + x0)]
  have e : x0 + 4294967296 * (x1 + 4294967296 * (x2 + 4294967296 * lv [])) = (x2 * 4294967296 + x1) * 4294967296 + x0 := by simp [lv]; omega
  rw [e]; omega
theorem take_lt {l : List Nat} {n : Nat} (h : okL l) (hl : n ≤ l.length) : lv (l.take n) < 4294967296 ^ n := by
  have := lv_lt (h.take n)
  rwa [List.length_take, Nat.min_eq_left hl] at this
/-- All that the trial digit rests on. -/
structure Top (U V t v1 v2 u2 : Nat) : Prop where
  ex : ∃ W v' u', 0 < W ∧ V = (v1 * 4294967296 + v2) * W + v' ∧ U = (t * 4294967296 + u2) * W + u' ∧ v' < W ∧ u' < W
  lt : U < V * 4294967296
  v1p : 0 < v1
  v2l : v2 < 4294967296
  u2l : u2 < 4294967296
theorem Top.vp {U V t v1 v2 u2 : Nat} (h : Top U V t v1 v2 u2) : 0 < V := by
  rcases Nat.eq_zero_or_pos V with h0 | h0
  · have := h.lt
    rw [h0] at this
    omega
  · exact h0
theorem Top.t_lt {U V t v1 v2 u2 : Nat} (h : Top U V t v1 v2 u2) : t < v1 * 4294967296 + 4294967296 := by
  obtain ⟨W, v', u', hW, hV, hU, hv, hu⟩ := h.ex
  have h1 := h.lt
  have h2 : V < (v1 + 1) * 4294967296 * W := by
    have : (v1 * 4294967296 + v2 + 1) * W ≤ (v1 + 1) * 4294967296 * W := Nat.mul_le_mul_right _ (by have := h.v2l; omega)
    rw [Nat.add_mul _ 1] at this
    omega
  have h3 : t * 4294967296 * W ≤ U := by rw [hU, Nat.add_mul]; omega
  have h4 : t * (4294967296 * W) < ((v1 + 1) * 4294967296) * (4294967296 * W) := by
    have e1 : t * (4294967296 * W) = t * 4294967296 * W := by rw [Nat.mul_assoc]
    have e2 : ((v1 + 1) * 4294967296) * (4294967296 * W) = (v1 + 1) * 4294967296 * W * 4294967296 := by
      rw [Nat.mul_comm 4294967296 W, ← Nat.mul_assoc]
    rw [e1, e2]
    omega
  have := Nat.lt_of_mul_lt_mul_right h4
  omega
theorem Top.ge {U V t v1 v2 u2 : Nat} (h : Top U V t v1 v2 u2) : U / V ≤ t / v1 := by
  obtain ⟨W, v', u', hW, hV, hU, hv, hu⟩ := h.ex
  exact guess_ge hW hV hU hu h.u2l h.v1p
theorem Top.big {U V t v1 v2 u2 q : Nat} (h : Top U V t v1 v2 u2) (hq : 4294967296 ≤ q) : U / V < q := by
  have : U / V < 4294967296 := by rw [Nat.div_lt_iff_lt_mul h.vp, Nat.mul_comm]; exact h.lt
  omega
theorem Top.dec {U V t v1 v2 u2 q r : Nat} (h : Top U V t v1 v2 u2) (hr : q * v1 + r = t) (hlt : r * 4294967296 + u2 < q * v2) : U / V < q := by
  obtain ⟨W, v', u', hW, hV, hU, hv, hu⟩ := h.ex
  exact guess_dec hV hU hu hr hlt h.vp
theorem Top.le {U V t v1 v2 u2 q r : Nat} (h : Top U V t v1 v2 u2) (hr : q * v1 + r = t) (hle : q * v2 ≤ r * 4294967296 + u2) (hq : q < 4294967296) : q ≤ U / V + 1 := by
  obtain ⟨W, v', u', hW, hV, hU, hv, hu⟩ := h.ex
  exact guess_le hV hU hr hle hv hq h.v1p
/-- The loop is left early. -/
theorem Top.brk {U V t v1 v2 u2 q r : Nat} (h : Top U V t v1 v2 u2) (hr : q * v1 + r = t) (hb : 4294967296 ≤ r) : q < 4294967296 ∧ q ≤ U / V + 1 := by
  have hq : q < 4294967296 := by
    have h1 := h.t_lt
    rcases Nat.lt_or_ge q 4294967296 with h2 | h2
    · exact h2
    · have : 4294967296 * v1 ≤ q * v1 := Nat.mul_le_mul_right _ h2
      omega
  refine ⟨hq, h.le hr ?_ hq⟩
  have h3 : q * v2 ≤ 4294967296 * 4294967296 := Nat.mul_le_mul (by omega) (by have := h.v2l; omega)
  have h4 : 4294967296 * 4294967296 ≤ r * 4294967296 := Nat.mul_le_mul_right _ hb
  omega
theorem dec_mul {q v1 r t : Nat} (h : q * v1 + r = t) (hq : 0 < q) : (q - 1) * v1 + (r + v1) = t := by
  rw [Nat.sub_mul, Nat.one_mul]
  have : v1 ≤ q * v1 := Nat.le_mul_of_pos_left _ hq
  omega
theorem toN {a b : Nat} : ((a * b : Nat) : Int) = (a : Int) * (b : Int) := Int.natCast_mul a b

set_option maxRecDepth 100000 in
set_option maxHeartbeats 4000000 in
theorem lguess_any (w : World) (av av' : Option Nat) (A : Option Addr) (m c : Nat) (B : Option Addr) (d : Nat) (us vs : List Nat) (hU : Ul w av A (m + 1) us) (hV : Ul w av' B m vs) (hm : 2 ≤ m) (hm2 : m ≤ 1000000) (hv : ∃ x, vs[m - 1]? = some x ∧ 0 < x) (hlt : lv us < lv vs * 4294967296) :
    Calls Try.prog 98 #[.slice A (m + 1) c, .slice B m d] w fun e w' => ∃ q : Nat, e = .returned (.int .u64 (q : Int)) ∧ q < 4294967296 ∧ lv us / lv vs ≤ q ∧ q ≤ lv us / lv vs + 1 ∧ Dr w w' := by
  obtain ⟨b, o, u0, rfl, -, -, hu0, hu0l, hcu0⟩ := hU.at (k := m) (by omega)
  obtain ⟨b1, o1, u1, hA1, -, -, hu1, hu1l, hcu1⟩ := hU.at (k := m - 1) (by omega)
  obtain ⟨rfl, rfl⟩ : b = b1 ∧ o = o1 := by simpa using hA1
  obtain ⟨b1, o1, u2, hA2, -, -, hu2, hu2l, hcu2⟩ := hU.at (k := m - 2) (by omega)
  obtain ⟨rfl, rfl⟩ : b = b1 ∧ o = o1 := by simpa using hA2
  obtain ⟨b', o', v1, rfl, -, -, hv1, hv1l, hcv1⟩ := hV.at (k := m - 1) (by omega)
  obtain ⟨b1, o1, v2, hA3, -, -, hv2, hv2l, hcv2⟩ := hV.at (k := m - 2) (by omega)
  obtain ⟨rfl, rfl⟩ : b' = b1 ∧ o' = o1 := by simpa using hA3
  have hv1p : 0 < v1 := by
    obtain ⟨x, hx, hx0⟩ := hv
    rw [hv1] at hx
    injection hx with hx
    omega
  have hor := or_32 u0 u1 hu0l hu1l
  obtain ⟨t, ht⟩ : ∃ t : Nat, t = u0 * 4294967296 + u1 := ⟨_, rfl⟩
  have ht2 : (u0 : Int) * 4294967296 + (u1 : Int) = (t : Int) := by omega
  rw [ht2] at hor
  have htl : t < 18446744073709551616 := by omega
  have hT : Top (lv us) (lv vs) t v1 v2 u2 := by
    obtain ⟨n, rfl⟩ : ∃ n, m = n + 2 := ⟨m - 2, by omega⟩
    refine ⟨⟨4294967296 ^ n, lv (vs.take n), lv (us.take n), pow_pos' n, ?_, ?_, take_lt hV.ok (by have := hV.len; omega), take_lt hU.ok (by have := hU.len; omega)⟩, hlt, hv1p, hv2l, hu2l⟩
    · exact top2 hV.len hv2 hv1
    · rw [ht]; exact top3 hU.len hu2 hu1 hu0
  have HT := hide hT
  have HTT := hide ht
  have gi1 : (0 : Int) ≤ (m : Int) - 1 := by omega
  have gi2 : (0 : Int) ≤ (m : Int) - 2 := by omega
  have gi3 : (m : Int) < (m : Int) + 1 := by omega
  have gi4 : (m : Int) - 1 < (m : Int) + 1 := by omega
  have gi5 : (m : Int) - 2 < (m : Int) + 1 := by omega
  have gi6 : (m : Int) - 1 < (m : Int) := by omega
  have gi7 : (m : Int) - 2 < (m : Int) := by omega
  have gv1 : (1 : Int) ≤ (v1 : Int) := by omega
  obtain ⟨q0, hq0⟩ : ∃ q0 : Nat, q0 = t / v1 := ⟨_, rfl⟩
  obtain ⟨r0, hr0⟩ : ∃ r0 : Nat, r0 = t % v1 := ⟨_, rfl⟩
  have hq0I : (t : Int) / (v1 : Int) = (q0 : Int) := by rw [hq0, Int.natCast_ediv]
  have hr0I : (t : Int) % (v1 : Int) = (r0 : Int) := by rw [hr0, Int.natCast_emod]
  have hq0l : q0 < 18446744073709551616 := by rw [hq0]; exact Nat.lt_of_le_of_lt (Nat.div_le_self _ _) htl
  have hr0l : r0 < v1 := by rw [hr0]; exact Nat.mod_lt _ hv1p
  have HQ0 := hide (show q0 * v1 + r0 = t by rw [hq0, hr0, Nat.mul_comm]; exact Nat.div_add_mod t v1)
  have HQ1 := hide (show lv us / lv vs ≤ q0 by rw [hq0]; exact hT.ge)
  clear hU hV hv hlt hu0 hu1 hu2 hv1 hv2 hA1 hA2 hA3 hT ht ht2 hq0 hr0
  obtain ⟨D, hD⟩ : ∃ D, D = lv us / lv vs := ⟨_, rfl⟩
  rw [← hD] at HQ1 ⊢
  have HD := hide hD
  clear hD
  go_enter Try.func98, Try.ntmps98
  go_wp2
  go_quiet (fail)
  go_wp2
  go_quiet (fail)
  go_wp2
  have HR0 := hide hr0I
  clear hq0I hr0I hor
  generalize hWW : World.drewN (World.drewN w _) _ = wq
  have HDw := hide (show Dr w wq by rw [← hWW]; exact ((Dr.refl w).drewN _).drewN _)
  have hcu2' : wq.cell? ⟨b, o + (m - 2), none⟩ = some (.int .u32 (u2 : Int)) := by rw [← hWW]; exact hcu2
  have hcv1' : wq.cell? ⟨b', o' + (m - 1), none⟩ = some (.int .u32 (v1 : Int)) := by rw [← hWW]; exact hcv1
  have hcv2' : wq.cell? ⟨b', o' + (m - 2), none⟩ = some (.int .u32 (v2 : Int)) := by rw [← hWW]; exact hcv2
  clear hWW hcu0 hcu1 hcu2 hcv1 hcv2
  go_loopw [7, 8] (fun qv rv wr => ∃ q r : Nat, q < 18446744073709551616 ∧ r < 4294967296 ∧ qv = .int .u64 (q : Int) ∧ rv = .int .u64 (r : Int) ∧ Hid (q * v1 + r = t) ∧ Hid (D ≤ q) ∧ Hid (Dr w wr) ∧ wr.cell? ⟨b, o + (m - 2), none⟩ = some (.int .u32 (u2 : Int)) ∧ wr.cell? ⟨b', o' + (m - 1), none⟩ = some (.int .u32 (v1 : Int)) ∧ wr.cell? ⟨b', o' + (m - 2), none⟩ = some (.int .u32 (v2 : Int))) (fun _ rv _ => 4294967296 - (intOf rv).toNat)
  case atStart => exact ⟨q0, r0, hq0l, by omega, rfl, vint HR0.out, HQ0, HQ1, HDw, hcu2', hcv1', hcv2'⟩
  case round =>
    obtain ⟨q, r, hql, hrl, rfl, rfl, HI, HG, HDr, hk0, hk1, hk2⟩ := hrel
    clear hcu2' hcv1' hcv2' HDw HQ0 HQ1 HR0
    have hor2 := or_32 r u2 hrl hu2l
    obtain ⟨R, hR⟩ : ∃ R : Nat, R = r * 4294967296 + u2 := ⟨_, rfl⟩
    have hR2 : (r : Int) * 4294967296 + (u2 : Int) = (R : Int) := by omega
    rw [hR2] at hor2
    have hRl : R < 18446744073709551616 := by omega
    by_cases hqB : 4294967296 ≤ q
    · have HN := hide (dec_mul HI.out (by omega))
      have HL := hide (show D < q by rw [HD.out]; exact HT.out.big hqB)
      have d1 : decide ((4294967296 : Int) ≤ (q : Int)) = true := decide_eq_true (by omega)
      clear hor2 hR hR2
      go_wp2
      go_quiet (fail)
      by_cases hbr : 4294967296 ≤ r + v1
      · have d3 : decide ((4294967296 : Int) ≤ (r : Int) + (v1 : Int)) = true := decide_eq_true (by omega)
        have HB := hide (HT.out.brk HN.out hbr)
        clear hbr
        go_wp2
        go_ret
        exact ⟨q - 1, by rw [Int.natCast_sub (by omega)]; rfl, HB.out.1, by have := HL.out; omega, by rw [HD.out]; exact HB.out.2, HDr.out.drewN _⟩
      · have d3 : decide ((4294967296 : Int) ≤ (r : Int) + (v1 : Int)) = false := decide_eq_false (by omega)
        go_wp2
        go_roundw
        case rel => exact ⟨q - 1, r + v1, by omega, by omega, vint (by omega), vint (by omega), HN, hide (by have := HL.out; omega), hide (HDr.out.drewN _), hk0, hk1, hk2⟩
        case measure => simp [intOf] <;> omega
    · have hqB' : q < 4294967296 := by omega
      have d1 : decide ((4294967296 : Int) ≤ (q : Int)) = false := decide_eq_false (by omega)
      obtain ⟨hp1, hp2⟩ := mul_le hqB' hv2l
      by_cases hlt : R < q * v2
      · have hq1 : 0 < q := by
          rcases Nat.eq_zero_or_pos q with h | h
          · rw [h] at hlt; omega
          · exact h
        have HN := hide (dec_mul HI.out hq1)
        have HL := hide (show D < q by rw [HD.out]; exact HT.out.dec HI.out (by omega))
        have d2 : decide ((R : Int) < (q : Int) * (v2 : Int)) = true := decide_eq_true (by rw [← toN]; omega)
        clear hR hR2 hlt
        go_wp2
        go_quiet (fail)
        by_cases hbr : 4294967296 ≤ r + v1
        · have d3 : decide ((4294967296 : Int) ≤ (r : Int) + (v1 : Int)) = true := decide_eq_true (by omega)
          have HB := hide (HT.out.brk HN.out hbr)
          clear hbr
          go_wp2
          go_ret
          exact ⟨q - 1, by rw [Int.natCast_sub (by omega)]; rfl, HB.out.1, by have := HL.out; omega, by rw [HD.out]; exact HB.out.2, HDr.out.drewN _⟩
        · have d3 : decide ((4294967296 : Int) ≤ (r : Int) + (v1 : Int)) = false := decide_eq_false (by omega)
          go_wp2
          go_roundw
          case rel => exact ⟨q - 1, r + v1, by omega, by omega, vint (by omega), vint (by omega), HN, hide (by have := HL.out; omega), hide (HDr.out.drewN _), hk0, hk1, hk2⟩
          case measure => simp [intOf] <;> omega
      · have d2 : decide ((R : Int) < (q : Int) * (v2 : Int)) = false := decide_eq_false (by rw [← toN]; omega)
        have HE := hide (show q ≤ D + 1 by rw [HD.out]; exact HT.out.le HI.out (by omega) hqB')
        clear hR hR2 hlt
        go_wp2
        go_quiet (fail)
        go_wp2
        go_ret
        exact ⟨q, rfl, hqB', HG.out, HE.out, HDr.out.drewN _⟩
end Go.Proofs.Ytnofljgmkdommaa

/- Contracts: limbs.reduce. -/
namespace Go.Proofs.Ytnofljgmkdommaa
open Go.RowKit

/-- us with n laid over it from j on. -/
def splice (us : List Nat) (j : Nat) (n : List Nat) : List Nat := us.take j ++ n ++ us.drop (j + n.length)
theorem splice_nil (us : List Nat) (j : Nat) : splice us j [] = us := by simp [splice]
theorem splice_len {us n : List Nat} {j : Nat} (h : j + n.length ≤ us.length) : (splice us j n).length = us.length := by
  simp [splice]; omega
theorem splice_set {us n : List Nat} {j d : Nat} (h : j + n.length < us.length) : (splice us j n).set (j + n.length) d = splice us j (n ++ [d]) := by
  unfold splice
  have e : (us.take j ++ n).length = j + n.length := by simp; omega
  rw [List.set_append_right _ _ (by rw [e]; omega), e, Nat.sub_self, List.drop_eq_getElem_cons h, List.set_cons_zero]
  simp [Nat.add_assoc]
theorem splice_get {us n : List Nat} {j i : Nat} (h : j + n.length ≤ us.length) (hi : n.length ≤ i) : (splice us j n)[j + i]? = us[j + i]? := by
  unfold splice
  have e : (us.take j ++ n).length = j + n.length := by simp; omega
  rw [List.getElem?_append_right (by rw [e]; omega), e, List.getElem?_drop]
  congr 1; omega
theorem splice_in {us n : List Nat} {j i : Nat} (h : j + n.length ≤ us.length) (hi : i < n.length) : (splice us j n)[j + i]? = n[i]? := by
  unfold splice
  have e : (us.take j ++ n).length = j + n.length := by simp; omega
  rw [List.getElem?_append_left (by rw [e]; omega), List.getElem?_append_right (by simp; omega)]
  congr 1
  simp; omega
theorem splice_splice {us n n' : List Nat} {j : Nat} (h : j + n.length ≤ us.length) (hl : n'.length = n.length) : splice (splice us j n) j n' = splice us j n' := by
  unfold splice
  have e1 : (us.take j).length = j := by simp; omega
  have e2 : (us.take j ++ n).length = j + n.length := by simp; omega
  have e3 : (us.take j ++ n ++ us.drop (j + n.length)).take j = us.take j := by
    rw [List.append_assoc, List.take_append_of_le_length (by omega), List.take_of_length_le (by omega)]
  have e4 : (us.take j ++ n ++ us.drop (j + n.length)).drop (j + n'.length) = us.drop (j + n'.length) := by
    rw [hl, List.drop_append_of_le_length (by omega), List.drop_of_length_le (by omega), List.nil_append]
  rw [e3, e4]
theorem seg_get {us : List Nat} {j m i : Nat} (h : i < m) : ((us.drop j).take m)[i]? = us[j + i]? := by
  rw [List.getElem?_take, if_pos h, List.getElem?_drop]
theorem dig_lt {q x c : Nat} (hq : q < 4294967296) (hx : x < 4294967296) (hc : c < 4294967296) : (q * x + c) / 4294967296 < 4294967296 ∧ q * x + c < 18446744073709551616 := by
  have : q * x ≤ 4294967295 * 4294967295 := Nat.mul_le_mul (by omega) (by omega)
  omega
theorem red_dig {q x c y b : Nat} (hy : y < 4294967296) (hb : b ≤ 1) : ∃ d w : Nat, d < 4294967296 ∧ w ≤ 1 ∧ IntKind.u64.wrap (IntKind.u64.wrap ((y : Int) - (b : Int)) - ((q : Int) * (x : Int) + (c : Int)) % 4294967296) % 4294967296 = (d : Int) ∧
    IntKind.u64.wrap (IntKind.u64.wrap ((y : Int) - (b : Int)) - ((q : Int) * (x : Int) + (c : Int)) % 4294967296) / 9223372036854775808 = (w : Int) ∧ d + b + (q * x + c) % 4294967296 = y + 4294967296 * w := by
  obtain ⟨d, w, h1, h2, h3, h4, h5⟩ := sub_dig (q := (q * x + c) % 4294967296) hy hb (by omega)
  have e : (((q * x + c) % 4294967296 : Nat) : Int) = ((q : Int) * (x : Int) + (c : Int)) % 4294967296 := by omega
  rw [e] at h3 h4
  exact ⟨d, w, h1, h2, h3, h4, h5⟩

set_option maxRecDepth 100000 in
set_option maxHeartbeats 4000000 in
theorem lreduce_any (w0 w : World) (g N C j m cu : Nat) (B : Option Addr) (d : Nat) (us vs : List Nat) (q : Nat) (hO : OF w0 w (some ⟨g, 0, none⟩) N C us) (hV : Ul w (some g) B m vs) (hj : j + m < N) (hN : N ≤ 4294967296) (hq : q < 4294967296)
    (hVp : 0 < lv vs) (h1 : lv ((us.drop j).take (m + 1)) / lv vs ≤ q) (h2 : q ≤ lv ((us.drop j).take (m + 1)) / lv vs + 1) :
    Calls Try.prog 97 #[.slice (some ⟨g, j, none⟩) (m + 1) cu, .slice B m d, .int .u64 (q : Int)] w fun e w' => ∃ (s : List Nat) (D : Nat), e = .returned (.int .u32 (D : Int)) ∧ Hid (D = lv ((us.drop j).take (m + 1)) / lv vs) ∧ D < 4294967296 ∧ s.length = m + 1 ∧ lv s = lv ((us.drop j).take (m + 1)) % lv vs ∧ OF w0 w' (some ⟨g, 0, none⟩) N C (splice us j s) ∧ Fr w w' (fun b => b = g) := by
  have HV := hide hV
  have HO := hide hO
  have HVP := hide hVp
  have HQ1 := hide h1
  have HQ2 := hide h2
  obtain ⟨S, hS⟩ : ∃ S, S = (us.drop j).take (m + 1) := ⟨_, rfl⟩
  rw [← hS] at HQ1 HQ2 ⊢
  have HS := hide hS
  have hSl : S.length = m + 1 := by rw [hS, List.length_take, List.length_drop]; have := hO.len; omega
  have HSL := hide hSl
  clear hV hO hVp h1 h2 hS hSl
  have hUN := hide HO.out.len
  go_enter Try.func97, Try.ntmps97
  go_wp2
  go_loopw [7, 8, 19] (fun bor car ix wr => ∃ (i b c : Nat) (n : List Nat), i ≤ m ∧ b ≤ 1 ∧ c < 4294967296 ∧ bor = .int .u64 (b : Int) ∧ car = .int .u64 (c : Int) ∧ ix = .int .i64 (i : Int) ∧ Hid (n.length = i) ∧ Hid (okL n) ∧ Hid (lv n + q * lv (vs.take i) = lv (S.take i) + 4294967296 ^ i * (c + b)) ∧ Hid (OF w0 wr (some ⟨g, 0, none⟩) N C (splice us j n)) ∧ Hid (Fr w wr (fun b => b = g))) (fun _ _ ix _ => m - (intOf ix).toNat)
  case atStart => exact ⟨0, 0, 0, [], by omega, by omega, by omega, rfl, rfl, rfl, hide rfl, hide okL_nil, hide (by simp [lv]), hide (by rw [splice_nil]; exact HO.out), hide (Fr.refl _ _)⟩
  case round =>
    obtain ⟨i, b, c, n, hi, hb, hc, rfl, rfl, rfl, HNL, HNK, HI, HO1, HF⟩ := hrel
    have HV1 := hide (HV.out.fr HF.out (fun _ b o _ hne h => hne (by rw [h])))
    obtain ⟨g', y, hg, -, hgl, hy, hyl, hcy, hfz⟩ := HO1.out.at (k := j + i) (by omega)
    obtain rfl : g = g' := by simpa using hg
    have hy2 : S[i]? = some y := by rw [HS.out, seg_get (by omega), ← splice_get (by rw [HNL.out, hUN.out]; omega) (Nat.le_of_eq HNL.out)]; exact hy
    have HY := hide hy2
    have hfz0 := hfz (j + i)
    clear hfz hy hg hy2
    by_cases him : i < m
    · obtain ⟨b2, o2, x, rfl, -, -, hx, hxl, hcx⟩ := HV1.out.at him
      have HX := hide hx
      clear hx
      have g1 : (0 : Int) ≤ (i : Int) := by omega
      have g2 : (i : Int) < (m : Int) := by omega
      have g3 : (i : Int) < (m : Int) + 1 := by omega
      obtain ⟨hm1, hm2⟩ := mul_le hq hxl
      obtain ⟨e, b', he, hb', r1, r2, r3⟩ := red_dig (q := q) (x := x) (c := c) hyl hb
      have R1 := hide r1
      have R2 := hide r2
      have R3 := hide r3
      obtain ⟨hd1, hd2⟩ := dig_lt hq hxl hc
      have hD1 := hide hd1
      clear r1 r2 r3 hd1 hd2
      go_wp2
      go_roundw
      case rel =>
        have hp := HO1.out.put (k := j + i) (x := e) (by omega) he
        rw [← R1.out, ← HNL.out, splice_set (by rw [HNL.out, hUN.out]; omega)] at hp
        refine ⟨i + 1, b', (q * x + c) / 4294967296, n ++ [e], by omega, hb', hD1.out, vint R2.out, vint (by omega), by go_num, hide (by simp [HNL.out]), hide (HNK.out.append (by intro z hz; simp at hz; omega)), hide (red_step HNL.out HX.out HY.out HI.out rfl R3.out), hide ?_, hide ?_⟩
        · rw [HNL.out] at hp; exact hp
        · exact Fr.setCell HF.out (Or.inr rfl) _
      case measure => simp [intOf] <;> omega
    · obtain rfl : i = m := by omega
      have g3 : (i : Int) < (i : Int) + 1 := by omega
      obtain ⟨e, b', he, hb', r1, r2, r3⟩ := sub_dig (q := c) hyl hb hc
      have R1 := hide r1
      have hput := HO1.out.put (k := j + i) (x := e) (by omega) he
      rw [← r1, ← HNL.out, splice_set (by rw [HNL.out, hUN.out]; omega)] at hput
      rw [HNL.out] at hput
      have HP := hide hput
      have hff := hide (Fr.setCell (p := ⟨g, j + i, none⟩) HF.out (Or.inr rfl) (.int .u32 (IntKind.u64.wrap (IntKind.u64.wrap ((y : Int) - (b : Int)) - (c : Int)) % 4294967296)))
      clear hput
      by_cases hb0 : b' = 0
      · subst hb0
        have d1 : (IntKind.u64.wrap (IntKind.u64.wrap ((y : Int) - (b : Int)) - (c : Int)) / 9223372036854775808 == 0) = true := by rw [r2]; rfl
        have he2 : e = y - b - c ∧ c + b ≤ y := by omega
        have HE := hide he2
        have g5 : (q : Int) % 4294967296 = (q : Int) := by omega
        clear r1 r2 r3 he2
        go_wp2
        go_ret
        have hr := red_no HNL.out HSL.out HV.out.len HY.out rfl rfl HI.out HE.out.2
        rw [← HE.out.1] at hr
        obtain ⟨hq3, hm3⟩ := red_q HVP.out HQ1.out hr
        exact ⟨n ++ [e], q, rfl, hide hq3, hq, by simp [HNL.out], hm3, HP.out, hff.out⟩
      · obtain rfl : b' = 1 := by omega
        have d1 : (IntKind.u64.wrap (IntKind.u64.wrap ((y : Int) - (b : Int)) - (c : Int)) / 9223372036854775808 == 0) = false := by rw [r2]; rfl
        have HE := hide r3
        clear r1 r2 r3
        go_wp2
        generalize hWW : World.setCell wr _ _ = wq
        rw [hWW] at HP hff
        clear hWW hcy hfz0 d1 HO1 HF HV1 R1
        have hRl : (splice us j (n ++ [e])).length = N := by rw [splice_len (by simp [HNL.out, hUN.out]; omega), hUN.out]
        have HRL := hide hRl
        obtain ⟨R, hR⟩ : ∃ R, R = splice us j (n ++ [e]) := ⟨_, rfl⟩
        rw [← hR] at HP HRL
        have HR := hide hR
        clear hRl hR
        go_loopw [8, 74] (fun car ix wr => ∃ (i' c' : Nat) (n' : List Nat), i' ≤ i ∧ c' ≤ 1 ∧ car = .int .u64 (c' : Int) ∧ ix = .int .i64 (i' : Int) ∧ Hid (n'.length = i') ∧ Hid (okL n') ∧ Hid (lv n' + 4294967296 ^ i' * c' = lv (n.take i') + lv (vs.take i')) ∧ Hid (OF w0 wr (some ⟨g, 0, none⟩) N C (splice R j n')) ∧ Hid (Fr w wr (fun b => b = g))) (fun _ ix _ => i - (intOf ix).toNat)
        case atStart => exact ⟨0, 0, [], by omega, by omega, rfl, rfl, hide rfl, hide okL_nil, hide (by simp [lv]), hide (by rw [splice_nil]; exact HP.out), hff⟩
        case round =>
          obtain ⟨i', c', n', hi', hc', rfl, rfl, HNL2, HNK2, HI2, HO2, HF2⟩ := hrel
          have HV2 := hide (HV.out.fr HF2.out (fun _ b o _ hne h => hne (by rw [h])))
          obtain ⟨g', z, hg, -, hgl2, hz, hzl, hcz, hfz⟩ := HO2.out.at (k := j + i') (by omega)
          obtain rfl : g = g' := by simpa using hg
          have hz2 : (n ++ [e])[i']? = some z := by
            rw [splice_get (by rw [HNL2.out, HRL.out]; omega) (Nat.le_of_eq HNL2.out), HR.out, splice_in (by simp [HNL.out, hUN.out]; omega) (by simp [HNL.out]; omega)] at hz
            exact hz
          have HZ := hide hz2
          have hfz0 := hfz (j + i')
          clear hfz hz hg hz2
          by_cases him2 : i' < i
          · obtain ⟨b2, o2, x, rfl, -, -, hx, hxl, hcx⟩ := HV2.out.at him2
            have HX := hide hx
            clear hx
            have g1 : (0 : Int) ≤ (i' : Int) := by omega
            have g2 : (i' : Int) < (i : Int) := by omega
            have g4 : (i' : Int) < (i : Int) + 1 := by omega
            have HZ2 := hide (show n[i']? = some z by
              have h := HZ.out
              rwa [List.getElem?_append_left (by rw [HNL.out]; omega)] at h)
            go_wp2
            go_roundw
            case rel =>
              have hp := HO2.out.put (k := j + i') (x := (z + x + c') % 4294967296) (by omega) (by omega)
              have e2 : (((z + x + c') % 4294967296 : Nat) : Int) = ((z : Int) + (x : Int) + (c' : Int)) % 4294967296 := by omega
              rw [e2, ← HNL2.out, splice_set (by rw [HNL2.out, HRL.out]; omega)] at hp
              rw [HNL2.out] at hp
              refine ⟨i' + 1, (z + x + c') / 4294967296, n' ++ [(z + x + c') % 4294967296], by omega, by omega, vint (by omega), by go_num, hide (by simp [HNL2.out]), hide (HNK2.out.append (by intro z hz; simp at hz; omega)), hide (back_step HNL2.out HX.out HZ2.out HI2.out rfl), hide hp, hide (Fr.setCell HF2.out (Or.inr rfl) _)⟩
            case measure => simp [intOf] <;> omega
          · obtain rfl : i' = i := by omega
            obtain rfl : z = e := by
              have h := HZ.out
              rw [List.getElem?_append_right (by rw [HNL.out]; omega), HNL.out, Nat.sub_self] at h
              simpa using h.symm
            have g5 : (c' : Int) % 4294967296 = (c' : Int) := by omega
            have hi2 := HI2.out
            rw [List.take_of_length_le (by have := HNL.out; omega), List.take_of_length_le (by have := HV.out.len; omega)] at hi2
            have hbe := back_end (n' := n') (c' := c') (z := (z + c') % 4294967296) HNK.out HNK2.out HNL.out HNL2.out HSL.out HV.out.len HY.out rfl rfl HI.out hi2 (by have := HE.out; omega) (by omega) ⟨(z + c') / 4294967296, by have := HE.out; omega⟩ HQ2.out HVP.out (by have := lv_lt HV.out.ok; rwa [HV.out.len] at this)
            have HB := hide hbe
            have hq1 : 1 ≤ q := by rw [hbe.1]; exact Nat.le_add_left 1 _
            have g6 : ((q : Int) - 1) % 4294967296 = (q : Int) - 1 := by omega
            have hp := HO2.out.put (k := j + i') (x := (z + c') % 4294967296) (by omega) (by omega)
            rw [← HNL2.out, splice_set (by rw [HNL2.out, HRL.out]; omega), HR.out, splice_splice (by simp [HNL.out, hUN.out]; omega) (by simp [HNL.out, HNL2.out])] at hp
            rw [HNL2.out] at hp
            have g7 : IntKind.u32.wrap ((z : Int) + (c' : Int)) = (((z + c') % 4294967296 : Nat) : Int) := by rw [IntKind.wrap_u32]; omega
            have HPP := hide hp
            clear hbe hi2 hp
            go_wp2
            go_ret
            exact ⟨n' ++ [(z + c') % 4294967296], q - 1, by rw [Int.natCast_sub hq1]; rfl, hide (by have := HB.out.1; generalize lv S / lv vs = D at *; omega), by omega, by simp [HNL2.out], HB.out.2, HPP.out, Fr.setCell HF2.out (Or.inr rfl) _⟩
end Go.Proofs.Ytnofljgmkdommaa
