/- Contracts of the functions that these laws reach: part 14: Contracts: fraction.Sum; Plain law: the chances of all sequences of n outcomes, by their numbers of failures. -/
import Derived.Test.YtclflfglhbkfkaaG13
set_option linter.unusedVariables false
set_option linter.unusedSimpArgs false

/- Contracts: fraction.Sum. -/
namespace Go.Proofs.Ytclflfglhbkfkaa
open Go.RowKit

theorem fcheck_ok (w : World) (a : Fa) (r : Rat) (ha : Fo w a (some r)) : Calls Try.prog 46 #[.agg #[.slice a.A a.n a.c, .slice a.B a.m a.d]] w fun e w' => e = .returned (.bool true) ∧ Below w.heap.size w w' := by
  have h := fcheck_any w a _ _ ha.1
  rwa [fracOf_self ha.2] at h
set_option maxRecDepth 100000 in
set_option maxHeartbeats 8000000 in
theorem fsum_ok (w : World) (A : Option Addr) (n c : Nat) (fs : List Fa) (os : List Rat) (hS : FSl w A n fs os) (hn : n ≤ 4294967296) (hfit : ∀ j, j ≤ n → fitsR (sumQ (os.take j)) = true) :
    Calls Try.prog 39 #[.slice A n c] w fun e w' => RetV w (sumQ os) e w' := by
  have HS := hide hS
  have HFT := hide hfit
  clear hS hfit
  go_enter Try.func39, Try.ntmps39
  go_upto_region 1 with (fail)
  generalize hW : World.alloc w _ = v
  have HR := hide (show Rb v w.heap.size by rw [← hW]; exact Rb.mk0 _ rfl)
  have HBV := hide (show Below w.heap.size w v by rw [← hW]; exact (Below.refl _ _).alloc (Nat.le_refl _) _)
  clear hW
  go_wp2_with fail
  go_loopw [8] (fun i wr => ∃ (j : Nat), i = .int .i64 (j : Int) ∧ j ≤ n ∧ Hid (Below w.heap.size w wr) ∧ Hid (Rb wr w.heap.size)) (fun i _ => n - (intOf i).toNat)
  case atStart => exact ⟨0, rfl, by omega, HBV, HR⟩
  case round =>
    obtain ⟨j, rfl, hj, HB, HR⟩ := hrel
    obtain ⟨r0, r1, rf, rz, -⟩ := HR.out
    by_cases hjn : j = n
    · subst hjn
      have HSr := hide (HS.out.below HB.out)
      go_wp2_with (go_at_call 71; (with_reducible refine (ffold_ok _ A j c fs os HSr.out hn HFT.out).mono ?_); rintro e w1 ⟨c1, rfl, ho, hb⟩; have HO := hide ho; have HB1 := hide (HB.out.trans (hb.mono HB.out.size)); have HR1 := hide (HR.out.below hb); obtain ⟨z0, z1, zf, zz, -⟩ := HR1.out; clear ho hb)
      refine bodyPost_ret (v := .tuple #[.agg #[.slice c1.A c1.n c1.c, .slice c1.B c1.m c1.d], .int .i64 0]) (by simp [results, Try.results39, go_sem, *]) rfl ⟨c1, rfl, HO.out.put2 HR1.out.nb _ _ (by simp), Rb.end0 HB1.out (Nat.le_refl _) _ _⟩
    · have hjl : j < n := by omega
      have hlt : (j : Int) < (n : Int) := by omega
      have hj0 : (0 : Int) ≤ (j : Int) := by omega
      obtain ⟨b, o, x, r, rfl, hb, -, -, hox, cx0, cx1⟩ := (HS.out.below HB.out).at hjl
      have HOX := hide hox
      clear hox
      go_wp2_with (go_at_call 46; (with_reducible refine (fcheck_ok _ x r (HOX.out.alloc _)).mono ?_); rintro e w2 ⟨rfl, hb⟩; have HB2 := hide ((HB.out.alloc HB.out.size _).trans (hb.mono (by have := HB.out.size; simp; omega))); have HR2 := hide ((HR.out.bq.alloc _).below hb).rb; clear hb)
      go_roundw
      case rel => exact ⟨j + 1, by go_num, by omega, HB2, HR2⟩
      case measure => simp [intOf]; omega
end Go.Proofs.Ytclflfglhbkfkaa

/- Plain law: the chances of all sequences of n outcomes, by their numbers of failures. -/
namespace Go.Proofs.Ytclflfglhbkfkaa

def cntL (l : List Bool) : Nat := l.count true
theorem cntL_snoc (l : List Bool) (b : Bool) : cntL (l ++ [b]) = cntL l + if b then 1 else 0 := by
  unfold cntL
  rw [List.count_append]
  cases b <;> simp
theorem bit_hi {n y i : Nat} (hi : i < n) : (2 ^ n + y) / 2 ^ i % 2 = y / 2 ^ i % 2 := by
  obtain ⟨k, rfl⟩ : ∃ k, n = i + (k + 1) := ⟨n - i - 1, by omega⟩
  have hp : 0 < 2 ^ i := Nat.pow_pos (by omega)
  rw [Nat.pow_add, Nat.add_comm, Nat.add_mul_div_left _ _ hp, Nat.pow_succ]
  omega
theorem bitL_hi (n y : Nat) : bitL (2 ^ n + y) n = bitL y n := by
  unfold bitL
  apply List.map_congr_left
  intro i hi
  rw [bit_hi (by simpa using hi)]
theorem bitL_top {n y : Nat} (hy : y < 2 ^ n) : bitL (2 ^ n + y) (n + 1) = bitL y n ++ [true] := by
  rw [bitL_succ, bitL_hi]
  have hp : 0 < 2 ^ n := Nat.pow_pos (by omega)
  have : (2 ^ n + y) / 2 ^ n = 1 := by
    have := Nat.add_mul_div_left y 1 hp
    rw [Nat.mul_one, Nat.div_eq_of_lt hy] at this
    rw [Nat.add_comm]; omega
  rw [this]
  rfl
theorem bitL_low {n y : Nat} (hy : y < 2 ^ n) : bitL y (n + 1) = bitL y n ++ [false] := by
  rw [bitL_succ, Nat.div_eq_of_lt hy]
  rfl
/-- The chances of the sequences with the numbers below m whose number of failures counts. -/
def trm (r : Rat) (n : Nat) (f : Nat → Bool) (m : Nat) : List Rat := ((List.range m).filter fun x => f (cntL (bitL x n))).map fun x => sqL r (bitL x n)
theorem trm_succ (r : Rat) (n : Nat) (f : Nat → Bool) (m : Nat) : trm r n f (m + 1) = if f (cntL (bitL m n)) then trm r n f m ++ [sqL r (bitL m n)] else trm r n f m := by
  unfold trm
  rw [List.range_succ, List.filter_append, List.map_append]
  cases h : f (cntL (bitL m n)) <;> simp [h]
theorem sum_trm (r : Rat) (n : Nat) (f : Nat → Bool) (m : Nat) : sumQ (trm r n f (m + 1)) = sumQ (trm r n f m) + if f (cntL (bitL m n)) then sqL r (bitL m n) else 0 := by
  rw [trm_succ]
  split
  · exact sumQ_snoc _ _
  · grind
theorem sqL_snoc (r : Rat) (l : List Bool) (b : Bool) : sqL r (l ++ [b]) = sqL r l * (if b then r else 1 - r) := sqF_snoc r 1 l b
theorem trm_low (r : Rat) (n : Nat) (f : Nat → Bool) : ∀ m, m ≤ 2 ^ n → sumQ (trm r (n + 1) f m) = (1 - r) * sumQ (trm r n f m)
  | 0, _ => by show (0 : Rat) = (1 - r) * 0; grind
  | m + 1, h => by
    rw [sum_trm, sum_trm, trm_low r n f m (by omega), bitL_low (by omega), cntL_snoc, sqL_snoc]
    simp only [Bool.false_eq_true, if_false, Nat.add_zero]
    split <;> grind
theorem trm_high (r : Rat) (n : Nat) (f : Nat → Bool) : ∀ m, m ≤ 2 ^ n → sumQ (trm r (n + 1) f (2 ^ n + m)) = sumQ (trm r (n + 1) f (2 ^ n)) + r * sumQ (trm r n (fun i => f (i + 1)) m)
  | 0, _ => by show _ = _ + r * 0; rw [Nat.add_zero]; grind
  | m + 1, h => by
    rw [← Nat.add_assoc, sum_trm, sum_trm, trm_high r n f m (by omega), bitL_top (by omega), cntL_snoc, sqL_snoc]
    simp only [if_true]
    split <;> grind
theorem trm_tot (r : Rat) : ∀ (n : Nat) (f : Nat → Bool), sumQ (trm r n f (2 ^ n)) = tot r n f
  | 0, f => by
    rw [tot_zero, Nat.pow_zero, sum_trm]
    show (0 : Rat) + (if f 0 then (1 : Rat) else 0) = _
    grind
  | n + 1, f => by
    have h := trm_high r n f (2 ^ n) (Nat.le_refl _)
    rw [← Nat.two_mul, Nat.mul_comm, ← Nat.pow_succ, trm_low r n f _ (Nat.le_refl _), trm_tot r n f, trm_tot r n] at h
    rw [h, tot_step]
    grind
theorem trm_len (r : Rat) (n : Nat) (f : Nat → Bool) (m : Nat) : (trm r n f m).length ≤ m := by
  unfold trm
  rw [List.length_map]
  exact Nat.le_trans (List.length_filter_le _ _) (by simp)
theorem trm_mem {r : Rat} {n : Nat} {f : Nat → Bool} {m : Nat} {y : Rat} (h : y ∈ trm r n f m) : ∃ x, y = sqL r (bitL x n) := by
  unfold trm at h
  obtain ⟨x, -, rfl⟩ := List.mem_map.1 h
  exact ⟨x, rfl⟩
theorem sumQ_add (a : List Rat) : ∀ b : List Rat, sumQ (a ++ b) = sumQ a + sumQ b := by
  have g : ∀ (b : List Rat) (x : Rat), b.foldl (· + ·) x = x + b.foldl (· + ·) 0 := by
    intro b
    induction b with
    | nil => intro x; simp; grind
    | cons y b ih => intro x; simp only [List.foldl_cons]; rw [ih (x + y), ih (0 + y)]; grind
  intro b
  unfold sumQ
  rw [List.foldl_append, g]
theorem sumQ_nonneg {l : List Rat} (h : ∀ y ∈ l, 0 ≤ y) : 0 ≤ sumQ l := by
  induction l with
  | nil => exact Rat.le_refl
  | cons y l ih =>
    have := sumQ_add [y] l
    rw [List.singleton_append] at this
    rw [this]
    have e : sumQ [y] = y := by show (0 : Rat) + y = y; grind
    rw [e]
    exact Rat.add_nonneg (h y (by simp)) (ih (fun z hz => h z (by simp [hz])))
theorem sumQ_sc {d n : Nat} {l : List Rat} (h : ∀ y ∈ l, Sc d n y) : Sc d n (sumQ l) := by
  induction l with
  | nil => exact (Sc.nat d 0).le (Nat.zero_le n)
  | cons y l ih =>
    have := sumQ_add [y] l
    rw [List.singleton_append] at this
    rw [this]
    have e : sumQ [y] = y := by show (0 : Rat) + y = y; grind
    rw [e]
    exact (h y (by simp)).add (ih (fun z hz => h z (by simp [hz])))
theorem tot_le_one {r : Rat} (h : Chn r) (n : Nat) (f : Nat → Bool) : tot r n f ≤ 1 := sm_le_one h.h0 h.h1 n f (Nat.le_refl _)
theorem trm_fit {r : Rat} (h : Chn r) {n : Nat} (hn : n ≤ 32) (f : Nat → Bool) (j : Nat) : fitsR (sumQ ((trm r n f (2 ^ n)).take j)) = true := by
  have hel : ∀ y ∈ trm r n f (2 ^ n), Sc r.den n y ∧ 0 ≤ y := fun y hy => by
    obtain ⟨x, rfl⟩ := trm_mem hy
    have h1 := sqF_ok h (bitL x n) 1 0 (by simpa using Sc.nat r.den 1) (by decide) Rat.le_refl
    rw [bitL_len, Nat.zero_add] at h1
    exact ⟨h1.1, h1.2.1⟩
  have hs := sumQ_add ((trm r n f (2 ^ n)).take j) ((trm r n f (2 ^ n)).drop j)
  rw [List.take_append_drop, trm_tot] at hs
  have hd := sumQ_nonneg (l := (trm r n f (2 ^ n)).drop j) (fun y hy => (hel y (List.mem_of_mem_drop hy)).2)
  have ht := tot_le_one h n f
  refine h.fit (sumQ_sc (fun y hy => (hel y (List.mem_of_mem_take hy)).1)) (by omega) (Rat.le_trans ?_ one32)
  grind
/-- How many there are. -/
theorem trm_num (r : Rat) (n k : Nat) : ((trm r n (fun i => decide (i = k)) (2 ^ n)).length) = ch n k := by
  have low : ∀ (n : Nat) (f : Nat → Bool) (m : Nat), m ≤ 2 ^ n → (trm r (n + 1) f m).length = (trm r n f m).length := by
    intro n f m
    induction m with
    | zero => intro _; rfl
    | succ m ih =>
      intro h
      rw [trm_succ, trm_succ, bitL_low (by omega), cntL_snoc]
      simp only [Bool.false_eq_true, if_false, Nat.add_zero]
      split <;> simp [ih (by omega)]
  have high : ∀ (n : Nat) (f : Nat → Bool) (m : Nat), m ≤ 2 ^ n → (trm r (n + 1) f (2 ^ n + m)).length = (trm r (n + 1) f (2 ^ n)).length + (trm r n (fun i => f (i + 1)) m).length := by
    intro n f m
    induction m with
    | zero => intro _; rfl
    | succ m ih =>
      intro h
      rw [← Nat.add_assoc, trm_succ, trm_succ, bitL_top (by omega), cntL_snoc]
      simp only [if_true]
      split <;> simp [ih (by omega)] <;> omega
  have all : ∀ (n : Nat) (f : Nat → Bool), (trm r (n + 1) f (2 ^ (n + 1))).length = (trm r n f (2 ^ n)).length + (trm r n (fun i => f (i + 1)) (2 ^ n)).length := by
    intro n f
    have h := high n f (2 ^ n) (Nat.le_refl _)
    rwa [← Nat.two_mul, Nat.mul_comm, ← Nat.pow_succ, low n f _ (Nat.le_refl _)] at h
  have none : ∀ (n : Nat), (trm r n (fun _ => false) (2 ^ n)).length = 0 := by
    intro n
    unfold trm
    simp
  induction n generalizing k with
  | zero =>
    cases k with
    | zero => rfl
    | succ k => rfl
  | succ n ih =>
    rw [all, ih]
    cases k with
    | zero =>
      have : (fun i : Nat => decide (i + 1 = 0)) = fun _ => false := by funext i; simp
      rw [this, none, ch_zero, ch_zero]
    | succ k =>
      have : (fun i : Nat => decide (i + 1 = k + 1)) = fun i => decide (i = k) := by funext i; simp
      rw [this, ih]
      show _ = ch n k + ch n (k + 1)
      omega
end Go.Proofs.Ytclflfglhbkfkaa
