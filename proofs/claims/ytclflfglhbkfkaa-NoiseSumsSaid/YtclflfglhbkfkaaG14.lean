/- Contracts of the functions that these laws reach: part 14: Contracts: fraction.Sum; Plain law: the chances of all sequences of n outcomes, by their numbers of failures; The walk of the law NoiseWhole: the statement with two calls; Contracts: noise.Choose; Contracts: natural.Uint. -/
import Derived.Test.YtclflfglhbkfkaaG13
import Derived.Test.YtclflfglhbkfkaaG12
set_option linter.unusedVariables false
set_option linter.unusedSimpArgs false

/- Contracts: fraction.Sum. -/
namespace Go.Proofs.Ytclflfglhbkfkaa
open Go.RowKit

theorem fcheck_ok (w : World) (a : Fa) (r : Rat) (ha : Fo w a (some r)) : Calls Try.prog 46 #[.agg #[.slice a.A a.n a.c, .slice a.B a.m a.d]] w fun e w' => e = .returned (.bool true) ∧ Below w.heap.size w w' := by
  have h := fcheck_any w a _ _ ha.1
  rwa [fracOf_self ha.2] at h
set_option maxRecDepth 100000 in
set_option maxHeartbeats 8000000 in
theorem fsum_ok (w : World) (A : Option Addr) (n c : Nat) (fs : List Fa) (os : List Rat) (hS : FSl w A n fs os) (hn : n ≤ 4294967296) (hfit : ∀ j, j ≤ n → fitsR (sumQ (os.take j)) = true) :
    Calls Try.prog 39 #[.slice A n c] w fun e w' => RetV w (sumQ os) e w' := by
  have HS := hide hS
  have HFT := hide hfit
  clear hS hfit
  go_enter Try.func39, Try.ntmps39
  go_upto_region 1 with (fail)
  generalize hW : World.alloc w _ = v
  have HR := hide (show Rb v w.heap.size by rw [← hW]; exact Rb.mk0 _ rfl)
  have HBV := hide (show Below w.heap.size w v by rw [← hW]; exact (Below.refl _ _).alloc (Nat.le_refl _) _)
  clear hW
  go_wp2_with fail
  go_loopw [8] (fun i wr => ∃ (j : Nat), i = .int .i64 (j : Int) ∧ j ≤ n ∧ Hid (Below w.heap.size w wr) ∧ Hid (Rb wr w.heap.size)) (fun i _ => n - (intOf i).toNat)
  case atStart => exact ⟨0, rfl, by omega, HBV, HR⟩
  case round =>
    obtain ⟨j, rfl, hj, HB, HR⟩ := hrel
    obtain ⟨r0, r1, rf, rz, -⟩ := HR.out
    by_cases hjn : j = n
    · subst hjn
      have HSr := hide (HS.out.below HB.out)
      go_wp2_with (go_at_call 71; (with_reducible refine (ffold_ok _ A j c fs os HSr.out hn HFT.out).mono ?_); rintro e w1 ⟨c1, rfl, ho, hb⟩; have HO := hide ho; have HB1 := hide (HB.out.trans (hb.mono HB.out.size)); have HR1 := hide (HR.out.below hb); obtain ⟨z0, z1, zf, zz, -⟩ := HR1.out; clear ho hb)
      refine bodyPost_ret (v := .tuple #[.agg #[.slice c1.A c1.n c1.c, .slice c1.B c1.m c1.d], .int .i64 0]) (by simp [results, Try.results39, go_sem, *]) rfl ⟨c1, rfl, HO.out.put2 HR1.out.nb _ _ (by simp), Rb.end0 HB1.out (Nat.le_refl _) _ _⟩
    · have hjl : j < n := by omega
      have hlt : (j : Int) < (n : Int) := by omega
      have hj0 : (0 : Int) ≤ (j : Int) := by omega
      obtain ⟨b, o, x, r, rfl, hb, -, -, hox, cx0, cx1⟩ := (HS.out.below HB.out).at hjl
      have HOX := hide hox
      clear hox
      go_wp2_with (go_at_call 46; (with_reducible refine (fcheck_ok _ x r (HOX.out.alloc _)).mono ?_); rintro e w2 ⟨rfl, hb⟩; have HB2 := hide ((HB.out.alloc HB.out.size _).trans (hb.mono (by have := HB.out.size; simp; omega))); have HR2 := hide ((HR.out.bq.alloc _).below hb).rb; clear hb)
      go_roundw
      case rel => exact ⟨j + 1, by go_num, by omega, HB2, HR2⟩
      case measure => simp [intOf]; omega
end Go.Proofs.Ytclflfglhbkfkaa

/- Plain law: the chances of all sequences of n outcomes, by their numbers of failures. -/
namespace Go.Proofs.Ytclflfglhbkfkaa

def cntL (l : List Bool) : Nat := l.count true
theorem cntL_snoc (l : List Bool) (b : Bool) : cntL (l ++ [b]) = cntL l + if b then 1 else 0 := by
  unfold cntL
  rw [List.count_append]
  cases b <;> simp
theorem bit_hi {n y i : Nat} (hi : i < n) : (2 ^ n + y) / 2 ^ i % 2 = y / 2 ^ i % 2 := by
  obtain ⟨k, rfl⟩ : ∃ k, n = i + (k + 1) := ⟨n - i - 1, by omega⟩
  have hp : 0 < 2 ^ i := Nat.pow_pos (by omega)
  rw [Nat.pow_add, Nat.add_comm, Nat.add_mul_div_left _ _ hp, Nat.pow_succ]
  omega
theorem bitL_hi (n y : Nat) : bitL (2 ^ n + y) n = bitL y n := by
  unfold bitL
  apply List.map_congr_left
  intro i hi
  rw [bit_hi (by simpa using hi)]
theorem bitL_top {n y : Nat} (hy : y < 2 ^ n) : bitL (2 ^ n + y) (n + 1) = bitL y n ++ [true] := by
  rw [bitL_succ, bitL_hi]
  have hp : 0 < 2 ^ n := Nat.pow_pos (by omega)
  have : (2 ^ n + y) / 2 ^ n = 1 := by
    have := Nat.add_mul_div_left y 1 hp
    rw [Nat.mul_one, Nat.div_eq_of_lt hy] at this
    rw [Nat.add_comm]; omega
  rw [this]
  rfl
theorem bitL_low {n y : Nat} (hy : y < 2 ^ n) : bitL y (n + 1) = bitL y n ++ [false] := by
  rw [bitL_succ, Nat.div_eq_of_lt hy]
  rfl
/-- The chances of the sequences with the numbers below m whose number of failures counts. -/
def trm (r : Rat) (n : Nat) (f : Nat → Bool) (m : Nat) : List Rat := ((List.range m).filter fun x => f (cntL (bitL x n))).map fun x => sqL r (bitL x n)
theorem trm_succ (r : Rat) (n : Nat) (f : Nat → Bool) (m : Nat) : trm r n f (m + 1) = if f (cntL (bitL m n)) then trm r n f m ++ [sqL r (bitL m n)] else trm r n f m := by
  unfold trm
  rw [List.range_succ, List.filter_append, List.map_append]
  cases h : f (cntL (bitL m n)) <;> simp [h]
theorem sum_trm (r : Rat) (n : Nat) (f : Nat → Bool) (m : Nat) : sumQ (trm r n f (m + 1)) = sumQ (trm r n f m) + if f (cntL (bitL m n)) then sqL r (bitL m n) else 0 := by
  rw [trm_succ]
  split
  · exact sumQ_snoc _ _
  · grind
theorem sqL_snoc (r : Rat) (l : List Bool) (b : Bool) : sqL r (l ++ [b]) = sqL r l * (if b then r else 1 - r) := sqF_snoc r 1 l b
theorem trm_low (r : Rat) (n : Nat) (f : Nat → Bool) : ∀ m, m ≤ 2 ^ n → sumQ (trm r (n + 1) f m) = (1 - r) * sumQ (trm r n f m)
  | 0, _ => by show (0 : Rat) = (1 - r) * 0; grind
  | m + 1, h => by
    rw [sum_trm, sum_trm, trm_low r n f m (by omega), bitL_low (by omega), cntL_snoc, sqL_snoc]
    simp only [Bool.false_eq_true, if_false, Nat.add_zero]
    split <;> grind
theorem trm_high (r : Rat) (n : Nat) (f : Nat → Bool) : ∀ m, m ≤ 2 ^ n → sumQ (trm r (n + 1) f (2 ^ n + m)) = sumQ (trm r (n + 1) f (2 ^ n)) + r * sumQ (trm r n (fun i => f (i + 1)) m)
  | 0, _ => by show _ = _ + r * 0; rw [Nat.add_zero]; grind
  | m + 1, h => by
    rw [← Nat.add_assoc, sum_trm, sum_trm, trm_high r n f m (by omega), bitL_top (by omega), cntL_snoc, sqL_snoc]
    simp only [if_true]
    split <;> grind
theorem trm_tot (r : Rat) : ∀ (n : Nat) (f : Nat → Bool), sumQ (trm r n f (2 ^ n)) = tot r n f
  | 0, f => by
    rw [tot_zero, Nat.pow_zero, sum_trm]
    show (0 : Rat) + (if f 0 then (1 : Rat) else 0) = _
    grind
  | n + 1, f => by
    have h := trm_high r n f (2 ^ n) (Nat.le_refl _)
    rw [← Nat.two_mul, Nat.mul_comm, ← Nat.pow_succ, trm_low r n f _ (Nat.le_refl _), trm_tot r n f, trm_tot r n] at h
    rw [h, tot_step]
    grind
theorem trm_len (r : Rat) (n : Nat) (f : Nat → Bool) (m : Nat) : (trm r n f m).length ≤ m := by
  unfold trm
  rw [List.length_map]
  exact Nat.le_trans (List.length_filter_le _ _) (by simp)
theorem trm_mem {r : Rat} {n : Nat} {f : Nat → Bool} {m : Nat} {y : Rat} (h : y ∈ trm r n f m) : ∃ x, y = sqL r (bitL x n) := by
  unfold trm at h
  obtain ⟨x, -, rfl⟩ := List.mem_map.1 h
  exact ⟨x, rfl⟩
theorem sumQ_add (a : List Rat) : ∀ b : List Rat, sumQ (a ++ b) = sumQ a + sumQ b := by
  have g : ∀ (b : List Rat) (x : Rat), b.foldl (· + ·) x = x + b.foldl (· + ·) 0 := by
    intro b
    induction b with
    | nil => intro x; simp; grind
    | cons y b ih => intro x; simp only [List.foldl_cons]; rw [ih (x + y), ih (0 + y)]; grind
  intro b
  unfold sumQ
  rw [List.foldl_append, g]
theorem sumQ_nonneg {l : List Rat} (h : ∀ y ∈ l, 0 ≤ y) : 0 ≤ sumQ l := by
  induction l with
  | nil => exact Rat.le_refl
  | cons y l ih =>
    have := sumQ_add [y] l
    rw [List.singleton_append] at this
    rw [this]
    have e : sumQ [y] = y := by show (0 : Rat) + y = y; grind
    rw [e]
    exact Rat.add_nonneg (h y (by simp)) (ih (fun z hz => h z (by simp [hz])))
theorem sumQ_sc {d n : Nat} {l : List Rat} (h : ∀ y ∈ l, Sc d n y) : Sc d n (sumQ l) := by
  induction l with
  | nil => exact (Sc.nat d 0).le (Nat.zero_le n)
  | cons y l ih =>
    have := sumQ_add [y] l
    rw [List.singleton_append] at this
    rw [this]
    have e : sumQ [y] = y := by show (0 : Rat) + y = y; grind
    rw [e]
    exact (h y (by simp)).add (ih (fun z hz => h z (by simp [hz])))
theorem tot_le_one {r : Rat} (h : Chn r) (n : Nat) (f : Nat → Bool) : tot r n f ≤ 1 := sm_le_one h.h0 h.h1 n f (Nat.le_refl _)
theorem trm_fit {r : Rat} (h : Chn r) {n : Nat} (hn : n ≤ 32) (f : Nat → Bool) (j : Nat) : fitsR (sumQ ((trm r n f (2 ^ n)).take j)) = true := by
  have hel : ∀ y ∈ trm r n f (2 ^ n), Sc r.den n y ∧ 0 ≤ y := fun y hy => by
    obtain ⟨x, rfl⟩ := trm_mem hy
    have h1 := sqF_ok h (bitL x n) 1 0 (by simpa using Sc.nat r.den 1) (by decide) Rat.le_refl
    rw [bitL_len, Nat.zero_add] at h1
    exact ⟨h1.1, h1.2.1⟩
  have hs := sumQ_add ((trm r n f (2 ^ n)).take j) ((trm r n f (2 ^ n)).drop j)
  rw [List.take_append_drop, trm_tot] at hs
  have hd := sumQ_nonneg (l := (trm r n f (2 ^ n)).drop j) (fun y hy => (hel y (List.mem_of_mem_drop hy)).2)
  have ht := tot_le_one h n f
  refine h.fit (sumQ_sc (fun y hy => (hel y (List.mem_of_mem_take hy)).1)) (by omega) (Rat.le_trans ?_ one32)
  grind
/-- How many there are. -/
theorem trm_num (r : Rat) (n k : Nat) : ((trm r n (fun i => decide (i = k)) (2 ^ n)).length) = ch n k := by
  have low : ∀ (n : Nat) (f : Nat → Bool) (m : Nat), m ≤ 2 ^ n → (trm r (n + 1) f m).length = (trm r n f m).length := by
    intro n f m
    induction m with
    | zero => intro _; rfl
    | succ m ih =>
      intro h
      rw [trm_succ, trm_succ, bitL_low (by omega), cntL_snoc]
      simp only [Bool.false_eq_true, if_false, Nat.add_zero]
      split <;> simp [ih (by omega)]
  have high : ∀ (n : Nat) (f : Nat → Bool) (m : Nat), m ≤ 2 ^ n → (trm r (n + 1) f (2 ^ n + m)).length = (trm r (n + 1) f (2 ^ n)).length + (trm r n (fun i => f (i + 1)) m).length := by
    intro n f m
    induction m with
    | zero => intro _; rfl
    | succ m ih =>
      intro h
      rw [← Nat.add_assoc, trm_succ, trm_succ, bitL_top (by omega), cntL_snoc]
      simp only [if_true]
      split <;> simp [ih (by omega)] <;> omega
  have all : ∀ (n : Nat) (f : Nat → Bool), (trm r (n + 1) f (2 ^ (n + 1))).length = (trm r n f (2 ^ n)).length + (trm r n (fun i => f (i + 1)) (2 ^ n)).length := by
    intro n f
    have h := high n f (2 ^ n) (Nat.le_refl _)
    rwa [← Nat.two_mul, Nat.mul_comm, ← Nat.pow_succ, low n f _ (Nat.le_refl _)] at h
  have none : ∀ (n : Nat), (trm r n (fun _ => false) (2 ^ n)).length = 0 := by
    intro n
    unfold trm
    simp
  induction n generalizing k with
  | zero =>
    cases k with
    | zero => rfl
    | succ k => rfl
  | succ n ih =>
    rw [all, ih]
    cases k with
    | zero =>
      have : (fun i : Nat => decide (i + 1 = 0)) = fun _ => false := by funext i; simp
      rw [this, none, ch_zero, ch_zero]
    | succ k =>
      have : (fun i : Nat => decide (i + 1 = k + 1)) = fun i => decide (i = k) := by funext i; simp
      rw [this, ih]
      show _ = ch n k + ch n (k + 1)
      omega
end Go.Proofs.Ytclflfglhbkfkaa

/- The walk of the law NoiseWhole: the statement with two calls. -/
namespace Go.Proofs.Ytclflfglhbkfkaa
open Go.RowKit

theorem Fx.fr0 {w w' : World} {g : Nat} {c : Fa} {o : Option Rat} (h : Fx w g c o) (hf : Fr w w' (fun _ => False)) : Fx w' g c o := h.below (hf.below (Nat.le_refl _) (fun _ _ h => h))
def RWh (B x n : Nat) (a : Fa) (r : Rat) : Nat → Value → World → Prop
  | 0, v, _ => v = .agg #[.slice a.A a.n a.c, .slice a.B a.m a.d]
  | 1, v, _ => v = .int .i64 (x : Int)
  | 2, v, _ => v = .int .i64 (n : Int)
  | 3, v, W => ∃ A c, v = .slice A n c ∧ Rs W none 1 bv A (bitL x n)
  | 4, v, W => ∃ c : Fa, v = .tuple #[.agg #[.slice c.A c.n c.c, .slice c.B c.m c.d], .int .i64 0] ∧ Fo W c (some (sqL r (bitL x n)))
  | 5, v, W => ∃ c : Fa, v = .tuple #[.agg #[.slice c.A c.n c.c, .slice c.B c.m c.d], .int .i64 0] ∧ Fo W c (some (sqL r (bitL x n)))
  | 6, v, W => ∃ c : Fa, v = .agg #[.slice c.A c.n c.c, .slice c.B c.m c.d] ∧ Fo W c (some (sqL r (bitL x n)))
  | 7, v, _ => v = .int .i64 0
  | 8, v, W => ∃ b, v = .pointer (some ⟨b, 0, none⟩) ∧ B ≤ b ∧ Bq W b fa0
  | _, _, _ => True
theorem RWh.st (B x n : Nat) (a : Fa) (r : Rat) : ∀ i v w w', RWh B x n a r i v w → Below w.heap.size w w' → RWh B x n a r i v w'
  | 0, _, _, _, h, _ => h
  | 1, _, _, _, h, _ => h
  | 2, _, _, _, h, _ => h
  | 3, _, _, _, ⟨A, c, h1, h2⟩, hb => ⟨A, c, h1, h2.below hb⟩
  | 4, _, _, _, ⟨c, h1, h2⟩, hb => ⟨c, h1, h2.below hb⟩
  | 5, _, _, _, ⟨c, h1, h2⟩, hb => ⟨c, h1, h2.below hb⟩
  | 6, _, _, _, ⟨c, h1, h2⟩, hb => ⟨c, h1, h2.below hb⟩
  | 7, _, _, _, h, _ => h
  | 8, _, _, _, ⟨b, h1, h2, h3⟩, hb => ⟨b, h1, h2, h3.below hb⟩
  | _ + 9, _, _, _, _, _ => trivial
theorem seq_ok (w : World) (a : Fa) (r : Rat) (A : Option Addr) (n c : Nat) (outs : List Bool) (ha : Fo w a (some r)) (hO : Rs w none 1 bv A outs) (hl : outs.length = n) (hn : n ≤ 32) (hc : Chn r) :
    Calls Try.prog 36 #[.agg #[.slice a.A a.n a.c, .slice a.B a.m a.d], .slice A n c] w fun e w' => RetV w (sqL r outs) e w' := by
  have h := seq_any w a _ _ A n c outs ha.1 hO hl (by omega)
  rw [fracOf_self ha.2] at h
  refine h.mono fun e w' h => h.ok ?_
  have : chO (some r) = true := by simp [chO, hc.h1, hc.hd]
  unfold seqR
  rw [if_pos this, if_neg (by omega)]
def regOf (n : Nat) : Code → Option Code
  | .region i ops b => if i = n then some (.region i ops b) else none
  | .block _ c => regOf n c
  | .seq x y => match regOf n x with
    | some c => some c
    | none => regOf n y
  | .cond _ x y => match regOf n x with
    | some c => some c
    | none => regOf n y
  | .loop c => regOf n c
  | .scope c => regOf n c
  | _ => none
noncomputable def zwCode : Code := (Try.f9.body.bind (regOf 6)).getD .skip
set_option maxRecDepth 100000 in
set_option maxHeartbeats 16000000 in
theorem zw_region (m x b5 : Nat) (c1 : Fa) (r : Rat) (wr : World) (Q : Exit → Act → World → Prop) (a0 : Act) (hd0 : a0.defers = []) (hsz : a0.tmps.size = 53) (hm32 : m ≤ 32) (hx64 : x < 4294967296) (HC1 : Hid (Chn r)) (H5 : Hid (Fx wr b5 c1 (some r)))
    (h1 : a0.tmps.getD 1 undef = .int .i64 (m : Int)) (h5 : a0.tmps.getD 5 undef = .pointer (some ⟨b5, 0, none⟩)) (h7 : a0.tmps.getD 7 undef = .int .i64 (x : Int))
    (HM : Hid (∀ (b8 : Nat) (c8 : Fa) (w2 : World) (y0 y1 y2 y3 y4 y5 y6 y7 : Value), Hid (Below wr.heap.size wr w2) → wr.heap.size ≤ b8 → Hid (Bq w2 b8 fa0) → Hid (Fo w2 c8 (some (sqL r (bitL x m)))) →
      Q .normal ⟨((fillT [25, 26, 27, 28, 29, 24, 30, 31, 8] [some y0, some y1, some y2, some y3, some y4, some y5, some y6, some y7, some (.pointer (some ⟨b8, 0, none⟩))] a0.tmps).setIfInBounds 9 (.int .i64 0)), []⟩ ((w2.setCell ⟨b8, 0, none⟩ (.slice c8.A c8.n c8.c)).setCell ⟨b8, 1, none⟩ (.slice c8.B c8.m c8.d)))) :
    Code.wp Try.prog zwCode Q a0 wr := by
  refine Code.wp_mono (Q := Exit.then (fun a w => Q .normal a w) (fun _ _ _ => False)) (fun e a w h => by cases e <;> first | exact h | exact (h : False).elim) ?_
  conv => arg 2; whnf
  refine region_first_opt 9 [25, 26, 27, 28, 29, 24, 30, 31, 8] (a0 := a0) (v := wr) (RWh wr.heap.size x m c1 r) (fun i => decide (i = 8)) (fun i => decide (i = 7)) (by kernel_rfl) (by decide) rfl (by decide) (by simp [hsz]) (by kernel_rfl) (RWh.st _ _ _ _ _) ?_ ?_
  · intro i hi a' w' hbw hdf hoff hdep K hK
    have o1 : a'.tmps.getD 1 undef = .int .i64 (m : Int) := (hoff 1 rfl).trans h1
    have o5 : a'.tmps.getD 5 undef = .pointer (some ⟨b5, 0, none⟩) := (hoff 5 rfl).trans h5
    have o7 : a'.tmps.getD 7 undef = .int .i64 (x : Int) := (hoff 7 rfl).trans h7
    have H5' := hide (H5.out.below hbw)
    obtain ⟨g0, g1, gf, gz, -⟩ := H5'.out.b
    have sw := hbw.size
    clear hoff hdf hbw
    match i, hi with
    | 0, _ =>
      refine rg_in rfl (fun K' hKK => ?_)
      go_wp2_with fail
      exact hK _ _ rfl (Below.refl _ _) (by simp)
    | 1, _ =>
      refine rg_in rfl (fun K' hKK => ?_)
      go_wp2_with fail
      exact hK _ _ rfl (Below.refl _ _) (by simp)
    | 2, _ =>
      refine rg_in rfl (fun K' hKK => ?_)
      go_wp2_with fail
      exact hK _ _ rfl (Below.refl _ _) (by simp)
    | 3, _ =>
      have o26 : a'.tmps.getD 26 undef = .int .i64 (x : Int) := hdep _ rfl ⟨1, Ground.data⟩ (by simp) rfl
      have o27 : a'.tmps.getD 27 undef = .int .i64 (m : Int) := hdep _ rfl ⟨2, Ground.data⟩ (by simp) rfl
      refine rg_in rfl (fun K' hKK => ?_)
      go_wp2_with (go_at_call 38; (with_reducible refine (bits_any _ x m (by omega) (by omega)).mono ?_); rintro e w2 ⟨A2, c2, rfl, hr, hb⟩; have HB := hide hb; have HR := hide hr; clear hb hr)
      exact hK _ _ ⟨A2, c2, rfl, HR.out⟩ HB.out (by simp)
    | 4, _ =>
      have o25 : a'.tmps.getD 25 undef = .agg #[.slice c1.A c1.n c1.c, .slice c1.B c1.m c1.d] := hdep _ rfl ⟨0, Ground.data⟩ (by simp) rfl
      obtain ⟨A2, c2, o28, hr2⟩ : ∃ A c, a'.tmps.getD 28 undef = .slice A m c ∧ Rs w' none 1 bv A (bitL x m) := hdep _ rfl ⟨3, Ground.data⟩ (by simp) rfl
      have HR2 := hide hr2
      clear hr2
      refine rg_in rfl (fun K' hKK => ?_)
      go_wp2_with (go_at_call 36; (with_reducible refine (seq_ok _ c1 r A2 m c2 _ H5'.out.o HR2.out (bitL_len x m) hm32 HC1.out).mono ?_); rintro e w2 ⟨c, rfl, ho, hb⟩; have HB := hide hb; have HO := hide ho; clear hb ho)
      exact hK _ _ ⟨c, rfl, HO.out⟩ HB.out (by simp)
    | 5, _ =>
      obtain ⟨c2, o29, ho2⟩ : ∃ c : Fa, a'.tmps.getD 29 undef = .tuple #[.agg #[.slice c.A c.n c.c, .slice c.B c.m c.d], .int .i64 0] ∧ Fo w' c (some (sqL r (bitL x m))) := hdep _ rfl ⟨4, Ground.data⟩ (by simp) rfl
      have HO2 := hide ho2
      clear ho2
      refine rg_in rfl (fun K' hKK => ?_)
      go_wp2_with fail
      exact hK _ _ ⟨c2, rfl, HO2.out⟩ (Below.refl _ _) (by simp)
    | 6, _ =>
      obtain ⟨c2, o24, ho2⟩ : ∃ c : Fa, a'.tmps.getD 24 undef = .tuple #[.agg #[.slice c.A c.n c.c, .slice c.B c.m c.d], .int .i64 0] ∧ Fo w' c (some (sqL r (bitL x m))) := hdep _ rfl ⟨5, Ground.data⟩ (by simp) rfl
      have HO2 := hide ho2
      clear ho2
      refine rg_in rfl (fun K' hKK => ?_)
      go_wp2_with fail
      exact hK _ _ ⟨c2, rfl, HO2.out⟩ (Below.refl _ _) (by simp)
    | 7, _ =>
      obtain ⟨c2, o24, ho2⟩ : ∃ c : Fa, a'.tmps.getD 24 undef = .tuple #[.agg #[.slice c.A c.n c.c, .slice c.B c.m c.d], .int .i64 0] ∧ Fo w' c (some (sqL r (bitL x m))) := hdep _ rfl ⟨5, Ground.data⟩ (by simp) rfl
      clear ho2
      refine rg_in rfl (fun K' hKK => ?_)
      go_wp2_with fail
      exact hK _ _ rfl (Below.refl _ _) (by simp)
    | 8, _ =>
      refine rg_in rfl (fun K' hKK => ?_)
      go_wp2_with fail
      exact hK _ _ ⟨_, rfl, sw, Bq.mk0 _ fa0 rfl⟩ ((Below.refl _ _).alloc (Nat.le_refl _) _) (fun _ => ⟨_, rfl, Nat.le_refl _, by simp⟩)
  · intro y o kk w2 hbw hy hne hk
    obtain ⟨b8, e8, h8, q8⟩ := hy 8 (by decide) (.inl rfl)
    obtain ⟨c8, e30, o30⟩ := hy 6 (by decide) (.inl rfl)
    obtain ⟨c24, e24, -⟩ := hy 5 (by decide) (.inl rfl)
    have HBW := hide hbw
    have HQ8 := hide q8
    have HO30 := hide o30
    obtain ⟨c80, c81, cf8, cz8, -⟩ := HQ8.out
    have hat : ∀ (xs : List (Option Value)) (i : Nat) (v : Value), i < 9 → xs[i]? = some (some v) → (fillT [25, 26, 27, 28, 29, 24, 30, 31, 8] xs a0.tmps).getD ([25, 26, 27, 28, 29, 24, 30, 31, 8].getD i 0) undef = v := fun xs i v hi hx =>
      fillT_at _ xs a0.tmps (by decide) hi hx (by rw [hsz]; match i, hi with | 0, _ => decide | 1, _ => decide | 2, _ => decide | 3, _ => decide | 4, _ => decide | 5, _ => decide | 6, _ => decide | 7, _ => decide | 8, _ => decide)
    have HTH := hide (show w2.there b8 0 2 from fun j hj => by
      match j, hj with
      | 0, _ => exact ⟨by rw [Nat.add_zero, c80]; rfl, cf8 _⟩
      | 1, _ => exact ⟨by rw [Nat.zero_add, c81]; rfl, cf8 _⟩)
    cases ho : o 7
    · simp only [show ((List.range 9).map fun i => !decide (i = 7) || o i) = [true, true, true, true, true, true, true, false, true] by simp [List.range, List.range.loop, ho]] at hk ⊢
      obtain rfl : kk = 1 := by rw [← hk]; rfl
      simp only [show ((List.range 9).map fun i => if (!decide (i = 7) || o i) = true then some (y i) else none) = [some (y 0), some (y 1), some (y 2), some (y 3), some (y 4), some (y 5), some (y 6), none, some (y 8)] by simp [List.range, List.range.loop, ho], e8, e30, e24]
      generalize y 0 = y0
      generalize y 1 = y1
      generalize y 2 = y2
      generalize y 3 = y3
      generalize y 4 = y4
      clear hy hne hbw e8 e30 e24 q8 o30 hk ho
      have o8 := hat [some y0, some y1, some y2, some y3, some y4, some (.tuple #[.agg #[.slice c24.A c24.n c24.c, .slice c24.B c24.m c24.d], .int .i64 0]), some (.agg #[.slice c8.A c8.n c8.c, .slice c8.B c8.m c8.d]), none, some (.pointer (some ⟨b8, 0, none⟩))] 8 _ (by decide) rfl
      have o30 := hat [some y0, some y1, some y2, some y3, some y4, some (.tuple #[.agg #[.slice c24.A c24.n c24.c, .slice c24.B c24.m c24.d], .int .i64 0]), some (.agg #[.slice c8.A c8.n c8.c, .slice c8.B c8.m c8.d]), none, some (.pointer (some ⟨b8, 0, none⟩))] 6 _ (by decide) rfl
      have o24 := hat [some y0, some y1, some y2, some y3, some y4, some (.tuple #[.agg #[.slice c24.A c24.n c24.c, .slice c24.B c24.m c24.d], .int .i64 0]), some (.agg #[.slice c8.A c8.n c8.c, .slice c8.B c8.m c8.d]), none, some (.pointer (some ⟨b8, 0, none⟩))] 5 _ (by decide) rfl
      have hset := fillT_set [25, 26, 27, 28, 29, 24, 30, 31, 8] [some y0, some y1, some y2, some y3, some y4, some (.tuple #[.agg #[.slice c24.A c24.n c24.c, .slice c24.B c24.m c24.d], .int .i64 0]), some (.agg #[.slice c8.A c8.n c8.c, .slice c8.B c8.m c8.d]), none, some (.pointer (some ⟨b8, 0, none⟩))] a0.tmps (i := 7) (.int .i64 0) (by decide) (by decide) rfl
      have hsz2 := fillT_size [25, 26, 27, 28, 29, 24, 30, 31, 8] [some y0, some y1, some y2, some y3, some y4, some (.tuple #[.agg #[.slice c24.A c24.n c24.c, .slice c24.B c24.m c24.d], .int .i64 0]), some (.agg #[.slice c8.A c8.n c8.c, .slice c8.B c8.m c8.d]), none, some (.pointer (some ⟨b8, 0, none⟩))] a0.tmps
      rw [hsz] at hsz2
      generalize hT : fillT [25, 26, 27, 28, 29, 24, 30, 31, 8] [some y0, some y1, some y2, some y3, some y4, some (.tuple #[.agg #[.slice c24.A c24.n c24.c, .slice c24.B c24.m c24.d], .int .i64 0]), some (.agg #[.slice c8.A c8.n c8.c, .slice c8.B c8.m c8.d]), none, some (.pointer (some ⟨b8, 0, none⟩))] a0.tmps = T at o8 o30 o24 hset hsz2 ⊢
      have g8 : T.getD 8 undef = .pointer (some ⟨b8, 0, none⟩) := o8
      have g30 : T.getD 30 undef = .agg #[.slice c8.A c8.n c8.c, .slice c8.B c8.m c8.d] := o30
      have g24 : T.getD 24 undef = .tuple #[.agg #[.slice c24.A c24.n c24.c, .slice c24.B c24.m c24.d], .int .i64 0] := o24
      have t8 : (T.setIfInBounds 31 (.int .i64 0)).getD 8 undef = .pointer (some ⟨b8, 0, none⟩) := by
        rw [Array.getD_eq_getD_getElem?, Array.getElem?_setIfInBounds_ne (by decide), ← Array.getD_eq_getD_getElem?]; exact g8
      have t30 : (T.setIfInBounds 31 (.int .i64 0)).getD 30 undef = .agg #[.slice c8.A c8.n c8.c, .slice c8.B c8.m c8.d] := by
        rw [Array.getD_eq_getD_getElem?, Array.getElem?_setIfInBounds_ne (by decide), ← Array.getD_eq_getD_getElem?]; exact g30
      have t31 : (T.setIfInBounds 31 (.int .i64 0)).getD 31 undef = .int .i64 0 := by
        simp [hsz2]
      have HE := hide (show fillT [25, 26, 27, 28, 29, 24, 30, 31, 8] [some y0, some y1, some y2, some y3, some y4, some (.tuple #[.agg #[.slice c24.A c24.n c24.c, .slice c24.B c24.m c24.d], .int .i64 0]), some (.agg #[.slice c8.A c8.n c8.c, .slice c8.B c8.m c8.d]), some (.int .i64 0), some (.pointer (some ⟨b8, 0, none⟩))] a0.tmps = T.setIfInBounds 31 (.int .i64 0) from hset)
      clear hT o8 o30 o24 hset hat
      refine wpAny_two (i := 7) (j := 9) (by kernel_rfl) ?_ ?_
      · refine rg_extract (.tmp 24) 1 31 rfl rfl rfl rfl (hx := g24) (hv := rfl) ?_
        refine wpAny_one (i := 9) (by kernel_rfl) ?_
        refine rg_store_mid 26 (.tmp 8) (.tmp 30) rfl rfl rfl rfl b8 0 #[.slice c8.A c8.n c8.c, .slice c8.B c8.m c8.d] t8 t30 HTH.out (by kernel_rfl) (all_oneCell_toArray (fvv_one c8)) ?_
        refine wpAny_one (i := 10) (by kernel_rfl) ?_
        refine rg_assign (.tmp 31) 9 rfl rfl rfl rfl (hx := t31) ?_
        refine wpAny_done (by kernel_rfl) ?_ _
        have := HM.out b8 c8 w2 y0 y1 y2 y3 y4 (.tuple #[.agg #[.slice c24.A c24.n c24.c, .slice c24.B c24.m c24.d], .int .i64 0]) (.agg #[.slice c8.A c8.n c8.c, .slice c8.B c8.m c8.d]) (.int .i64 0) HBW h8 HQ8 HO30
        rw [HE.out, ← hd0] at this
        exact this
      · refine rg_store_mid 26 (.tmp 8) (.tmp 30) rfl rfl rfl rfl b8 0 #[.slice c8.A c8.n c8.c, .slice c8.B c8.m c8.d] g8 g30 HTH.out (by kernel_rfl) (all_oneCell_toArray (fvv_one c8)) ?_
        refine wpAny_one (i := 7) (by kernel_rfl) ?_
        refine rg_extract (.tmp 24) 1 31 rfl rfl rfl rfl (hx := g24) (hv := rfl) ?_
        refine wpAny_one (i := 10) (by kernel_rfl) ?_
        refine rg_assign (.tmp 31) 9 rfl rfl rfl rfl (hx := t31) ?_
        refine wpAny_done (by kernel_rfl) ?_ _
        have := HM.out b8 c8 w2 y0 y1 y2 y3 y4 (.tuple #[.agg #[.slice c24.A c24.n c24.c, .slice c24.B c24.m c24.d], .int .i64 0]) (.agg #[.slice c8.A c8.n c8.c, .slice c8.B c8.m c8.d]) (.int .i64 0) HBW h8 HQ8 HO30
        rw [HE.out, ← hd0] at this
        exact this
    · have e31 : y 7 = .int .i64 0 := hy 7 (by decide) (.inr ho)
      simp only [show ((List.range 9).map fun i => !decide (i = 7) || o i) = [true, true, true, true, true, true, true, true, true] by simp [List.range, List.range.loop, ho]] at hk ⊢
      obtain rfl : kk = 0 := by rw [← hk]; rfl
      simp only [show ((List.range 9).map fun i => if (!decide (i = 7) || o i) = true then some (y i) else none) = [some (y 0), some (y 1), some (y 2), some (y 3), some (y 4), some (y 5), some (y 6), some (y 7), some (y 8)] by simp [List.range, List.range.loop, ho], e8, e30, e24, e31]
      generalize y 0 = y0
      generalize y 1 = y1
      generalize y 2 = y2
      generalize y 3 = y3
      generalize y 4 = y4
      clear hy hne hbw e8 e30 e24 e31 q8 o30 hk ho
      have o8 := hat [some y0, some y1, some y2, some y3, some y4, some (.tuple #[.agg #[.slice c24.A c24.n c24.c, .slice c24.B c24.m c24.d], .int .i64 0]), some (.agg #[.slice c8.A c8.n c8.c, .slice c8.B c8.m c8.d]), some (.int .i64 0), some (.pointer (some ⟨b8, 0, none⟩))] 8 _ (by decide) rfl
      have o30 := hat [some y0, some y1, some y2, some y3, some y4, some (.tuple #[.agg #[.slice c24.A c24.n c24.c, .slice c24.B c24.m c24.d], .int .i64 0]), some (.agg #[.slice c8.A c8.n c8.c, .slice c8.B c8.m c8.d]), some (.int .i64 0), some (.pointer (some ⟨b8, 0, none⟩))] 6 _ (by decide) rfl
      have o31 := hat [some y0, some y1, some y2, some y3, some y4, some (.tuple #[.agg #[.slice c24.A c24.n c24.c, .slice c24.B c24.m c24.d], .int .i64 0]), some (.agg #[.slice c8.A c8.n c8.c, .slice c8.B c8.m c8.d]), some (.int .i64 0), some (.pointer (some ⟨b8, 0, none⟩))] 7 _ (by decide) rfl
      generalize hT : fillT [25, 26, 27, 28, 29, 24, 30, 31, 8] [some y0, some y1, some y2, some y3, some y4, some (.tuple #[.agg #[.slice c24.A c24.n c24.c, .slice c24.B c24.m c24.d], .int .i64 0]), some (.agg #[.slice c8.A c8.n c8.c, .slice c8.B c8.m c8.d]), some (.int .i64 0), some (.pointer (some ⟨b8, 0, none⟩))] a0.tmps = T at o8 o30 o31 ⊢
      have g8 : T.getD 8 undef = .pointer (some ⟨b8, 0, none⟩) := o8
      have g30 : T.getD 30 undef = .agg #[.slice c8.A c8.n c8.c, .slice c8.B c8.m c8.d] := o30
      have g31 : T.getD 31 undef = .int .i64 0 := o31
      have HE := hide hT
      clear hT o8 o30 o31 hat
      refine wpAny_one (i := 9) (by kernel_rfl) ?_
      refine rg_store_mid 26 (.tmp 8) (.tmp 30) rfl rfl rfl rfl b8 0 #[.slice c8.A c8.n c8.c, .slice c8.B c8.m c8.d] g8 g30 HTH.out (by kernel_rfl) (all_oneCell_toArray (fvv_one c8)) ?_
      refine wpAny_one (i := 10) (by kernel_rfl) ?_
      refine rg_assign (.tmp 31) 9 rfl rfl rfl rfl (hx := g31) ?_
      refine wpAny_done (by kernel_rfl) ?_ _
      have := HM.out b8 c8 w2 y0 y1 y2 y3 y4 (.tuple #[.agg #[.slice c24.A c24.n c24.c, .slice c24.B c24.m c24.d], .int .i64 0]) (.agg #[.slice c8.A c8.n c8.c, .slice c8.B c8.m c8.d]) (.int .i64 0) HBW h8 HQ8 HO30
      rw [HE.out, ← hd0] at this
      exact this
end Go.Proofs.Ytclflfglhbkfkaa

/- Contracts: noise.Choose. -/
namespace Go.Proofs.Ytclflfglhbkfkaa
open Go.RowKit

def chooseL (n k : Int) : List Nat := if n < 0 ∨ 32 < n then [] else if k < 0 ∨ n < k then [] else lm (ch n.toNat k.toNat)
def chooseE (n : Int) : Int := if n < 0 ∨ 32 < n then 3 else 0
theorem nof_zero (w : World) : Calls Try.prog 61 #[.int .u64 0] w fun e w' => ∃ A m c, e = .returned (.slice A m c) ∧ m ≤ c ∧ m ≤ 2 ∧ Ul w' none A m (lm 0) ∧ Below w.heap.size w w' := nof_any w 0 (by omega)
theorem index_row {N K : Nat} (hK : K < 33) (W : World) : (Instr.index 81 (.agg (rowCells N).toArray) (.int .i64 (K : Int))).run Try.prog W = .ok (.int .u64 (ch N K : Int)) W := by
  have h1 : (underlying 81).run Try.prog W = .ok (.array 33 63) W := run_underlying Try.underlying81 W
  have h2 : (isAgg 63).run Try.prog W = .ok false W := by
    unfold isAgg
    rw [Sem.run_bind, run_underlying Try.underlying63]
    rfl
  have h3 : (sizeOf 63).run Try.prog W = .ok 1 W := by
    unfold sizeOf typeInfo
    have hi : (Try.prog.info? 63).map (·.size) = some 1 := by kernel_rfl
    cases h : Try.prog.info? 63 with
    | none => rw [h] at hi; simp at hi
    | some i =>
      rw [h] at hi
      simp at hi
      simp [go_sem, h, hi]
  have hget : (rowCells N)[K]? = some (.int .u64 (ch N K : Int)) := rowCells_get hK
  have hK2 : (K : Int) < 33 := by omega
  simp [Instr.index, asIntOf, part, Sem.run_bind, Sem.run_pure, Result.andThen_ok, h1, h2, h3, hget, hK2]
  intro h
  omega
set_option maxRecDepth 100000 in
set_option maxHeartbeats 4000000 in
theorem choose_any (w : World) (n k : Int) :
    Calls Try.prog 25 #[.int .i64 n, .int .i64 k] w fun e w' => ∃ A m c, e = .returned (.tuple #[.slice A m c, .int .i64 (chooseE n)]) ∧ m ≤ c ∧ m ≤ 2 ∧ Ul w' none A m (chooseL n k) ∧ Below w.heap.size w w' := by
  by_cases h0 : n < 0
  · have e1 := hide (show chooseE n = 3 from if_pos (.inl h0))
    have e2 := hide (show chooseL n k = [] from if_pos (.inl h0))
    go_enter Try.func25, Try.ntmps25
    go_wp2_with fail
    go_ret2
    exact ⟨none, 0, 0, by rw [e1.out]; rfl, by omega, by omega, by rw [e2.out]; exact Ul.nil, Below.refl _ _⟩
  · by_cases h1 : 32 < n
    · have e1 := hide (show chooseE n = 3 from if_pos (.inr h1))
      have e2 := hide (show chooseL n k = [] from if_pos (.inr h1))
      have d0 : decide (n < 0) = false := decide_eq_false h0
      have d1 : decide (n > 32) = true := decide_eq_true h1
      clear h0 h1
      go_enter Try.func25, Try.ntmps25
      go_wp2_with fail
      go_ret2
      exact ⟨none, 0, 0, by rw [e1.out]; rfl, by omega, by omega, by rw [e2.out]; exact Ul.nil, Below.refl _ _⟩
    · have e1 := hide (show chooseE n = 0 from if_neg (by omega))
      have d0 : decide (n < 0) = false := decide_eq_false h0
      have d1 : decide (n > 32) = false := decide_eq_false h1
      by_cases hk : k < 0 ∨ n < k
      · have e2 := hide (show chooseL n k = lm 0 by unfold chooseL; rw [if_neg (by omega), if_pos hk, lm_zero])
        by_cases hk0 : k < 0
        · have d2 : decide (k < 0) = true := decide_eq_true hk0
          clear h0 h1 hk hk0
          go_enter Try.func25, Try.ntmps25
          go_wp2_with (go_at_call 61; (with_reducible refine (nof_zero _).mono ?_); rintro e w1 ⟨A, m, c, rfl, hmc, hm2, hu, hb⟩; have HU := hide hu; have HB := hide hb; clear hu hb)
          go_ret2
          exact ⟨A, m, c, by rw [e1.out]; rfl, hmc, hm2, by rw [e2.out]; exact HU.out, HB.out⟩
        · have d2 : decide (k < 0) = false := decide_eq_false hk0
          have d3 : decide (k > n) = true := decide_eq_true (by omega)
          clear h0 h1 hk hk0
          go_enter Try.func25, Try.ntmps25
          go_wp2_with (go_at_call 61; (with_reducible refine (nof_zero _).mono ?_); rintro e w1 ⟨A, m, c, rfl, hmc, hm2, hu, hb⟩; have HU := hide hu; have HB := hide hb; clear hu hb)
          go_ret2
          exact ⟨A, m, c, by rw [e1.out]; rfl, hmc, hm2, by rw [e2.out]; exact HU.out, HB.out⟩
      · obtain ⟨N, rfl⟩ : ∃ N : Nat, n = N := ⟨n.toNat, by omega⟩
        obtain ⟨K, rfl⟩ : ∃ K : Nat, k = K := ⟨k.toNat, by omega⟩
        have e2 := hide (show chooseL (N : Int) (K : Int) = lm (ch N K) by unfold chooseL; rw [if_neg (by omega), if_neg hk]; rfl)
        have d2 : decide ((K : Int) < 0) = false := decide_eq_false (by omega)
        have d3 : decide ((K : Int) > (N : Int)) = false := decide_eq_false (by omega)
        have d4 : decide (N < K) = false := decide_eq_false (by omega)
        have hN : N ≤ 32 := by omega
        have g0 : (0 : Int) ≤ (K : Int) := by omega
        have g1 : (K : Int) < 33 := by omega
        have hK33 : K < 33 := by omega
        have hget : (rowCells N).toArray[K]? = some (.int .u64 (ch N K : Int)) := by simpa using rowCells_get (n := N) hK33
        have hsz : (rowCells N).toArray.size = 33 := by simp [rowCells_len]
        have hch : ch N K < 18446744073709551616 := by
          have h1 := ch_le N K
          have h2 : 2 ^ N ≤ 2 ^ 32 := Nat.pow_le_pow_right (by omega) hN
          omega
        have HCH := hide hch
        have hix := index_row (N := N) hK33
        clear h0 h1 hk hch hget hsz hK33
        go_enter Try.func25, Try.ntmps25
        go_wp2_with (first
          | (go_at_call 62; (with_reducible refine (row_any _ N hN).mono ?_); rintro e w1 ⟨rfl, hb⟩; have HB1 := hide hb; clear hb)
          | (go_at_call 61; (with_reducible refine (nof_any _ (ch N K) HCH.out).mono ?_); rintro e w2 ⟨A, m, c, rfl, hmc, hm2, hu, hb⟩; have HU := hide hu; have HB := hide (HB1.out.trans (hb.mono HB1.out.size)); clear hu hb))
        go_ret2
        exact ⟨A, m, c, by rw [e1.out]; rfl, hmc, hm2, by rw [e2.out]; exact HU.out, HB.out⟩
end Go.Proofs.Ytclflfglhbkfkaa

/- Contracts: natural.Uint. -/
namespace Go.Proofs.Ytclflfglhbkfkaa
open Go.RowKit

theorem ofInt_u64 (a : Nat) (ha : a < 18446744073709551616) : (BitVec.ofInt 64 (a : Int)).toNat = a := by
  rw [BitVec.ofInt_natCast, BitVec.toNat_ofNat]; exact Nat.mod_eq_of_lt (by omega)
theorem u64_or (a b : Nat) (ha : a < 18446744073709551616) (hb : b < 18446744073709551616) : bits .or .u64 (a : Int) (b : Int) = ((a ||| b : Nat) : Int) := by
  show IntKind.u64.wrap ((BitVec.ofInt 64 (a : Int) ||| BitVec.ofInt 64 (b : Int)).toNat : Int) = _
  rw [BitVec.toNat_or, ofInt_u64 a ha, ofInt_u64 b hb]
  have := Nat.or_lt_two_pow (n := 64) (x := a) (y := b) (by omega) (by omega)
  show ((a ||| b : Nat) : Int) % 18446744073709551616 = _
  omega
theorem or_low (a b : Nat) (ha : a < 4294967296) : a ||| b * 4294967296 = a + b * 4294967296 := by
  rw [show b * 4294967296 = b <<< 32 by rw [Nat.shiftLeft_eq]]
  rw [Nat.or_comm, ← Nat.shiftLeft_add_eq_or_of_lt (by omega : a < 2 ^ 32) b, Nat.add_comm]
theorem u64_or_zero (a : Nat) (ha : a < 18446744073709551616) : bits .or .u64 0 (a : Int) = (a : Int) := by
  have := u64_or 0 a (by omega) ha
  rw [Nat.zero_or] at this
  exact this
set_option maxRecDepth 100000 in
set_option maxHeartbeats 4000000 in
theorem uint_ok (w : World) (A : Option Addr) (n c : Nat) (x : Nat) (hU : Ul w none A n (lm x)) (hx : x < 18446744073709551616) :
    Calls Try.prog 40 #[.slice A n c] w fun e w' => e = .returned (.tuple #[.int .u64 (x : Int), .bool true]) ∧ w' = w := by
  have hn2 : n ≤ 2 := by have := lm64 hx; have := hU.len; omega
  have HB := hide (natB64 hx)
  have HU := hide hU
  have d2 : decide ((n : Int) > 2) = false := decide_eq_false (by omega)
  have HX := hide (lv_lm x)
  clear hU
  match n, hn2 with
  | 0, _ =>
    have hx0 : x = 0 := by
      have := HU.out.len
      have h := lm_eq_nil.1 (List.eq_nil_of_length_eq_zero this)
      exact h
    subst hx0
    go_enter Try.func40, Try.ntmps40
    go_wp2_with (go_at_call 73; (with_reducible refine (ncheck_any _ none A 0 c (lm 0) HU.out (by omega)).mono ?_); rintro e w' ⟨rfl, rfl⟩; rw [HB.out])
    refine wp_loop_rounds 1 ?_
    rw [rounds_succ]
    go_wp2_with fail
    go_ret2
    exact ⟨rfl, rfl⟩
  | 1, _ =>
    obtain ⟨b, o, y, rfl, hb, hy, hc⟩ : ∃ (b o y : Nat), A = some ⟨b, o, none⟩ ∧ b < w.heap.size ∧ (lm x)[0]? = some y ∧ w.cell? ⟨b, o + 0, none⟩ = some (.int .u32 (y : Int)) := ul_at HU.out (by omega)
    have hy32 : y < 4294967296 := HU.out.ok.get hy
    simp only [Nat.add_zero] at hc
    have hor := u64_or_zero y (by omega)
    have HY := hide (show x = y by
      have h1 := lv_take_drop (lm x) 1 (by have := HU.out.len; omega)
      have h2 := lv_take_succ hy
      have h3 : (lm x).drop 1 = [] := List.drop_eq_nil_of_le (by have := HU.out.len; omega)
      rw [HX.out, h3] at h1
      simp [lv] at h1 h2
      omega)
    go_enter Try.func40, Try.ntmps40
    go_wp2_with (go_at_call 73; (with_reducible refine (ncheck_any _ none (some ⟨b, o, none⟩) 1 c (lm x) HU.out (by omega)).mono ?_); rintro e w' ⟨rfl, rfl⟩; rw [HB.out])
    refine wp_loop_rounds 2 ?_
    rw [rounds_succ]
    go_wp2_with fail
    rw [rounds_succ]
    go_wp2_with fail
    go_ret2
    exact ⟨by rw [HY.out]; rfl, rfl⟩
  | 2, _ =>
    obtain ⟨b, o, y, rfl, hb, hy, hc⟩ : ∃ (b o y : Nat), A = some ⟨b, o, none⟩ ∧ b < w.heap.size ∧ (lm x)[0]? = some y ∧ w.cell? ⟨b, o + 0, none⟩ = some (.int .u32 (y : Int)) := ul_at HU.out (by omega)
    obtain ⟨b2, o2, z, hbo, -, hz, hc2⟩ : ∃ (b2 o2 z : Nat), some (⟨b, o, none⟩ : Addr) = some ⟨b2, o2, none⟩ ∧ b2 < w.heap.size ∧ (lm x)[1]? = some z ∧ w.cell? ⟨b2, o2 + 1, none⟩ = some (.int .u32 (z : Int)) := ul_at HU.out (by omega)
    injection hbo with hbo
    injection hbo with h1 h2
    subst h1
    subst h2
    have hy32 : y < 4294967296 := HU.out.ok.get hy
    have hz32 : z < 4294967296 := HU.out.ok.get hz
    simp only [Nat.add_zero] at hc
    have hor := u64_or_zero y (by omega)
    have hor2 : bits .or .u64 (y : Int) ((z : Int) * 4294967296) = (x : Int) := by
      have h1 := lv_take_drop (lm x) 2 (by have := HU.out.len; omega)
      have h2 := lv_take_succ hz
      have h4 := lv_take_succ hy
      have h3 : (lm x).drop 2 = [] := List.drop_eq_nil_of_le (by have := HU.out.len; omega)
      rw [HX.out, h3] at h1
      simp only [List.take_zero, Nat.pow_zero, Nat.one_mul, lv, Nat.zero_add] at h4
      simp only [Nat.pow_one, Nat.reduceAdd] at h2
      simp only [lv, Nat.mul_zero, Nat.add_zero] at h1
      have h5 := u64_or y (z * 4294967296) (by omega) (by omega)
      rw [or_low y z hy32] at h5
      have e : ((z : Int) * 4294967296) = ((z * 4294967296 : Nat) : Int) := (Int.natCast_mul z 4294967296).symm
      rw [e, h5]
      omega
    go_enter Try.func40, Try.ntmps40
    go_wp2_with (go_at_call 73; (with_reducible refine (ncheck_any _ none (some ⟨b, o, none⟩) 2 c (lm x) HU.out (by omega)).mono ?_); rintro e w' ⟨rfl, rfl⟩; rw [HB.out])
    refine wp_loop_rounds 3 ?_
    rw [rounds_succ]
    go_wp2_with fail
    rw [rounds_succ]
    go_wp2_with fail
    rw [rounds_succ]
    go_wp2_with fail
    go_ret2
    exact ⟨rfl, rfl⟩
end Go.Proofs.Ytclflfglhbkfkaa
