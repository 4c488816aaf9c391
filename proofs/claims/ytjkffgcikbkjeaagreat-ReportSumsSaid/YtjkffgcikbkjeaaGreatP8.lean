/- Contracts of the functions that these laws reach: part 8: Plain laws of the chances of a number of failures; Contracts: noise.whole, other, Chance; Contracts: noise.Chance; Contracts: fraction.Pow. -/
import Derived.Test.YtjkffgcikbkjeaaGreatP5
import Derived.Test.YtjkffgcikbkjeaaGreatP7
import Derived.Deep.RegionWith
import Derived.Deep.RegionHeld3
import Derived.Deep.CutRange
set_option linter.unusedVariables false
set_option linter.unusedSimpArgs false

/- Plain laws of the chances of a number of failures. -/
namespace Go.Proofs.YtjkffgcikbkjeaaGreat

/-- A number that has the denominator D fits where D and its numerator do. -/
theorem fits_of {r : Rat} {x D : Nat} (hD : 0 < D) (h : r * (D : Rat) = (x : Rat)) (hx : x < 4294967296 ^ 128) (hd : D < 4294967296 ^ 128) : fitsR r = true := by
  have hD0 : (D : Rat) ≠ 0 := by
    intro h0
    have : D = 0 := by exact_mod_cast h0
    omega
  have e : r = mkRat (x : Int) D := by
    rw [Rat.mkRat_eq_div]
    have : ((x : Int) : Rat) = (x : Rat) := rfl
    rw [this, ← h]
    grind
  have h1 := mk_num x D hD
  have h2 := mk_den x D hD
  rw [← e] at h1 h2
  unfold fitsR
  rw [h1, h2]
  simp only [Bool.and_eq_true, decide_eq_true_eq]
  exact ⟨lm_length_le.2 (Nat.lt_of_le_of_lt (Nat.div_le_self _ _) hx), lm_length_le.2 (Nat.lt_of_le_of_lt (Nat.div_le_self _ _) hd)⟩
theorem rpow_add (a : Rat) (m : Nat) : ∀ n, a ^ (m + n) = a ^ m * a ^ n
  | 0 => by rw [Nat.add_zero, Rat.pow_zero]; grind
  | n + 1 => by rw [← Nat.add_assoc, Rat.pow_succ, Rat.pow_succ, rpow_add a m n]; grind
/-- r has the denominator d ^ n. -/
def Sc (d n : Nat) (r : Rat) : Prop := ∃ x : Nat, r * (d : Rat) ^ n = (x : Rat)
theorem Sc.nat (d : Nat) (x : Nat) : Sc d 0 (x : Rat) := ⟨x, by grind⟩
theorem Sc.up {d n : Nat} {r : Rat} (h : Sc d n r) (k : Nat) : Sc d (n + k) r := by
  obtain ⟨x, h⟩ := h
  refine ⟨x * d ^ k, ?_⟩
  rw [Rat.natCast_mul, Rat.natCast_pow, ← h, rpow_add]
  grind
theorem Sc.le {d n m : Nat} {r : Rat} (h : Sc d n r) (k : n ≤ m) : Sc d m r := by
  have := h.up (m - n)
  rwa [Nat.add_sub_cancel' k] at this
theorem Sc.mul {d n m : Nat} {r s : Rat} (h : Sc d n r) (k : Sc d m s) : Sc d (n + m) (r * s) := by
  obtain ⟨x, h⟩ := h
  obtain ⟨y, k⟩ := k
  refine ⟨x * y, ?_⟩
  rw [Rat.natCast_mul, ← h, ← k, rpow_add]
  grind
theorem Sc.add {d n : Nat} {r s : Rat} (h : Sc d n r) (k : Sc d n s) : Sc d n (r + s) := by
  obtain ⟨x, h⟩ := h
  obtain ⟨y, k⟩ := k
  refine ⟨x + y, ?_⟩
  rw [Rat.natCast_add, ← h, ← k]
  grind
theorem Sc.pow {d n : Nat} {r : Rat} (h : Sc d n r) : ∀ k, Sc d (n * k) (r ^ k)
  | 0 => by
    have := Sc.nat d 1
    simpa using this
  | k + 1 => by
    rw [Rat.pow_succ, Nat.mul_succ]
    exact (h.pow k).mul h
theorem cast_nonneg (n : Nat) : (0 : Rat) ≤ (n : Rat) := by exact_mod_cast Nat.zero_le n
theorem Sc.fits {d n : Nat} {r : Rat} (h : Sc d n r) (hd : 0 < d) (hd2 : d ≤ 1000000) (hn : n ≤ 128) (hr : r ≤ ((4294967296 ^ 4 : Nat) : Rat)) : fitsR r = true := by
  obtain ⟨x, h⟩ := h
  have hp : d ^ n ≤ 4294967296 ^ 96 := by
    have h1 : d ^ n ≤ 1000000 ^ n := Nat.pow_le_pow_left hd2 n
    have h2 : 1000000 ^ n ≤ 1000000 ^ 128 := Nat.pow_le_pow_right (by omega) hn
    have h3 : 1000000 ^ 128 ≤ 4294967296 ^ 96 := by decide +kernel
    omega
  have hx : x ≤ 4294967296 ^ 4 * d ^ n := by
    have : (x : Rat) ≤ ((4294967296 ^ 4 * d ^ n : Nat) : Rat) := by
      rw [← h, Rat.natCast_mul, Rat.natCast_pow d n]
      exact Rat.mul_le_mul_of_nonneg_right hr (Rat.pow_nonneg (cast_nonneg d))
    exact_mod_cast this
  refine fits_of (x := x) (D := d ^ n) (Nat.pow_pos hd) (by rw [Rat.natCast_pow]; exact h) ?_ ?_
  · have h4 : 4294967296 ^ 4 * d ^ n ≤ 4294967296 ^ 4 * 4294967296 ^ 96 := Nat.mul_le_mul_left _ hp
    have h5 : 4294967296 ^ 4 * 4294967296 ^ 96 < 4294967296 ^ 128 := by decide +kernel
    omega
  · have h5 : 4294967296 ^ 96 < 4294967296 ^ 128 := by decide +kernel
    omega

/-- The numbers of sets of k elements of n. -/
def ch : Nat → Nat → Nat
  | _, 0 => 1
  | 0, _ + 1 => 0
  | n + 1, k + 1 => ch n k + ch n (k + 1)
theorem ch_zero (n : Nat) : ch n 0 = 1 := by cases n <;> rfl
theorem ch_over : ∀ {n k : Nat}, n < k → ch n k = 0
  | 0, k + 1, _ => rfl
  | n + 1, k + 1, h => by
    show ch n k + ch n (k + 1) = 0
    rw [ch_over (by omega), ch_over (by omega)]
theorem ch_self : ∀ n, ch n n = 1
  | 0 => rfl
  | n + 1 => by
    show ch n n + ch n (n + 1) = 1
    rw [ch_self n, ch_over (by omega)]
theorem ch_le : ∀ n k : Nat, ch n k ≤ 2 ^ n
  | n, 0 => by rw [ch_zero]; exact Nat.pow_pos (by omega)
  | 0, k + 1 => by show 0 ≤ _; omega
  | n + 1, k + 1 => by
    have h1 := ch_le n k
    have h2 := ch_le n (k + 1)
    show ch n k + ch n (k + 1) ≤ _
    rw [Nat.pow_succ]; omega

/-- The chance of k failures of n. -/
def tm (r : Rat) (n k : Nat) : Rat := (ch n k : Rat) * r ^ k * (1 - r) ^ (n - k)
/-- The chances of those numbers of failures below m that count. -/
def sm (r : Rat) (n : Nat) (f : Nat → Bool) : Nat → Rat
  | 0 => 0
  | m + 1 => sm r n f m + if f m then tm r n m else 0
def tot (r : Rat) (n : Nat) (f : Nat → Bool) : Rat := sm r n f (n + 1)
theorem tm_over {r : Rat} {n k : Nat} (h : n < k) : tm r n k = 0 := by
  unfold tm
  rw [ch_over h]
  have : ((0 : Nat) : Rat) = 0 := rfl
  rw [this]; grind
theorem tm_step (r : Rat) (n k : Nat) : tm r (n + 1) (k + 1) = r * tm r n k + (1 - r) * tm r n (k + 1) := by
  by_cases hk : k + 1 ≤ n
  · unfold tm
    obtain ⟨j, rfl⟩ : ∃ j, n = k + 1 + j := ⟨n - (k + 1), by omega⟩
    have e1 : k + 1 + j + 1 - (k + 1) = j + 1 := by omega
    have e2 : k + 1 + j - k = j + 1 := by omega
    have e3 : k + 1 + j - (k + 1) = j := by omega
    rw [e1, e2, e3]
    show ((ch (k + 1 + j) k + ch (k + 1 + j) (k + 1) : Nat) : Rat) * _ * _ = _
    rw [Rat.natCast_add, Rat.pow_succ r, Rat.pow_succ (1 - r)]
    grind
  · rw [tm_over (n := n) (k := k + 1) (by omega)]
    by_cases hk2 : k = n
    · subst hk2
      unfold tm
      rw [ch_self, ch_self, Nat.sub_self, Nat.sub_self, Rat.pow_succ]
      grind
    · rw [tm_over (by omega), tm_over (by omega)]; grind
theorem tm_nonneg {r : Rat} (h0 : 0 ≤ r) (h1 : r ≤ 1) (n k : Nat) : 0 ≤ tm r n k :=
  Rat.mul_nonneg (Rat.mul_nonneg (cast_nonneg _) (Rat.pow_nonneg h0)) (Rat.pow_nonneg (by grind))
theorem sm_step (r : Rat) (n : Nat) (f : Nat → Bool) : ∀ m, sm r (n + 1) f (m + 1) = r * sm r n (fun i => f (i + 1)) m + (1 - r) * sm r n f (m + 1)
  | 0 => by
    show (0 : Rat) + (if f 0 then tm r (n + 1) 0 else 0) = r * 0 + (1 - r) * (0 + if f 0 then tm r n 0 else 0)
    have : tm r (n + 1) 0 = (1 - r) * tm r n 0 := by
      unfold tm
      rw [ch_zero, ch_zero, Nat.sub_zero, Nat.sub_zero, Rat.pow_succ (1 - r)]
      grind
    rw [this]
    split <;> grind
  | m + 1 => by
    show sm r (n + 1) f (m + 1) + (if f (m + 1) then tm r (n + 1) (m + 1) else 0) = r * (sm r n (fun i => f (i + 1)) m + if f (m + 1) then tm r n m else 0) + (1 - r) * (sm r n f (m + 1) + if f (m + 1) then tm r n (m + 1) else 0)
    rw [sm_step r n f m, tm_step]
    split <;> grind
theorem tot_step (r : Rat) (n : Nat) (f : Nat → Bool) : tot r (n + 1) f = r * tot r n (fun i => f (i + 1)) + (1 - r) * tot r n f := by
  unfold tot
  rw [sm_step]
  show _ = _ + (1 - r) * sm r n f (n + 1)
  have : sm r n f (n + 1 + 1) = sm r n f (n + 1) := by
    show sm r n f (n + 1) + (if f (n + 1) then tm r n (n + 1) else 0) = _
    rw [tm_over (by omega)]
    split <;> grind
  rw [this]
theorem tot_zero (r : Rat) (f : Nat → Bool) : tot r 0 f = if f 0 then 1 else 0 := by
  show (0 : Rat) + (if f 0 then tm r 0 0 else 0) = _
  have : tm r 0 0 = 1 := by
    unfold tm
    rw [ch_zero]
    simp
  rw [this]
  split <;> grind
theorem sm_mono {r : Rat} (h0 : 0 ≤ r) (h1 : r ≤ 1) {n : Nat} {f g : Nat → Bool} (h : ∀ i, f i = true → g i = true) : ∀ m, sm r n f m ≤ sm r n g m
  | 0 => Rat.le_refl
  | m + 1 => by
    show sm r n f m + (if f m then tm r n m else 0) ≤ sm r n g m + (if g m then tm r n m else 0)
    have h2 := sm_mono h0 h1 (n := n) h m
    have h3 := tm_nonneg h0 h1 n m
    have h4 := h m
    cases hf : f m
    · split <;> grind
    · rw [h4 hf]; grind
theorem tot_mono {r : Rat} (h0 : 0 ≤ r) (h1 : r ≤ 1) {n : Nat} {f g : Nat → Bool} (h : ∀ i, f i = true → g i = true) : tot r n f ≤ tot r n g := sm_mono h0 h1 h _
theorem tot_grow {r s : Rat} (h0 : 0 ≤ r) (h1 : s ≤ 1) (h : r ≤ s) : ∀ {n : Nat} {f : Nat → Bool}, (∀ i, f i = true → f (i + 1) = true) → tot r n f ≤ tot s n f
  | 0, f, _ => by rw [tot_zero, tot_zero]; exact Rat.le_refl
  | n + 1, f, hf => by
    rw [tot_step, tot_step]
    have i1 := tot_grow h0 h1 h (n := n) (f := fun i => f (i + 1)) (fun i hi => hf _ hi)
    have i2 := tot_grow h0 h1 h (n := n) hf
    have i3 := tot_mono h0 (Rat.le_trans h h1) (n := n) hf
    have j1 : 0 ≤ s * (tot s n (fun i => f (i + 1)) - tot r n (fun i => f (i + 1))) := Rat.mul_nonneg (Rat.le_trans h0 h) (by grind)
    have j2 : 0 ≤ (1 - s) * (tot s n f - tot r n f) := Rat.mul_nonneg (by grind) (by grind)
    have j3 : 0 ≤ (s - r) * (tot r n (fun i => f (i + 1)) - tot r n f) := Rat.mul_nonneg (by grind) (by grind)
    grind
theorem sm_split (r : Rat) (n : Nat) (f : Nat → Bool) : ∀ m, sm r n f m + sm r n (fun i => !f i) m = sm r n (fun _ => true) m
  | 0 => by show (0 : Rat) + 0 = 0; grind
  | m + 1 => by
    have := sm_split r n f m
    show sm r n f m + (if f m then tm r n m else 0) + (sm r n (fun i => !f i) m + if (!f m) then tm r n m else 0) = sm r n (fun _ => true) m + if true then tm r n m else 0
    rw [← this]
    cases f m <;> simp <;> grind
theorem tot_all (r : Rat) : ∀ n, tot r n (fun _ => true) = 1
  | 0 => by rw [tot_zero]; rfl
  | n + 1 => by rw [tot_step, tot_all r n]; grind
theorem tot_split (r : Rat) (n : Nat) (f : Nat → Bool) : tot r n f + tot r n (fun i => !f i) = 1 := by
  rw [← tot_all r n]; exact sm_split r n f _
theorem sm_le_tot {r : Rat} (h0 : 0 ≤ r) (h1 : r ≤ 1) (n : Nat) (f : Nat → Bool) : ∀ k, sm r n f (n + 1 - k) ≤ tot r n f
  | 0 => Rat.le_refl
  | k + 1 => by
    have h2 := sm_le_tot h0 h1 n f k
    by_cases hk : k < n + 1
    · obtain ⟨j, hj⟩ : ∃ j, n + 1 - k = j + 1 := ⟨n - k, by omega⟩
      have e : n + 1 - (k + 1) = j := by omega
      rw [hj] at h2
      rw [e]
      have h3 := tm_nonneg h0 h1 n j
      have h4 : sm r n f (j + 1) = sm r n f j + if f j then tm r n j else 0 := rfl
      rw [h4] at h2
      revert h2
      split <;> intro h2 <;> grind
    · have e : n + 1 - (k + 1) = n + 1 - k := by omega
      rw [e]; exact h2
theorem sm_le_one {r : Rat} (h0 : 0 ≤ r) (h1 : r ≤ 1) (n : Nat) (f : Nat → Bool) {m : Nat} (hm : m ≤ n + 1) : sm r n f m ≤ 1 := by
  have h2 := sm_le_tot h0 h1 n f (n + 1 - m)
  have e : n + 1 - (n + 1 - m) = m := by omega
  rw [e] at h2
  have h3 := tot_mono h0 h1 (n := n) (f := f) (g := fun _ => true) (fun _ _ => rfl)
  rw [tot_all] at h3
  exact Rat.le_trans h2 h3
/-- Their denominators. -/
theorem sc_tm {d : Nat} {r : Rat} (h : Sc d 1 r) (h' : Sc d 1 (1 - r)) {n k : Nat} (hk : k ≤ n) : Sc d n (tm r n k) := by
  have := ((Sc.nat d (ch n k)).mul (h.pow k)).mul (h'.pow (n - k))
  have e : 0 + 1 * k + 1 * (n - k) = n := by omega
  rwa [e] at this
theorem sc_sm {d : Nat} {r : Rat} (h : Sc d 1 r) (h' : Sc d 1 (1 - r)) {n : Nat} (f : Nat → Bool) : ∀ {m : Nat}, m ≤ n + 1 → Sc d n (sm r n f m)
  | 0, _ => (Sc.nat d 0).le (Nat.zero_le n)
  | m + 1, hm => by
    show Sc d n (sm r n f m + if f m then _ else 0)
    refine (sc_sm h h' f (by omega)).add ?_
    split
    · exact sc_tm h h' (by omega)
    · exact (Sc.nat d 0).le (Nat.zero_le n)
end Go.Proofs.YtjkffgcikbkjeaaGreat

/- Contracts: noise.whole, other, Chance. -/
namespace Go.Proofs.YtjkffgcikbkjeaaGreat
open Go.RowKit

/-- The box g holds the fraction c. -/
structure Bq (v : World) (g : Nat) (c : Fa) : Prop where
  c0 : v.cell? ⟨g, 0, none⟩ = some (.slice c.A c.n c.c)
  c1 : v.cell? ⟨g, 1, none⟩ = some (.slice c.B c.m c.d)
  fz : ∀ j, v.frozen? ⟨g, j, none⟩ = false
  sz : g < v.heap.size
  nb : NB v g
abbrev fa0 : Fa := ⟨none, 0, 0, none, 0, 0⟩
theorem Bq.below {v v' : World} {g : Nat} {c : Fa} (h : Bq v g c) (hb : Below v.heap.size v v') : Bq v' g c := by
  have h1 := h.sz
  refine ⟨?_, ?_, fun j => ?_, Nat.lt_of_lt_of_le h.sz hb.size, fun j x => ?_⟩
  · rw [hb.cell (by simp; omega)]; exact h.c0
  · rw [hb.cell (by simp; omega)]; exact h.c1
  · rw [hb.frozen (by simp; omega)]; exact h.fz j
  · rw [hb.cell (by simp; omega)]; exact h.nb j x
theorem Bq.alloc {v : World} {g : Nat} {c : Fa} (h : Bq v g c) (o : Obj) : Bq (v.alloc o) g c := h.below ((Below.refl _ _).alloc (Nat.le_refl _) _)
theorem Bq.mk0 {w : World} (t : TypeId) (c : Fa) {g : Nat} (hg : g = w.heap.size) : Bq (w.alloc (.cells #[.slice c.A c.n c.c, .slice c.B c.m c.d] t)) g c := by
  subst hg
  refine ⟨by simp [go_sem], by simp [go_sem], fun j => by simp [go_sem], by simp, fun j x h => ?_⟩
  rcases j with _ | _ | j <;> simp [go_sem] at h
theorem Rb.bq {v : World} {g : Nat} (h : Rb v g) : Bq v g fa0 := ⟨h.c0, h.c1, h.fz, h.sz, h.nb⟩
theorem Bq.rb {v : World} {g : Nat} (h : Bq v g fa0) : Rb v g := ⟨h.c0, h.c1, h.fz, h.sz, h.nb⟩
/-- Another fraction is stored. -/
theorem Bq.fill {v : World} {g : Nat} {c : Fa} (h : Bq v g c) (x : Fa) : Bq ((v.setCell ⟨g, 0, none⟩ (.slice x.A x.n x.c)).setCell ⟨g, 1, none⟩ (.slice x.B x.m x.d)) g x := by
  have h1 := h.c0
  have h2 := h.c1
  refine ⟨by simp [go_sem, *], by simp [go_sem, *], fun j => by have := h.fz j; simp [go_sem, *], by have := h.sz; simpa using this, (h.nb.put 0 (by simp)).put 1 (by simp)⟩
theorem NB.far {w : World} {g g' : Nat} (h : NB w g) (hg : g' ≠ g) (i : Nat) (v : Value) : NB (w.setCell ⟨g', i, none⟩ v) g := by
  intro j x
  rw [World.cell?_setCell_other _ _ _ _ (by intro h; injection h; omega)]
  exact h j x
theorem Bq.far {v : World} {g g' : Nat} {c : Fa} (h : Bq v g c) (hg : g' ≠ g) (x y : Value) : Bq ((v.setCell ⟨g', 0, none⟩ x).setCell ⟨g', 1, none⟩ y) g c := by
  refine ⟨?_, ?_, fun j => ?_, by have := h.sz; simpa using this, (h.nb.far hg _ _).far hg _ _⟩
  · rw [World.cell?_setCell_other _ _ _ _ (by intro h; injection h; omega), World.cell?_setCell_other _ _ _ _ (by intro h; injection h; omega)]; exact h.c0
  · rw [World.cell?_setCell_other _ _ _ _ (by intro h; injection h; omega), World.cell?_setCell_other _ _ _ _ (by intro h; injection h; omega)]; exact h.c1
  · have := h.fz j; simp [go_sem, *]
theorem Fo.fill {w : World} {a : Fa} {o : Option Rat} (h : Fo w a o) {g : Nat} {c : Fa} (hg : Bq w g c) (x : Fa) : Fo ((w.setCell ⟨g, 0, none⟩ (.slice x.A x.n x.c)).setCell ⟨g, 1, none⟩ (.slice x.B x.m x.d)) a o := h.put2 hg.nb _ _ (by simp)
/-- A fraction is returned. -/
def Ret1 (w : World) (o : Option Rat) (e : Ending) (w' : World) : Prop := ∃ c : Fa, e = .returned (.agg #[.slice c.A c.n c.c, .slice c.B c.m c.d]) ∧ Fo w' c o ∧ Below w.heap.size w w'
theorem mk_one (n : Nat) : mkRat (n : Int) 1 = (n : Rat) := by rw [Rat.mkRat_one]; rfl
set_option maxRecDepth 100000 in
set_option maxHeartbeats 8000000 in
theorem whole_any (w : World) (n : Nat) (hn : n < 9223372036854775808) :
    Calls Tryz.prog 69 #[.int .i64 (n : Int)] w fun e w' => Ret1 w (some (n : Rat)) e w' := by
  go_enter Tryz.func69, Tryz.ntmps69
  go_upto_region 1 with (fail)
  generalize hW : World.alloc w _ = v
  have HRB := hide (show Rb v w.heap.size by rw [← hW]; exact Rb.mk0 _ rfl)
  have HBV := hide (show Below w.heap.size w v by rw [← hW]; exact (Below.refl _ _).alloc (Nat.le_refl _) _)
  obtain ⟨r0, r1, rf, rz, -⟩ := HRB.out
  clear hW
  go_wp2_with (go_at_call 52; refine (fof_any _ n 1 hn (by omega) (by omega)).mono ?_; rintro e w1 ⟨c, rfl, ho, hb⟩; rw [mk_one] at ho; have HO := hide ho; have HR1 := hide (HRB.out.below hb); have HB1 := hide (HBV.out.trans (hb.mono HBV.out.size)); obtain ⟨z0, z1, z2, z3, -⟩ := HR1.out; clear ho hb)
  refine bodyPost_ret (v := .agg #[.slice c.A c.n c.c, .slice c.B c.m c.d]) (by simp [results, Tryz.results69, go_sem, *]) rfl ⟨c, rfl, (HO.out.put2 HR1.out.nb _ _ (by simp)).alloc _, (Rb.end0 HB1.out (Nat.le_refl _) _ _).alloc (by simp; omega) _⟩
theorem Below.of_drew {v w : World} (h : Below v.drew.heap.size v.drew w) : Below v.heap.size v w := (Dr.below ⟨1, rfl⟩).trans h
theorem Below.of_alloc {v w : World} {o : Obj} (h : Below (v.alloc o).heap.size (v.alloc o) w) : Below v.heap.size v w := ((Below.refl _ _).alloc (Nat.le_refl _) _).trans (h.mono (by simp))
theorem fsub_o (w : World) (a b : Fa) (o o' : Option Rat) (ha : Fo w a o) (hb : Fo w b o') : Calls Tryz.prog 94 #[.agg #[.slice a.A a.n a.c, .slice a.B a.m a.d], .agg #[.slice b.A b.n b.c, .slice b.B b.m b.d]] w fun e w' => Ret w (subR o o') e w' := by
  have := fsub_any w a b _ _ _ _ ha.1 hb.1
  rwa [fracOf_self ha.2, fracOf_self hb.2] at this
theorem fadd_o (w : World) (a b : Fa) (o o' : Option Rat) (ha : Fo w a o) (hb : Fo w b o') : Calls Tryz.prog 77 #[.agg #[.slice a.A a.n a.c, .slice a.B a.m a.d], .agg #[.slice b.A b.n b.c, .slice b.B b.m b.d]] w fun e w' => Ret w (addR o o') e w' := by
  have := fadd_any w a b _ _ _ _ ha.1 hb.1
  rwa [fracOf_self ha.2, fracOf_self hb.2] at this
theorem fmul_o (w : World) (a b : Fa) (o o' : Option Rat) (ha : Fo w a o) (hb : Fo w b o') : Calls Tryz.prog 76 #[.agg #[.slice a.A a.n a.c, .slice a.B a.m a.d], .agg #[.slice b.A b.n b.c, .slice b.B b.m b.d]] w fun e w' => Ret w (mulR o o') e w' := by
  have := fmul_any w a b _ _ _ _ ha.1 hb.1
  rwa [fracOf_self ha.2, fracOf_self hb.2] at this
theorem fcmp_o (w : World) (a b : Fa) (o o' : Option Rat) (ha : Fo w a o) (hb : Fo w b o') : Calls Tryz.prog 54 #[.agg #[.slice a.A a.n a.c, .slice a.B a.m a.d], .agg #[.slice b.A b.n b.c, .slice b.B b.m b.d]] w fun e w' => e = .returned (.int .i64 (cmpO o o')) ∧ Below w.heap.size w w' := by
  have := fcmp_any w a b _ _ _ _ ha.1 hb.1
  rwa [fracOf_self ha.2, fracOf_self hb.2] at this
theorem whole1_any (w : World) : Calls Tryz.prog 69 #[.int .i64 1] w fun e w' => Ret1 w (some 1) e w' := whole_any w 1 (by omega)
theorem whole0_any (w : World) : Calls Tryz.prog 69 #[.int .i64 0] w fun e w' => Ret1 w (some 0) e w' := whole_any w 0 (by omega)
set_option maxRecDepth 100000 in
set_option maxHeartbeats 8000000 in
theorem other_any (w : World) (a : Fa) (r : Rat) (ha : Fo w a (some r)) (h1 : r ≤ 1) (hf : fitsR (1 - r) = true) :
    Calls Tryz.prog 74 #[.agg #[.slice a.A a.n a.c, .slice a.B a.m a.d]] w fun e w' => Ret1 w (some (1 - r)) e w' := by
  have HX := hide (show subR (some 1) (some r) = (some (1 - r), 0) by
    show (if 1 < r then (none, 5) else limR (1 - r)) = _
    rw [if_neg (Rat.not_lt.2 h1), limR_fit hf])
  go_enter Tryz.func74, Tryz.ntmps74
  go_upto_region 1 with (fail)
  generalize hW : World.alloc (World.alloc w _) _ = v
  have HRB := hide (show Rb v (w.heap.size + 1) by rw [← hW]; exact Rb.mk0 _ (by simp))
  have HBV := hide (show Below w.heap.size w v by rw [← hW]; exact ((Below.refl _ _).alloc (Nat.le_refl _) _).alloc (by simp) _)
  have HA := hide (show Fo v a (some r) by rw [← hW]; exact (ha.alloc _).alloc _)
  have a0 : v.cell? ⟨w.heap.size, 0, none⟩ = some (.slice a.A a.n a.c) := by rw [← hW]; clear hW; go_simp
  have a1 : v.cell? ⟨w.heap.size, 1, none⟩ = some (.slice a.B a.m a.d) := by rw [← hW]; clear hW; go_simp
  obtain ⟨r0, r1, rf, rz, -⟩ := HRB.out
  clear hW ha
  go_cut [3] from 3 to 12 (fun s3 wx => ∃ (b : Nat) (c : Fa), s3 = .pointer (some ⟨b, 0, none⟩) ∧ Hid (Bq wx b c) ∧ Hid (Fo wx c (some (1 - r))) ∧ Hid (Rb wx (w.heap.size + 1)) ∧ Hid (Below w.heap.size w wx))
  case first =>
    go_region_held3 (fun W => W.cell? ⟨w.heap.size, 0, none⟩ = some (.slice a.A a.n a.c) ∧ W.cell? ⟨w.heap.size, 1, none⟩ = some (.slice a.B a.m a.d)) (first | exact ⟨a0, a1⟩ | exact ⟨e0, e1⟩ | exact ⟨g0, g1⟩ | (constructor <;> (repeat rw [World.cell?_setCell_other _ _ _ _ (by intro h; injection h; omega)]) <;> first | exact g0 | exact g1 | go_keep)) (first
      | (go_at_call 69; (with_reducible refine (whole1_any _).mono ?_); rintro e w1 ⟨c1, rfl, ho, hb⟩; have HO1 := hide ho; have hb' : Below v.heap.size v w1 := (by first | exact Below.of_drew hb | exact Below.of_drew (Below.of_alloc hb)); have HB1 := hide hb'; (try (have HQ := hide (Bq.below (g := v.heap.size) (Bq.mk0 (w := v.drew) 52 fa0 rfl) hb))); have e0 := (hb'.cell (p := ⟨w.heap.size, 0, none⟩) (by simp; omega)).trans a0; have e1 := (hb'.cell (p := ⟨w.heap.size, 1, none⟩) (by simp; omega)).trans a1; have q3 := hb'.size; clear ho hb hb')
      | (go_at_call 94; (with_reducible refine (fsub_o _ c1 a (some 1) (some r) (by first | exact HO1.out | exact HO1.out.alloc _) (by first | exact HA.out.below HB1.out | exact (HA.out.below HB1.out).alloc _)).mono ?_); rintro e w2 ⟨c, rfl, ho, hb⟩; rw [HX.out] at ho; have HO := hide ho; have hb' : Below w1.heap.size w1 w2 := (by first | exact hb | exact Below.of_alloc hb); have HB2 := hide (HB1.out.trans (hb'.mono HB1.out.size)); have g0 := (HB2.out.cell (p := ⟨w.heap.size, 0, none⟩) (by simp; omega)).trans a0; have g1 := (HB2.out.cell (p := ⟨w.heap.size, 1, none⟩) (by simp; omega)).trans a1; (try (have HQ2 := hide (HQ.out.below hb))); (try (have HQ2 := hide (Bq.below (g := w1.heap.size) (Bq.mk0 (w := w1) 52 fa0 rfl) hb))); (try (obtain ⟨s0, s1, s2, s3, -⟩ := HQ2.out)); clear ho hb hb'))
    all_goals
      have HR2 := hide (HRB.out.below HB2.out)
      have HBW := hide (HBV.out.trans (HB2.out.mono HBV.out.size))
      have hz := HB1.out.size
      have hz2 := HB2.out.size
      have hz3 := HBV.out.size
      go_wp2_with fail
      go_meet
      case rel => first
        | exact ⟨_, c, rfl, hide (HQ2.out.fill c), hide (HO.out.fill HQ2.out c), hide (HR2.out.bq.far (by omega) _ _).rb, hide (Rb.end0 HBW.out (by omega) _ _)⟩
        | exact ⟨_, c, rfl, hide (Bq.mk0 _ c rfl), hide (HO.out.alloc _), hide (HR2.out.bq.alloc _).rb, hide (HBW.out.alloc (by omega) _)⟩
  case rest =>
    obtain ⟨b, c, rfl, HQ, HO, HR, HB⟩ := hcut
    obtain ⟨z0, z1, z2, z3, -⟩ := HR.out
    obtain ⟨c0, c1, -, -, -⟩ := HQ.out
    go_wp2_with fail
    refine bodyPost_ret (v := .agg #[.slice c.A c.n c.c, .slice c.B c.m c.d]) (by simp [results, Tryz.results74, go_sem, *]) rfl ⟨c, rfl, (HO.out.put2 HR.out.nb _ _ (by simp)), (Rb.end0 HB.out (by omega) _ _)⟩
end Go.Proofs.YtjkffgcikbkjeaaGreat

/- Contracts: noise.Chance. -/
namespace Go.Proofs.YtjkffgcikbkjeaaGreat
open Go.RowKit

/-- A chance: at most 1, with a denominator of at most 1000. -/
def chO : Option Rat → Bool
  | some r => decide (r ≤ 1) && decide (r.den ≤ 1000)
  | none => false
theorem nof1000 (w : World) : Calls Tryz.prog 67 #[.int .u64 1000] w fun e w' => ∃ A m c, e = .returned (.slice A m c) ∧ m ≤ c ∧ m ≤ 2 ∧ Ul w' none A m (lm 1000) ∧ Below w.heap.size w w' := nof_any w 1000 (by omega)
set_option maxRecDepth 100000 in
set_option maxHeartbeats 8000000 in
theorem chance_any (w : World) (a : Fa) (l k : List Nat) (hq : Fq w a l k) :
    Calls Tryz.prog 53 #[.agg #[.slice a.A a.n a.c, .slice a.B a.m a.d]] w fun e w' => e = .returned (.bool (chO (fracOf l k))) ∧ Below w.heap.size w w' := by
  have hn := hq.n
  have hm := hq.m
  rcases hA : fracOf l k with _ | r
  · have HA := hide hA
    clear hA
    go_enter Tryz.func53, Tryz.ntmps53
    go_upto_region 1 with (fail)
    generalize hW : World.alloc w _ = v
    have HBV := hide (show Below w.heap.size w v by rw [← hW]; exact (Below.refl _ _).alloc (Nat.le_refl _) _)
    have HQ := hide (show Fq v a l k by rw [← hW]; exact hq.alloc _)
    have a0 : v.cell? ⟨w.heap.size, 0, none⟩ = some (.slice a.A a.n a.c) := by rw [← hW]; clear hW; go_simp
    have a1 : v.cell? ⟨w.heap.size, 1, none⟩ = some (.slice a.B a.m a.d) := by rw [← hW]; clear hW; go_simp
    have rz : w.heap.size < v.heap.size := by rw [← hW]; simp
    clear hW hq
    go_cut [2] from 2 to 18 (fun s2 wx => s2 = .bool false ∧ Hid (Below v.heap.size v wx))
    case first =>
      first | (go_region_with (first | (go_at_call 68; (with_reducible refine (fcheck_any _ a l k (by first | exact HQ.out | exact HQ.out.drew)).mono ?_); rintro e w1 ⟨he, hb⟩; rw [HA.out] at he; subst he; have hb' : Below v.heap.size v w1 := (by first | exact hb | exact Below.of_drew hb); have HB1 := hide hb'; have e0 := (hb'.cell (p := ⟨w.heap.size, 0, none⟩) (by simp; omega)).trans a0; have e1 := (hb'.cell (p := ⟨w.heap.size, 1, none⟩) (by simp; omega)).trans a1; clear hb hb'))) | fail
      all_goals
        go_wp2_with fail
        go_meet
        case rel => exact ⟨rfl, HB1⟩
    case rest =>
      obtain ⟨rfl, HB1⟩ := hcut
      go_wp2_with fail
      refine bodyPost_ret (v := .bool false) (by simp [results, Tryz.results53, go_sem, *]) rfl ⟨rfl, HBV.out.trans (HB1.out.mono HBV.out.size)⟩
  · have HA := hide hA
    have HQo0 : Fo w a (some r) := ⟨by have h := fracOf_some hA; rw [h.1, h.2.1] at hq; exact hq, (fracOf_some hA).2.2⟩
    have hm128 := HQo0.small.2
    have HN := hide (show (if natB k && natB (lm 1000) then cmpN (lv k) (lv (lm 1000)) else 0) = cmpN r.den 1000 by
      obtain ⟨h1, h2, h3, h4⟩ := fracOf_some hA
      have h5 : natB k = true := by
        rw [h2, natB_lm]
        simp only [fitsR, Bool.and_eq_true, decide_eq_true_eq] at h4
        simp [h4.2]
      rw [h5, natB64 (by omega), if_pos (by rfl), h2, lv_lm, lv_lm])
    have HCX := hide (show cmpO (some r) (some 1) = cmpQ r 1 from rfl)
    clear hA
    by_cases h1 : r ≤ 1
    · have d1 : decide (cmpQ r 1 ≤ 0) = true := decide_eq_true (cmpQ_le.2 h1)
      have HE := hide (show chO (some r) = decide (cmpN r.den 1000 ≤ 0) by
        show (decide (r ≤ 1) && _) = _
        rw [decide_eq_true h1, Bool.true_and]
        exact decide_eq_decide.2 cmpN_le.symm)
      clear h1
      go_enter Tryz.func53, Tryz.ntmps53
      go_upto_region 1 with (fail)
      generalize hW : World.alloc w _ = v
      have HBV := hide (show Below w.heap.size w v by rw [← hW]; exact (Below.refl _ _).alloc (Nat.le_refl _) _)
      have HQ := hide (show Fq v a l k by rw [← hW]; exact hq.alloc _)
      have a0 : v.cell? ⟨w.heap.size, 0, none⟩ = some (.slice a.A a.n a.c) := by rw [← hW]; clear hW; go_simp
      have a1 : v.cell? ⟨w.heap.size, 1, none⟩ = some (.slice a.B a.m a.d) := by rw [← hW]; clear hW; go_simp
      have rz : w.heap.size < v.heap.size := by rw [← hW]; simp
      clear hW hq
      have HQo := hide (show Fo v a (some r) from HQo0.below HBV.out)
      clear HQo0
      go_region_held3 (fun W => W.cell? ⟨w.heap.size, 0, none⟩ = some (.slice a.A a.n a.c) ∧ W.cell? ⟨w.heap.size, 1, none⟩ = some (.slice a.B a.m a.d)) (first | exact ⟨a0, a1⟩ | exact ⟨e0, e1⟩ | exact ⟨g0, g1⟩ | exact ⟨i0, i1⟩ | exact ⟨j0, j1⟩ | exact ⟨k0, k1⟩) (first | (go_at_call 68; (with_reducible refine (fcheck_any _ a l k (by first | exact HQ.out | exact HQ.out.drew)).mono ?_); rintro e w1 ⟨he, hb⟩; rw [HA.out] at he; subst he; have hb' : Below v.heap.size v w1 := (by first | exact hb | exact Below.of_drew hb); have HB1 := hide hb'; have e0 := (hb'.cell (p := ⟨w.heap.size, 0, none⟩) (by simp; omega)).trans a0; have e1 := (hb'.cell (p := ⟨w.heap.size, 1, none⟩) (by simp; omega)).trans a1; clear hb hb') | (go_at_call 69; (with_reducible refine (whole1_any _).mono ?_); rintro e w2 ⟨c1, rfl, ho, hb⟩; have HO1 := hide ho; have hb' : Below w1.heap.size w1 w2 := hb; have HB2 := hide (HB1.out.trans (hb'.mono HB1.out.size)); have g0 := (HB2.out.cell (p := ⟨w.heap.size, 0, none⟩) (by simp; omega)).trans a0; have g1 := (HB2.out.cell (p := ⟨w.heap.size, 1, none⟩) (by simp; omega)).trans a1; clear ho hb hb') | (go_at_call 54; (with_reducible refine (fcmp_o _ a c1 (some r) (some 1) (HQo.out.below HB2.out) HO1.out).mono ?_); rintro e w3 ⟨he, hb⟩; rw [HCX.out] at he; subst he; have HB3 := hide (HB2.out.trans (hb.mono HB2.out.size)); have i0 := (HB3.out.cell (p := ⟨w.heap.size, 0, none⟩) (by simp; omega)).trans a0; have i1 := (HB3.out.cell (p := ⟨w.heap.size, 1, none⟩) (by simp; omega)).trans a1; clear hb) | (go_at_call 67; (with_reducible refine (nof1000 _).mono ?_); rintro e w4 ⟨A4, m4, c4, rfl, h4, h42, hu, hb⟩; have HU4 := hide hu; have HB4 := hide (HB3.out.trans (hb.mono HB3.out.size)); have j0 := (HB4.out.cell (p := ⟨w.heap.size, 0, none⟩) (by simp; omega)).trans a0; have j1 := (HB4.out.cell (p := ⟨w.heap.size, 1, none⟩) (by simp; omega)).trans a1; clear hu hb) | (go_at_call 70; (with_reducible refine (ncmp_any _ none none a.B a.m a.d A4 m4 c4 _ _ (HQ.out.below HB4.out).v HU4.out (by omega) (by omega)).mono ?_); rintro e w5 ⟨rfl, hb⟩; rw [HN.out]; have HB5 := hide (HB4.out.trans (hb.mono HB4.out.size)); have k0 := (HB5.out.cell (p := ⟨w.heap.size, 0, none⟩) (by simp; omega)).trans a0; have k1 := (HB5.out.cell (p := ⟨w.heap.size, 1, none⟩) (by simp; omega)).trans a1; clear hb))
      go_wp2_with fail
      refine bodyPost_ret (v := .bool (decide (cmpN r.den 1000 ≤ 0))) (by simp [results, Tryz.results53, go_sem, *]) rfl ⟨by rw [HE.out], HBV.out.trans (HB5.out.mono HBV.out.size)⟩
    · have d1 : decide (cmpQ r 1 ≤ 0) = false := decide_eq_false (fun h => h1 (cmpQ_le.1 h))
      have HE := hide (show chO (some r) = false by
        show (decide (r ≤ 1) && _) = _
        rw [decide_eq_false h1, Bool.false_and])
      clear h1
      go_enter Tryz.func53, Tryz.ntmps53
      go_upto_region 1 with (fail)
      generalize hW : World.alloc w _ = v
      have HBV := hide (show Below w.heap.size w v by rw [← hW]; exact (Below.refl _ _).alloc (Nat.le_refl _) _)
      have HQ := hide (show Fq v a l k by rw [← hW]; exact hq.alloc _)
      have a0 : v.cell? ⟨w.heap.size, 0, none⟩ = some (.slice a.A a.n a.c) := by rw [← hW]; clear hW; go_simp
      have a1 : v.cell? ⟨w.heap.size, 1, none⟩ = some (.slice a.B a.m a.d) := by rw [← hW]; clear hW; go_simp
      have rz : w.heap.size < v.heap.size := by rw [← hW]; simp
      clear hW hq
      have HQo := hide (show Fo v a (some r) from HQo0.below HBV.out)
      clear HQo0
      go_cut [2] from 2 to 18 (fun s2 wx => s2 = .bool false ∧ Hid (Below v.heap.size v wx))
      case first =>
        first | (go_region_with (first | (go_at_call 68; (with_reducible refine (fcheck_any _ a l k (by first | exact HQ.out | exact HQ.out.drew)).mono ?_); rintro e w1 ⟨he, hb⟩; rw [HA.out] at he; subst he; have hb' : Below v.heap.size v w1 := (by first | exact hb | exact Below.of_drew hb); have HB1 := hide hb'; have e0 := (hb'.cell (p := ⟨w.heap.size, 0, none⟩) (by simp; omega)).trans a0; have e1 := (hb'.cell (p := ⟨w.heap.size, 1, none⟩) (by simp; omega)).trans a1; clear hb hb') | (go_at_call 69; (with_reducible refine (whole1_any _).mono ?_); rintro e w2 ⟨c1, rfl, ho, hb⟩; have HO1 := hide ho; have hb' : Below w1.heap.size w1 w2 := hb; have HB2 := hide (HB1.out.trans (hb'.mono HB1.out.size)); have g0 := (HB2.out.cell (p := ⟨w.heap.size, 0, none⟩) (by simp; omega)).trans a0; have g1 := (HB2.out.cell (p := ⟨w.heap.size, 1, none⟩) (by simp; omega)).trans a1; clear ho hb hb') | (go_at_call 54; (with_reducible refine (fcmp_o _ a c1 (some r) (some 1) (HQo.out.below HB2.out) HO1.out).mono ?_); rintro e w3 ⟨he, hb⟩; rw [HCX.out] at he; subst he; have HB3 := hide (HB2.out.trans (hb.mono HB2.out.size)); have i0 := (HB3.out.cell (p := ⟨w.heap.size, 0, none⟩) (by simp; omega)).trans a0; have i1 := (HB3.out.cell (p := ⟨w.heap.size, 1, none⟩) (by simp; omega)).trans a1; clear hb))) | fail
        all_goals
          go_wp2_with fail
          go_meet
          case rel => exact ⟨rfl, HB3⟩
      case rest =>
        obtain ⟨rfl, HB3⟩ := hcut
        go_wp2_with fail
        refine bodyPost_ret (v := .bool false) (by simp [results, Tryz.results53, go_sem, *]) rfl ⟨by rw [HE.out], HBV.out.trans (HB3.out.mono HBV.out.size)⟩
end Go.Proofs.YtjkffgcikbkjeaaGreat

/- Contracts: fraction.Pow. -/
namespace Go.Proofs.YtjkffgcikbkjeaaGreat
open Go.RowKit

/-- One operand's box at the world's end, the result's box behind it. -/
structure F1 (w0 v : World) (a : Fa) (l k : List Nat) : Prop where
  bw : Below w0.heap.size w0 v
  c0 : v.cell? ⟨w0.heap.size, 0, none⟩ = some (.slice a.A a.n a.c)
  c1 : v.cell? ⟨w0.heap.size, 1, none⟩ = some (.slice a.B a.m a.d)
  sz : w0.heap.size + 1 < v.heap.size
  q : Fq v a l k
  rb : Rb v (w0.heap.size + 1)
theorem F1.below {w0 v v' : World} {a : Fa} {l k : List Nat} (h : F1 w0 v a l k) (hb : Below v.heap.size v v') : F1 w0 v' a l k := by
  have h1 := h.sz
  refine ⟨h.bw.trans (hb.mono h.bw.size), ?_, ?_, Nat.lt_of_lt_of_le h.sz hb.size, h.q.below hb, h.rb.below hb⟩
  · rw [hb.cell (by simp; omega)]; exact h.c0
  · rw [hb.cell (by simp; omega)]; exact h.c1
theorem F1.mk0 {w0 : World} {a : Fa} {l k : List Nat} (h : Fq w0 a l k) (t t' : TypeId) : F1 w0 ((w0.alloc (.cells #[.slice a.A a.n a.c, .slice a.B a.m a.d] t)).alloc (.cells #[.slice none 0 0, .slice none 0 0] t')) a l k :=
  ⟨((Below.refl _ _).alloc (Nat.le_refl _) _).alloc (by simp) _, by simp [go_sem], by simp [go_sem], by simp, (h.alloc _).alloc _, Rb.mk0 _ (by simp)⟩
theorem F1.ca {w0 v : World} {a : Fa} {l k : List Nat} (h : F1 w0 v a l k) : v.cell? ⟨w0.heap.size, 0, none⟩ = some (.slice a.A a.n a.c) ∧ v.cell? ⟨w0.heap.size, 1, none⟩ = some (.slice a.B a.m a.d) ∧ w0.heap.size + 1 < v.heap.size ∧
  v.cell? ⟨w0.heap.size + 1, 0, none⟩ = some (.slice none 0 0) ∧ v.cell? ⟨w0.heap.size + 1, 1, none⟩ = some (.slice none 0 0) ∧ (∀ j, v.frozen? ⟨w0.heap.size + 1, j, none⟩ = false) := ⟨h.c0, h.c1, h.sz, h.rb.c0, h.rb.c1, h.rb.fz⟩
theorem F1.end {w0 v : World} {a : Fa} {l k : List Nat} (h : F1 w0 v a l k) {c : Fa} {x : Option Rat × Int} {er : Int} (h1 : er = x.2) (h2 : Fo v c x.1) :
    Ret w0 x (.returned (.tuple #[.agg #[.slice c.A c.n c.c, .slice c.B c.m c.d], .int .i64 er])) ((v.setCell ⟨w0.heap.size + 1, 0, none⟩ (.slice c.A c.n c.c)).setCell ⟨w0.heap.size + 1, 1, none⟩ (.slice c.B c.m c.d)) := Ret.mk0 h1 h2 h.rb h.bw (by omega)
theorem F1.err {w0 v : World} {a : Fa} {l k : List Nat} (h : F1 w0 v a l k) {x : Option Rat × Int} {er : Int} (h1 : x = (none, er)) :
    Ret w0 x (.returned (.tuple #[.agg #[.slice none 0 0, .slice none 0 0], .int .i64 er])) ((v.setCell ⟨w0.heap.size + 1, 0, none⟩ (.slice none 0 0)).setCell ⟨w0.heap.size + 1, 1, none⟩ (.slice none 0 0)) := Ret.err0 h1 h.rb h.bw (by omega)
theorem lpow128 (w : World) (A : Option Addr) (n c : Nat) (a k : Nat) (hU : Ul w none A n (lm a)) (hn : n ≤ 1000) (hk : k ≤ 65536) :
    Calls Tryz.prog 95 #[.slice A n c, .int .i64 (k : Int), .int .i64 128] w fun e w' => ∃ A' m' c' ok, e = .returned (.tuple #[.slice A' m' c', .bool ok]) ∧ m' ≤ c' ∧ Hid (ok = decide ((lm (a ^ k)).length ≤ 128)) ∧ Ul w' none A' m' (if ok then lm (a ^ k) else []) ∧ Below w.heap.size w w' :=
  lpow_any w none A n c a k 128 hU hn hk (by omega) (by omega)
theorem rn_den_pow (r : Rat) (n : Nat) : (r ^ n).den = r.den ^ n := Rat.den_pow r n
set_option maxRecDepth 100000 in
set_option maxHeartbeats 8000000 in
theorem fpow_any (w : World) (a : Fa) (l k : List Nat) (n : Int) (hq : Fq w a l k) (hn : -9223372036854775808 ≤ n) (hn2 : n < 9223372036854775808) :
    Calls Tryz.prog 75 #[.agg #[.slice a.A a.n a.c, .slice a.B a.m a.d], .int .i64 n] w fun e w' => Ret w (powR (fracOf l k) n) e w' := by
  rcases hA : fracOf l k with _ | r
  · have HA := hide hA
    clear hA
    go_enter Tryz.func75, Tryz.ntmps75
    go_upto_region 1 with (fail)
    generalize hW : World.alloc (World.alloc w _) _ = v
    have HF := hide (show F1 w v a (l) (k) by rw [← hW]; exact F1.mk0 hq _ _)
    obtain ⟨a0, a1, az, r0, r1, rf⟩ := HF.out.ca
    clear hW hq
    go_wp2_with (go_at_call 68; (with_reducible refine (fcheck_any _ a (l) (k) HF.out.q).mono ?_); rintro e w1 ⟨he, hb⟩; rw [HA.out] at he; subst he; have HF1 := hide (HF.out.below hb); obtain ⟨e0, e1, ez, s0, s1, sf⟩ := HF1.out.ca; clear hb)
    refine bodyPost_ret (v := .tuple #[.agg #[.slice none 0 0, .slice none 0 0], .int .i64 1]) (by simp [results, Tryz.results75, go_sem, *]) rfl (HF1.out.err rfl)
  · have HA := hide hA
    obtain ⟨rfl, rfl, hr0, hr⟩ := fracOf_some hA
    obtain ⟨hz1, hz2⟩ := Fq.small hq hr
    clear hA
    by_cases h0 : n < 0
    · have HX := hide (show powR (some r) n = (none, 3) from if_pos (Or.inl h0))
      go_enter Tryz.func75, Tryz.ntmps75
      go_upto_region 1 with (fail)
      generalize hW : World.alloc (World.alloc w _) _ = v
      have HF := hide (show F1 w v a (lm (rn r)) (lm r.den) by rw [← hW]; exact F1.mk0 hq _ _)
      obtain ⟨a0, a1, az, r0, r1, rf⟩ := HF.out.ca
      clear hW hq
      go_wp2_with (go_at_call 68; (with_reducible refine (fcheck_any _ a (lm (rn r)) (lm r.den) HF.out.q).mono ?_); rintro e w1 ⟨he, hb⟩; rw [HA.out] at he; subst he; have HF1 := hide (HF.out.below hb); obtain ⟨e0, e1, ez, s0, s1, sf⟩ := HF1.out.ca; clear hb)
      refine bodyPost_ret (v := .tuple #[.agg #[.slice none 0 0, .slice none 0 0], .int .i64 3]) (by simp [results, Tryz.results75, go_sem, *]) rfl (HF1.out.err HX.out)
    · by_cases h6 : 65536 < n
      · have HX := hide (show powR (some r) n = (none, 3) from if_pos (Or.inr h6))
        go_enter Tryz.func75, Tryz.ntmps75
        go_upto_region 1 with (fail)
        generalize hW : World.alloc (World.alloc w _) _ = v
        have HF := hide (show F1 w v a (lm (rn r)) (lm r.den) by rw [← hW]; exact F1.mk0 hq _ _)
        obtain ⟨a0, a1, az, r0, r1, rf⟩ := HF.out.ca
        clear hW hq
        go_wp2_with (go_at_call 68; (with_reducible refine (fcheck_any _ a (lm (rn r)) (lm r.den) HF.out.q).mono ?_); rintro e w1 ⟨he, hb⟩; rw [HA.out] at he; subst he; have HF1 := hide (HF.out.below hb); obtain ⟨e0, e1, ez, s0, s1, sf⟩ := HF1.out.ca; clear hb)
        refine bodyPost_ret (v := .tuple #[.agg #[.slice none 0 0, .slice none 0 0], .int .i64 3]) (by simp [results, Tryz.results75, go_sem, *]) rfl (HF1.out.err HX.out)
      · obtain ⟨m, rfl⟩ : ∃ m : Nat, n = m := ⟨n.toNat, by omega⟩
        have HX := hide (show powR (some r) m = limR (r ^ m) from if_neg (by omega))
        have hp0 : 0 ≤ r ^ m := Rat.pow_nonneg hr0
        have HM := hide (show m ≤ 65536 by omega)
        have d0 : decide ((m : Int) < 0) = false := decide_eq_false h0
        have d6 : decide ((m : Int) > 65536) = false := decide_eq_false h6
        clear h0 h6
        have hqn : a.n ≤ 1000 := by omega
        have hqm : a.m ≤ 1000 := by omega
        by_cases hu : (lm (rn r ^ m)).length ≤ 128
        · by_cases hv : (lm (r.den ^ m)).length ≤ 128
          · have HY := hide (show fitsR (r ^ m) = true by unfold fitsR; rw [rn_pow hr0, rn_den_pow]; simp [hu, hv])
            go_enter Tryz.func75, Tryz.ntmps75
            go_upto_region 1 with (fail)
            generalize hW : World.alloc (World.alloc w _) _ = v
            have HF := hide (show F1 w v a (lm (rn r)) (lm r.den) by rw [← hW]; exact F1.mk0 hq _ _)
            obtain ⟨a0, a1, az, r0, r1, rf⟩ := HF.out.ca
            clear hW hq
            go_wp2_with (first
              | (go_at_call 68; (with_reducible refine (fcheck_any _ a (lm (rn r)) (lm r.den) HF.out.q).mono ?_); rintro e w1 ⟨he, hb⟩; rw [HA.out] at he; subst he; have HF1 := hide (HF.out.below hb); obtain ⟨e0, e1, ez, s0, s1, sf⟩ := HF1.out.ca; clear hb)
              | (go_at_call 95; (with_reducible refine (lpow128 _ a.A a.n a.c (rn r) m HF1.out.q.u hqn HM.out).mono ?_); rintro e w2 ⟨A1, m1, c1, ok, rfl, hmc, hok, hu1, hb⟩; obtain rfl : ok = true := (by rw [hok.out]; exact decide_eq_true hu); have HU1 := hide hu1; have HF2 := hide (HF1.out.below hb); obtain ⟨g0, g1, gz, -⟩ := HF2.out.ca; clear hb hok hu1)
              | (go_at_call 95; (with_reducible refine (lpow128 _ a.B a.m a.d r.den m HF2.out.q.v hqm HM.out).mono ?_); rintro e w3 ⟨A2, m2, c2, ok, rfl, hmc2, hok, hu1, hb⟩; obtain rfl : ok = true := (by rw [hok.out]; exact decide_eq_true hv); have HU2 := hide hu1; have HU1b := hide (HU1.out.below hb); have HF3 := hide (HF2.out.below hb); obtain ⟨i0, i1, iz, t0, t1, tf⟩ := HF3.out.ca; clear hb hok hu1))
            have h3 := HU1b.out.len
            have h4 := HU2.out.len
            simp only [if_true] at h3 h4
            refine bodyPost_ret (v := .tuple #[.agg #[.slice A1 m1 c1, .slice A2 m2 c2], .int .i64 0]) (by simp [results, Tryz.results75, go_sem, *]) rfl (HF3.out.end (c := ⟨A1, m1, c1, A2, m2, c2⟩) (by rw [HX.out, limR_fit HY.out]) ?_)
            rw [HX.out, limR_fit HY.out]
            refine ⟨⟨?_, ?_, hmc, hmc2, by show m1 ≤ 9223372036854775807; omega, by show m2 ≤ 9223372036854775807; omega⟩, hp0, HY.out⟩
            · show Ul _ none A1 m1 (lm (rn (r ^ m))); rw [rn_pow hr0]; exact HU1b.out
            · show Ul _ none A2 m2 (lm (r ^ m).den); rw [rn_den_pow]; exact HU2.out
          · have HY := hide (show fitsR (r ^ m) = false by unfold fitsR; rw [rn_pow hr0, rn_den_pow]; simp; omega)
            go_enter Tryz.func75, Tryz.ntmps75
            go_upto_region 1 with (fail)
            generalize hW : World.alloc (World.alloc w _) _ = v
            have HF := hide (show F1 w v a (lm (rn r)) (lm r.den) by rw [← hW]; exact F1.mk0 hq _ _)
            obtain ⟨a0, a1, az, r0, r1, rf⟩ := HF.out.ca
            clear hW hq
            go_wp2_with (first
              | (go_at_call 68; (with_reducible refine (fcheck_any _ a (lm (rn r)) (lm r.den) HF.out.q).mono ?_); rintro e w1 ⟨he, hb⟩; rw [HA.out] at he; subst he; have HF1 := hide (HF.out.below hb); obtain ⟨e0, e1, ez, s0, s1, sf⟩ := HF1.out.ca; clear hb)
              | (go_at_call 95; (with_reducible refine (lpow128 _ a.A a.n a.c (rn r) m HF1.out.q.u hqn HM.out).mono ?_); rintro e w2 ⟨A1, m1, c1, ok, rfl, hmc, hok, hu1, hb⟩; obtain rfl : ok = true := (by rw [hok.out]; exact decide_eq_true hu); have HF2 := hide (HF1.out.below hb); obtain ⟨g0, g1, gz, -⟩ := HF2.out.ca; clear hb hok hu1)
              | (go_at_call 95; (with_reducible refine (lpow128 _ a.B a.m a.d r.den m HF2.out.q.v hqm HM.out).mono ?_); rintro e w3 ⟨A2, m2, c2, ok, rfl, hmc2, hok, hu1, hb⟩; obtain rfl : ok = false := (by rw [hok.out]; exact decide_eq_false hv); have HF3 := hide (HF2.out.below hb); obtain ⟨i0, i1, iz, t0, t1, tf⟩ := HF3.out.ca; clear hb hok hu1))
            refine bodyPost_ret (v := .tuple #[.agg #[.slice none 0 0, .slice none 0 0], .int .i64 2]) (by simp [results, Tryz.results75, go_sem, *]) rfl (HF3.out.err (by rw [HX.out, limR_no HY.out]))
        · have HY := hide (show fitsR (r ^ m) = false by unfold fitsR; rw [rn_pow hr0, rn_den_pow]; simp; omega)
          go_enter Tryz.func75, Tryz.ntmps75
          go_upto_region 1 with (fail)
          generalize hW : World.alloc (World.alloc w _) _ = v
          have HF := hide (show F1 w v a (lm (rn r)) (lm r.den) by rw [← hW]; exact F1.mk0 hq _ _)
          obtain ⟨a0, a1, az, r0, r1, rf⟩ := HF.out.ca
          clear hW hq
          go_wp2_with (first
            | (go_at_call 68; (with_reducible refine (fcheck_any _ a (lm (rn r)) (lm r.den) HF.out.q).mono ?_); rintro e w1 ⟨he, hb⟩; rw [HA.out] at he; subst he; have HF1 := hide (HF.out.below hb); obtain ⟨e0, e1, ez, s0, s1, sf⟩ := HF1.out.ca; clear hb)
            | (go_at_call 95; (with_reducible refine (lpow128 _ a.A a.n a.c (rn r) m HF1.out.q.u hqn HM.out).mono ?_); rintro e w2 ⟨A1, m1, c1, ok, rfl, hmc, hok, hu1, hb⟩; obtain rfl : ok = false := (by rw [hok.out]; exact decide_eq_false hu); have HF2 := hide (HF1.out.below hb); obtain ⟨g0, g1, gz, -⟩ := HF2.out.ca; clear hb hok hu1)
            | (go_at_call 95; (with_reducible refine (lpow128 _ a.B a.m a.d r.den m HF2.out.q.v hqm HM.out).mono ?_); rintro e w3 ⟨A2, m2, c2, ok, rfl, hmc2, hok, hu1, hb⟩; have HF3 := hide (HF2.out.below hb); obtain ⟨i0, i1, iz, t0, t1, tf⟩ := HF3.out.ca; clear hb hok hu1))
          refine bodyPost_ret (v := .tuple #[.agg #[.slice none 0 0, .slice none 0 0], .int .i64 2]) (by simp [results, Tryz.results75, go_sem, *]) rfl (HF3.out.err (by rw [HX.out, limR_no HY.out]))
theorem fpow_o (w : World) (a : Fa) (o : Option Rat) (n : Int) (ha : Fo w a o) (hn : -9223372036854775808 ≤ n) (hn2 : n < 9223372036854775808) : Calls Tryz.prog 75 #[.agg #[.slice a.A a.n a.c, .slice a.B a.m a.d], .int .i64 n] w fun e w' => Ret w (powR o n) e w' := by
  have := fpow_any w a _ _ n ha.1 hn hn2
  rwa [fracOf_self ha.2] at this
end Go.Proofs.YtjkffgcikbkjeaaGreat
