/- Contracts of the functions that these laws reach: part 19: Plain laws: chances over a power of a denominator are small; Plain law of the discounted estimate. No program here; Plain law of values and mixtures. No program here. -/
import Derived.Test.YtnofljgmkdommaaG18
import Derived.Test.YtnofljgmkdommaaG14
set_option linter.unusedVariables false
set_option linter.unusedSimpArgs false

/- Plain laws: chances over a power of a denominator are small. -/
namespace Go.Proofs.Ytnofljgmkdommaa

/-- A number over D^n, at most B. -/
def Dv (D n B : Nat) (r : Rat) : Prop := ∃ k : Nat, r * ((D ^ n : Nat) : Rat) = (k : Rat) ∧ k ≤ B * D ^ n
theorem Dv.add {D n B C : Nat} {r s : Rat} (h : Dv D n B r) (k : Dv D n C s) : Dv D n (B + C) (r + s) := by
  obtain ⟨i, h1, h2⟩ := h
  obtain ⟨j, k1, k2⟩ := k
  refine ⟨i + j, ?_, by rw [Nat.add_mul]; omega⟩
  rw [Rat.add_mul, h1, k1]
  simp
theorem Dv.mul {D n m B C : Nat} {r s : Rat} (h : Dv D n B r) (k : Dv D m C s) : Dv D (n + m) (B * C) (r * s) := by
  obtain ⟨i, h1, h2⟩ := h
  obtain ⟨j, k1, k2⟩ := k
  refine ⟨i * j, ?_, ?_⟩
  · rw [Nat.pow_add]
    have e : ((D ^ n * D ^ m : Nat) : Rat) = ((D ^ n : Nat) : Rat) * ((D ^ m : Nat) : Rat) := by simp
    have e2 : ((i * j : Nat) : Rat) = (i : Rat) * (j : Rat) := by simp
    rw [e, e2, ← h1, ← k1]
    grind
  · rw [Nat.pow_add]
    calc i * j ≤ (B * D ^ n) * (C * D ^ m) := Nat.mul_le_mul h2 k2
      _ = _ := by simp only [Nat.mul_comm, Nat.mul_left_comm, Nat.mul_assoc]
theorem Dv.mono {D n B C : Nat} {r : Rat} (h : Dv D n B r) (hBC : B ≤ C) : Dv D n C r := by
  obtain ⟨i, h1, h2⟩ := h
  exact ⟨i, h1, Nat.le_trans h2 (Nat.mul_le_mul_right _ hBC)⟩
theorem Dv.nat (D m : Nat) : Dv D 0 m (m : Rat) := ⟨m, by simp, by simp⟩
theorem Dv.one (D : Nat) : Dv D 0 1 1 := Dv.nat D 1
theorem Dv.zero (D n B : Nat) : Dv D n B 0 := ⟨0, by simp, by omega⟩
theorem Dv.up1 {D n B : Nat} {r : Rat} (h : Dv D n B r) : Dv D (n + 1) B r := by
  have h1 : Dv D 1 1 (1 : Rat) := ⟨D, by simp, by simp⟩
  have := h.mul h1
  rwa [Nat.mul_one, Rat.mul_one] at this
theorem Dv.up {D n B : Nat} {r : Rat} (h : Dv D n B r) : ∀ m, Dv D (n + m) B r
  | 0 => h
  | m + 1 => (Dv.up h m).up1
theorem Dv.upto {D n m B : Nat} {r : Rat} (h : Dv D n B r) (hm : n ≤ m) : Dv D m B r := by
  have := h.up (m - n)
  rwa [show n + (m - n) = m by omega] at this
theorem Chn.dv {x : Rat} (h : Chn x) : Dv x.den 1 1 x := by
  obtain ⟨k, hk⟩ := den_sc h.h0
  rw [Rat.pow_one] at hk
  refine ⟨k, by rw [Nat.pow_one]; exact hk, ?_⟩
  have h1 := Rat.mul_le_mul_of_nonneg_right h.h1 (cast_nonneg x.den)
  rw [Rat.one_mul, hk] at h1
  rw [Nat.pow_one, Nat.one_mul]
  exact_mod_cast h1
theorem Chn.dvq {x : Rat} (h : Chn x) : Dv x.den 1 1 (1 - x) := by
  obtain ⟨k, h1, h2⟩ := h.dv
  rw [Nat.one_mul] at h2
  refine ⟨x.den ^ 1 - k, ?_, by omega⟩
  have e : ((x.den ^ 1 - k : Nat) : Rat) = ((x.den ^ 1 : Nat) : Rat) - (k : Rat) := by
    have : ((x.den ^ 1 : Nat) : Rat) = ((x.den ^ 1 - k : Nat) : Rat) + (k : Rat) := by
      rw [← Rat.natCast_add]; congr 1; omega
    grind
  rw [e, ← h1]
  grind
theorem Dv.bd {D n B : Nat} {r : Rat} (h : Dv D n B r) (hD : 0 < D) (hB : 1 ≤ B) : Bd (B * D ^ n) r := by
  obtain ⟨k, h1, h2⟩ := h
  have hp : 0 < D ^ n := Nat.pow_pos hD
  have hne : ((D ^ n : Nat) : Rat) ≠ 0 := by
    intro e
    have : (D ^ n : Nat) = 0 := by exact_mod_cast e
    omega
  have e : r = mkRat (k : Int) (D ^ n) := by
    rw [Rat.mkRat_eq_div, Rat.intCast_natCast, ← h1]
    rw [Rat.div_def, Rat.mul_assoc, Rat.mul_inv_cancel _ hne, Rat.mul_one]
  rw [e]
  exact Bd.mk' hp h2 (Nat.le_mul_of_pos_left _ hB)
theorem bigDv : 18446744073709551616 * 1000 ^ 66 < 4294967296 ^ 128 := by decide +kernel
theorem Dv.fits {D n B : Nat} {r : Rat} (h : Dv D n B r) (hD : 0 < D) (hD2 : D ≤ 1000) (hn : n ≤ 66) (hB : B ≤ 18446744073709551616) : fitsR r = true := by
  have h1 := (h.mono (show B ≤ B + 1 by omega)).mono (show B + 1 ≤ B + 1 by omega)
  rcases Nat.eq_zero_or_pos B with h0 | h0
  · subst h0
    exact ((h.mono (Nat.zero_le 1)).bd hD (Nat.le_refl _)).fits (Nat.lt_of_le_of_lt (by rw [Nat.one_mul]; exact Nat.le_trans (Nat.pow_le_pow_left hD2 n) (Nat.pow_le_pow_right (by omega) hn)) (by decide +kernel : 1000 ^ 66 < 4294967296 ^ 128))
  · exact (h.bd hD h0).fits (Nat.lt_of_le_of_lt (Nat.mul_le_mul hB (Nat.le_trans (Nat.pow_le_pow_left hD2 n) (Nat.pow_le_pow_right (by omega) hn))) bigDv)

/-! ### The rows' sizes -/
theorem spr_dv {D n B : Nat} {q x : Rat} (hq : Dv D 1 1 q) (hx : Dv D 1 1 x) : ∀ (l : List Rat) (c : Rat), (∀ a ∈ l, Dv D n B a) → Dv D (n + 1) B c → ∀ a ∈ spr q x c l, Dv D (n + 1) (2 * B) a
  | [], c, _, hc, a, ha => by
    simp only [spr, List.mem_singleton] at ha
    subst ha
    exact hc.mono (by omega)
  | b :: t, c, hl, hc, a, ha => by
    have hb := hl b (List.mem_cons_self ..)
    have h1 := hb.mul hq
    have h2 := hb.mul hx
    rw [Nat.mul_one] at h1 h2
    simp only [spr, List.mem_cons] at ha
    rcases ha with rfl | ha
    · exact (hc.add h1).mono (by omega)
    · exact spr_dv hq hx t (b * x) (fun a h => hl a (List.mem_cons_of_mem _ h)) h2 a ha
theorem cln_dv {D n B : Nat} {d : Nat → Nat → Int} {m : Nat} : ∀ (l : List Rat) (i : Nat), (∀ a ∈ l, Dv D n B a) → ∀ a ∈ cln d m l i, Dv D n B a
  | [], _, _, a, ha => by simp [cln] at ha
  | b :: t, i, hl, a, ha => by
    simp only [cln, List.mem_cons] at ha
    rcases ha with rfl | ha
    · split
      · exact hl b (List.mem_cons_self ..)
      · exact Dv.zero D n B
    · exact cln_dv t (i + 1) (fun a h => hl a (List.mem_cons_of_mem _ h)) a ha
theorem hit_dv {D n B : Nat} {d : Nat → Nat → Int} {E : Int} {m : Nat} : ∀ (l : List Rat) (i : Nat), (∀ a ∈ l, Dv D n B a) → Dv D n (l.length * B) (hit d E m l i)
  | [], _, _ => Dv.zero D n _
  | b :: t, i, hl => by
    have h1 : Dv D n B (if d (m - i) i = E then b else 0) := by
      split
      · exact hl b (List.mem_cons_self ..)
      · exact Dv.zero D n B
    have h2 := hit_dv (d := d) (E := E) (m := m) t (i + 1) (fun a h => hl a (List.mem_cons_of_mem _ h))
    simp only [hit]
    exact (h1.add h2).mono (by simp only [List.length_cons, Nat.add_mul, Nat.one_mul]; omega)
theorem sumL_dv {D n B : Nat} : ∀ (l : List Rat), (∀ a ∈ l, Dv D n B a) → Dv D n (l.length * B) (sumL l)
  | [], _ => Dv.zero D n _
  | b :: t, hl => by
    have h2 := sumL_dv t (fun a h => hl a (List.mem_cons_of_mem _ h))
    simp only [sumL]
    exact ((hl b (List.mem_cons_self ..)).add h2).mono (by simp only [List.length_cons, Nat.add_mul, Nat.one_mul]; omega)
/-- The values: over den^k. -/
theorem val_dv {d : Nat → Nat → Int} {x : Rat} (hx : Chn x) {g : Int → Nat → Rat} (hg : ∀ D n, ∃ m : Nat, g D n = (m : Rat)) : ∀ k p f, ∃ B, Dv x.den k B (val d x g k p f)
  | 0, p, f => by obtain ⟨m, hm⟩ := hg (d p f) (p + f); exact ⟨m, by rw [val_zero, hm]; exact Dv.nat _ m⟩
  | k + 1, p, f => by
    by_cases hd : d p f = 0
    · obtain ⟨B, hB⟩ := val_dv hx hg k p (f + 1)
      obtain ⟨C, hC⟩ := val_dv hx hg k (p + 1) f
      refine ⟨1 * B + 1 * C, ?_⟩
      rw [val_open hd, Nat.add_comm k 1]
      exact (hx.dv.mul hB).add (hx.dvq.mul hC)
    · obtain ⟨m, hm⟩ := hg (d p f) (p + f)
      exact ⟨m, by rw [val_dec hd, hm]; exact (Dv.nat _ m).upto (Nat.zero_le _)⟩
/-- A bound of the number bounds its numerator. -/
theorem Dv.le {D n B C : Nat} {r : Rat} (h : Dv D n B r) (hC : r ≤ (C : Rat)) : Dv D n C r := by
  obtain ⟨k, h1, -⟩ := h
  refine ⟨k, h1, ?_⟩
  have h2 := Rat.mul_le_mul_of_nonneg_right hC (nat_nn (D ^ n))
  rw [h1] at h2
  exact_mod_cast h2
end Go.Proofs.Ytnofljgmkdommaa

/- Plain law of the discounted estimate. No program here. -/
namespace Go.Proofs.Ytnofljgmkdommaa

def hp (e : Nat) : Rat := (mkRat 1 2) ^ e
/-- The weights of the newest k outcomes, and those of the failures among them. -/
def wS (h : Nat) : Nat → Rat
  | 0 => 2
  | k + 1 => wS h k + hp (k / h)
def fS (h : Nat) (bs : List Bool) : Nat → Rat
  | 0 => 1
  | k + 1 => fS h bs k + if bs[bs.length - 1 - k]? = some true then hp (k / h) else 0
def disc (h : Nat) (bs : List Bool) : Rat := fS h bs bs.length / wS h bs.length
def discR (bs : List Bool) (half : Int) : Option Rat × Int :=
  if 64 < bs.length then (none, 2) else if half < 1 ∨ 64 < half then (none, 3) else (some (disc half.toNat bs), 0)
theorem half_eq : mkRat 1 2 = (1 / 2 : Rat) := by decide +kernel
theorem hp_succ (e : Nat) : hp (e + 1) = hp e * (1 / 2) := by
  unfold hp
  rw [Rat.pow_succ, half_eq]
theorem hp_pos : ∀ e, 0 < hp e
  | 0 => by unfold hp; rw [Rat.pow_zero]; decide +kernel
  | e + 1 => by
    rw [hp_succ]
    have := hp_pos e
    grind
theorem hp_dv : ∀ e, Dv 2 e 1 (hp e)
  | 0 => by unfold hp; rw [Rat.pow_zero]; exact Dv.one 2
  | e + 1 => by
    rw [hp_succ]
    have h1 : Dv 2 1 1 (1 / 2 : Rat) := ⟨1, by simp; decide +kernel, by simp⟩
    exact (hp_dv e).mul h1
theorem hp_mono : ∀ {d e : Nat}, hp (d + e) ≤ hp d
  | d, 0 => Rat.le_refl
  | d, e + 1 => by
    have h1 := hp_mono (d := d) (e := e)
    have h2 := hp_pos (d + e)
    rw [show d + (e + 1) = d + e + 1 by omega, hp_succ]
    grind
theorem hp_le {d e : Nat} (h : d ≤ e) : hp e ≤ hp d := by
  have := hp_mono (d := d) (e := e - d)
  rwa [show d + (e - d) = e by omega] at this
theorem div_63 {k h : Nat} (hk : k ≤ 63) : k / h ≤ 63 := Nat.le_trans (Nat.div_le_self k h) hk
theorem hp63 {k h : Nat} (hk : k ≤ 63) : Dv 2 63 1 (hp (k / h)) := (hp_dv _).upto (div_63 hk)
theorem wS_dv (h : Nat) : ∀ k, k ≤ 64 → Dv 2 63 (2 + k) (wS h k)
  | 0, _ => (Dv.nat 2 2).upto (by omega)
  | k + 1, hk => by
    have := (wS_dv h k (by omega)).add (hp63 (h := h) (show k ≤ 63 by omega))
    rwa [show 2 + k + 1 = 2 + (k + 1) by omega] at this
theorem fS_dv (h : Nat) (bs : List Bool) : ∀ k, k ≤ 64 → Dv 2 63 (2 + k) (fS h bs k)
  | 0, _ => ((Dv.one 2).upto (by omega)).mono (by omega)
  | k + 1, hk => by
    have h1 := fS_dv h bs k (by omega)
    unfold fS
    split
    · have := h1.add (hp63 (h := h) (show k ≤ 63 by omega))
      rwa [show 2 + k + 1 = 2 + (k + 1) by omega] at this
    · rw [Rat.add_zero]
      exact h1.mono (by omega)
theorem wS_pos (h : Nat) : ∀ k, 0 < wS h k
  | 0 => by show (0 : Rat) < 2; decide +kernel
  | k + 1 => by
    have h1 := wS_pos h k
    have h2 := hp_pos (k / h)
    unfold wS
    grind
theorem fS_pos (h : Nat) (bs : List Bool) : ∀ k, 0 < fS h bs k
  | 0 => by show (0 : Rat) < 1; decide +kernel
  | k + 1 => by
    have h1 := fS_pos h bs k
    have h2 := hp_pos (k / h)
    unfold fS
    split <;> grind
theorem wS_fits {h k : Nat} (hk : k ≤ 64) : fitsR (wS h k) = true := (wS_dv h k hk).fits (by omega) (by omega) (by omega) (by omega)
theorem fS_fits {h k : Nat} {bs : List Bool} (hk : k ≤ 64) : fitsR (fS h bs k) = true := (fS_dv h bs k hk).fits (by omega) (by omega) (by omega) (by omega)
theorem hp_fits {k h : Nat} (hk : k ≤ 63) : fitsR (hp (k / h)) = true := (hp63 hk).fits (by omega) (by omega) (by omega) (by omega)
theorem big63 : 66 * 2 ^ 63 < 4294967296 ^ 128 := by decide +kernel
theorem disc_fits {h : Nat} {bs : List Bool} (hk : bs.length ≤ 64) : fitsR (disc h bs) = true := by
  obtain ⟨x, h1, h2⟩ := fS_dv h bs bs.length hk
  obtain ⟨y, k1, k2⟩ := wS_dv h bs.length hk
  have hw := wS_pos h bs.length
  have hp : ((2 ^ 63 : Nat) : Rat) > 0 := by decide +kernel
  have hy0 : 0 < y := by
    rcases Nat.eq_zero_or_pos y with h0 | h0
    · subst h0
      have : wS h bs.length * ((2 ^ 63 : Nat) : Rat) > 0 := Rat.mul_pos hw hp
      rw [k1] at this
      exact absurd this (by decide +kernel)
    · exact h0
  have hm : (2 + bs.length) * 2 ^ 63 ≤ 66 * 2 ^ 63 := Nat.mul_le_mul_right _ (by omega)
  refine fits_of hy0 (x := x) ?_ (by have := big63; omega) (by have := big63; omega)
  have hne : wS h bs.length ≠ 0 := by intro e; rw [e] at hw; exact absurd hw (by decide +kernel)
  unfold disc
  rw [← h1, ← k1, Rat.div_def, ← Rat.mul_assoc, Rat.mul_assoc (fS h bs bs.length), Rat.inv_mul_cancel _ hne, Rat.mul_one]
/-- One more failure. -/
theorem fS_set {h : Nat} {bs : List Bool} {i : Nat} (hi : bs[i]? = some false) : ∀ k, k ≤ bs.length → fS h (bs.set i true) k = fS h bs k + if bs.length - 1 - i < k then hp ((bs.length - 1 - i) / h) else 0
  | 0, _ => by
    rw [if_neg (by omega)]
    show (1 : Rat) = 1 + 0
    decide +kernel
  | k + 1, hk => by
    have hl : i < bs.length := (List.getElem?_eq_some_iff.1 hi).1
    unfold fS
    rw [fS_set hi k (by omega), List.length_set, List.getElem?_set]
    by_cases hj : i = bs.length - 1 - k
    · have e : bs.length - 1 - i = k := by omega
      rw [e, if_neg (Nat.lt_irrefl k), if_pos hj, if_pos hl, if_pos rfl, ← hj, hi, if_neg (by simp), if_pos (Nat.lt_succ_self k)]
    · have h3 : bs.length - 1 - i < k + 1 ↔ bs.length - 1 - i < k := by omega
      rw [if_neg hj]
      by_cases h2 : bs.length - 1 - i < k
      · rw [if_pos h2, if_pos (h3.2 h2)]
        grind
      · rw [if_neg h2, if_neg (fun h => h2 (h3.1 h))]
        grind
theorem fS_flip {h : Nat} {bs : List Bool} {i : Nat} (hi : bs[i]? = some false) : fS h (bs.set i true) bs.length = fS h bs bs.length + hp ((bs.length - 1 - i) / h) := by
  have hl : i < bs.length := (List.getElem?_eq_some_iff.1 hi).1
  rw [fS_set hi _ (Nat.le_refl _), if_pos (by omega)]
theorem disc_flip {h : Nat} {bs : List Bool} {i : Nat} (hi : bs[i]? = some false) : disc h (bs.set i true) = (fS h bs bs.length + hp ((bs.length - 1 - i) / h)) / wS h bs.length := by
  unfold disc
  rw [List.length_set, fS_flip hi]
theorem div_lt' {a b c : Rat} (hc : 0 < c) (h : a < b) : a / c < b / c := by
  rw [Rat.div_def, Rat.div_def]
  exact Rat.mul_lt_mul_of_pos_right h (Rat.inv_pos.2 hc)
theorem div_le' {a b c : Rat} (hc : 0 < c) (h : a ≤ b) : a / c ≤ b / c := by
  rw [Rat.div_def, Rat.div_def]
  exact Rat.mul_le_mul_of_nonneg_right h (Rat.le_of_lt (Rat.inv_pos.2 hc))
/-- A failure in the place of a run that passed. -/
theorem disc_more {h : Nat} {bs : List Bool} {i : Nat} (hi : bs[i]? = some false) : disc h bs < disc h (bs.set i true) := by
  rw [disc_flip hi]
  refine div_lt' (wS_pos _ _) ?_
  have := hp_pos ((bs.length - 1 - i) / h)
  grind
/-- A newer place. -/
theorem disc_newer {h : Nat} {bs : List Bool} {i k : Nat} (hi : bs[i]? = some false) (hk : bs[k]? = some false) (hik : i ≤ k) : disc h (bs.set i true) ≤ disc h (bs.set k true) := by
  rw [disc_flip hi, disc_flip hk]
  refine div_le' (wS_pos _ _) ?_
  have := hp_le (Nat.div_le_div_right (c := h) (show bs.length - 1 - k ≤ bs.length - 1 - i by omega))
  grind
end Go.Proofs.Ytnofljgmkdommaa

/- Plain law of values and mixtures. No program here. -/
namespace Go.Proofs.Ytnofljgmkdommaa

def valR (o : Option Rat) (c : Int) : Option Rat × Int := match o with
  | none => (none, 1)
  | some r => if 1 < r then (none, 1) else if c < 0 ∨ 1024 < c then (none, 3) else limR (r * mkRat (1 + c) 1)
def mixR (o o' : Option Rat) (p : Int) : Option Rat × Int := match o, o' with
  | some r, some s => if p < 0 ∨ 100 < p then (none, 3) else
    if fitsR (r * mkRat p 100) = false then (none, 2) else if fitsR (s * mkRat (100 - p) 100) = false then (none, 2) else limR (r * mkRat p 100 + s * mkRat (100 - p) 100)
  | _, _ => (none, 1)
def mixV (a b : Rat) (p : Nat) : Rat := a * mkRat (p : Int) 100 + b * mkRat (100 - (p : Int)) 100
theorem mk100 (p : Int) : mkRat p 100 = (p : Rat) * (1 / 100) := by
  rw [Rat.mkRat_eq_div, Rat.div_def, Rat.div_def, Rat.one_mul]
  rfl
theorem mk1 (p : Int) : mkRat p 1 = (p : Rat) := by rw [Rat.mkRat_one]
theorem cast_sub100 {p : Nat} : ((100 - (p : Int) : Int) : Rat) = 100 - (p : Rat) := by
  rw [Rat.intCast_sub]
  rfl
theorem mixV_eq (a b : Rat) (p : Nat) : mixV a b p = (a * (p : Rat) + b * (100 - (p : Rat))) * (1 / 100) := by
  unfold mixV
  rw [mk100, mk100, cast_sub100, Rat.intCast_natCast]
  grind
theorem bigM : 1000 * 1000 * 100 * 2000 < 4294967296 ^ 128 := by decide +kernel
theorem Chn.ex {a : Rat} (h : Chn a) : ∃ i d : Nat, a * (d : Rat) = (i : Rat) ∧ i ≤ d ∧ d ≤ 1000 ∧ 0 < d := by
  obtain ⟨k, h1, h2⟩ := h.dv
  rw [Nat.pow_one] at h1 h2
  exact ⟨k, a.den, h1, by omega, h.hd, Nat.pos_of_ne_zero a.den_nz⟩
theorem term_fits {a : Rat} (h : Chn a) {p : Nat} (hp : p ≤ 2000) {q : Nat} (hq : 0 < q) (hq2 : q ≤ 100) : fitsR (a * mkRat (p : Int) q) = true := by
  obtain ⟨i, d, h1, h2, h3, h4⟩ := h.ex
  have e : mkRat (p : Int) q * (q : Rat) = (p : Rat) := by
    have hq0 : (q : Rat) ≠ 0 := by intro h0; have : q = 0 := by exact_mod_cast h0
                                   omega
    rw [Rat.mkRat_eq_div, Rat.div_def, Rat.mul_assoc, Rat.intCast_natCast]
    have : ((q : Int) : Rat) = (q : Rat) := Rat.intCast_natCast q
    rw [Rat.inv_mul_cancel _ hq0, Rat.mul_one]
  have hd : d * q ≤ 1000 * 100 := Nat.mul_le_mul h3 hq2
  have hi : i * p ≤ 1000 * 2000 := Nat.mul_le_mul (by omega) hp
  have hb := bigM
  refine fits_of (D := d * q) (x := i * p) (Nat.mul_pos h4 hq) ?_ (by omega) (by omega)
  rw [Rat.natCast_mul, Rat.natCast_mul, ← h1, ← e]
  grind
theorem mix_fits {a b : Rat} (ha : Chn a) (hb : Chn b) {p : Nat} (hp : p ≤ 100) : fitsR (mixV a b p) = true := by
  obtain ⟨i, d, h1, h2, h3, h4⟩ := ha.ex
  obtain ⟨j, c, k1, k2, k3, k4⟩ := hb.ex
  have hB := bigM
  have e1 : d * c ≤ 1000 * 1000 := Nat.mul_le_mul h3 k3
  have e2 : d * c * 100 ≤ 1000 * 1000 * 100 := Nat.mul_le_mul_right _ e1
  have e3 : i * c ≤ 1000 * 1000 := Nat.mul_le_mul (by omega) k3
  have e4 : j * d ≤ 1000 * 1000 := Nat.mul_le_mul (by omega) h3
  have e5 : i * c * p ≤ 1000 * 1000 * 100 := Nat.mul_le_mul e3 hp
  have e6 : j * d * (100 - p) ≤ 1000 * 1000 * 100 := Nat.mul_le_mul e4 (by omega)
  refine fits_of (D := d * c * 100) (x := i * c * p + j * d * (100 - p)) (Nat.mul_pos (Nat.mul_pos h4 k4) (by omega)) ?_ (by omega) (by omega)
  have e7 : ((100 - p : Nat) : Rat) = 100 - (p : Rat) := by
    have : ((100 - p : Nat) : Rat) + (p : Rat) = 100 := by rw [← Rat.natCast_add, show 100 - p + p = 100 by omega]; rfl
    grind
  rw [mixV_eq, Rat.natCast_add, Rat.natCast_mul, Rat.natCast_mul, Rat.natCast_mul, Rat.natCast_mul, Rat.natCast_mul, Rat.natCast_mul, e7, ← h1, ← k1]
  have e8 : ((100 : Nat) : Rat) = 100 := rfl
  rw [e8]
  grind
theorem mix_ok {a b : Rat} (ha : Chn a) (hb : Chn b) {p : Nat} (hp : p ≤ 100) : mixR (some a) (some b) (p : Int) = (some (mixV a b p), 0) := by
  have f2 : fitsR (b * mkRat (100 - (p : Int)) 100) = true := by
    have := term_fits hb (p := 100 - p) (q := 100) (by omega) (by omega) (by omega)
    rwa [show (((100 - p : Nat)) : Int) = 100 - (p : Int) by omega] at this
  unfold mixR
  simp only
  rw [if_neg (by omega), if_neg (by rw [term_fits ha (p := p) (q := 100) (by omega) (by omega) (by omega)]; simp), if_neg (by rw [f2]; simp)]
  exact limR_fit (mix_fits ha hb hp)
/-- A mixture is between both, and nearer to the one with the greater part. -/
theorem mix_lo {a b : Rat} (h : a ≤ b) {p : Nat} (hp : p ≤ 100) : a ≤ mixV a b p := by
  rw [mixV_eq]
  have h1 : (p : Rat) ≤ 100 := by have : (p : Rat) ≤ ((100 : Nat) : Rat) := Rat.natCast_le_natCast.2 hp
                                  exact this
  have h2 : 0 ≤ (b - a) * (100 - (p : Rat)) := Rat.mul_nonneg (by grind) (by grind)
  grind
theorem mix_hi {a b : Rat} (h : a ≤ b) {p : Nat} : mixV a b p ≤ b := by
  rw [mixV_eq]
  have h1 : (0 : Rat) ≤ (p : Rat) := by have : ((0 : Nat) : Rat) ≤ (p : Rat) := Rat.natCast_le_natCast.2 (Nat.zero_le p)
                                        exact this
  have h2 : 0 ≤ (b - a) * (p : Rat) := Rat.mul_nonneg (by grind) h1
  grind
theorem mix_lt {a b : Rat} (h : a < b) {p : Nat} : mixV a b (p + 1) < mixV a b p := by
  rw [mixV_eq, mixV_eq, Rat.natCast_add]
  have e : ((1 : Nat) : Rat) = 1 := rfl
  rw [e]
  grind
theorem val_ok {a : Rat} (ha : Chn a) {c : Nat} (hc : c ≤ 1024) : valR (some a) (c : Int) = (some (a * mkRat (1 + (c : Int)) 1), 0) := by
  unfold valR
  simp only
  rw [if_neg (by have := ha.h1; grind), if_neg (by omega)]
  refine limR_fit ?_
  have := term_fits ha (p := 1 + c) (q := 1) (by omega) (by omega) (by omega)
  rwa [show (((1 + c : Nat)) : Int) = 1 + (c : Int) by omega] at this
theorem val_lt {a : Rat} (ha : 0 < a) {c : Nat} : a * mkRat (1 + (c : Int)) 1 < a * mkRat (1 + ((c + 1 : Nat) : Int)) 1 := by
  rw [mk1, mk1]
  have e : ((1 + ((c + 1 : Nat) : Int) : Int) : Rat) = ((1 + (c : Int) : Int) : Rat) + 1 := by
    rw [show (1 + ((c + 1 : Nat) : Int)) = (1 + (c : Int)) + 1 by omega, Rat.intCast_add]; rfl
  rw [e]
  grind
end Go.Proofs.Ytnofljgmkdommaa
