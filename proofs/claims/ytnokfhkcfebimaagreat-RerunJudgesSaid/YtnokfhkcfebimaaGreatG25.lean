/- Contracts of the functions that these laws reach: part 25: Plain laws of the sequential tests' chances: the value of a run, the rows of chances, Wald's bounds; Plain laws: chances over a power of a denominator are small; Contract: sequential.add: a fraction is added to the one in a place. -/
import Derived.Test.YtnokfhkcfebimaaGreatG17
import Derived.Test.YtnokfhkcfebimaaGreatG21
set_option linter.unusedVariables false
set_option linter.unusedSimpArgs false

/- Plain laws of the sequential tests' chances: the value of a run, the rows of chances, Wald's bounds. -/
namespace Go.Proofs.YtnokfhkcfebimaaGreat

/-- The value of a run that ends with a decision, or after k more outcomes. -/
def val (d : Nat → Nat → Int) (x : Rat) (g : Int → Nat → Rat) : Nat → Nat → Nat → Rat
  | 0, p, f => g (d p f) (p + f)
  | k + 1, p, f => if d p f ≠ 0 then g (d p f) (p + f) else x * val d x g k p (f + 1) + (1 - x) * val d x g k (p + 1) f
def gF (D : Int) (_ : Nat) : Rat := if D = 2 then 1 else 0
def gS (D : Int) (_ : Nat) : Rat := if D = 1 then 1 else 0
def gO (D : Int) (_ : Nat) : Rat := if D = 0 then 1 else 0
def gN (_ : Int) (n : Nat) : Rat := (n : Rat)
theorem val_dec {d : Nat → Nat → Int} {x : Rat} {g : Int → Nat → Rat} {k p f : Nat} (h : d p f ≠ 0) : val d x g k p f = g (d p f) (p + f) := by
  cases k with
  | zero => rfl
  | succ k => show (if d p f ≠ 0 then _ else _) = _; rw [if_pos h]
theorem val_open {d : Nat → Nat → Int} {x : Rat} {g : Int → Nat → Rat} {k p f : Nat} (h : d p f = 0) : val d x g (k + 1) p f = x * val d x g k p (f + 1) + (1 - x) * val d x g k (p + 1) f := by
  show (if d p f ≠ 0 then _ else _) = _; rw [if_neg (by simp [h])]
theorem val_zero (d : Nat → Nat → Int) (x : Rat) (g : Int → Nat → Rat) (p f : Nat) : val d x g 0 p f = g (d p f) (p + f) := rfl

/-! ### Rows -/
/-- The sum of a row's chances, each with its value. -/
def dp (V : Nat → Rat) : List Rat → Nat → Rat
  | [], _ => 0
  | a :: t, i => a * V i + dp V t (i + 1)
/-- The next row: what was carried, and what passes and fails. -/
def spr (q x c : Rat) : List Rat → List Rat
  | [] => [c]
  | a :: t => (c + a * q) :: spr q x (a * x) t
/-- What is decided so. -/
def hit (d : Nat → Nat → Int) (D : Int) (n : Nat) : List Rat → Nat → Rat
  | [], _ => 0
  | a :: t, i => (if d (n - i) i = D then a else 0) + hit d D n t (i + 1)
/-- What is not decided. -/
def cln (d : Nat → Nat → Int) (n : Nat) : List Rat → Nat → List Rat
  | [], _ => []
  | a :: t, i => (if d (n - i) i = 0 then a else 0) :: cln d n t (i + 1)
def sumL : List Rat → Rat
  | [] => 0
  | a :: t => a + sumL t
theorem spr_length (q x c : Rat) : ∀ l : List Rat, (spr q x c l).length = l.length + 1
  | [] => rfl
  | a :: t => by simp [spr, spr_length q x (a * x) t]
theorem cln_length (d : Nat → Nat → Int) (n : Nat) : ∀ (l : List Rat) (i : Nat), (cln d n l i).length = l.length
  | [], _ => rfl
  | a :: t, i => by simp [cln, cln_length d n t (i + 1)]
theorem dp_spr (V : Nat → Rat) (q x : Rat) : ∀ (l : List Rat) (c : Rat) (i : Nat), dp V (spr q x c l) i = c * V i + dp (fun f => x * V (f + 1) + q * V f) l i
  | [], c, i => by simp only [spr, dp]
  | a :: t, c, i => by
    simp only [spr, dp, dp_spr V q x t (a * x) (i + 1)]
    grind
theorem dp_one : ∀ (l : List Rat) (i : Nat), dp (fun _ => 1) l i = sumL l
  | [], _ => rfl
  | a :: t, i => by simp only [dp, sumL, dp_one t (i + 1), Rat.mul_one]
theorem sumL_spr (q x : Rat) (h : q + x = 1) (l : List Rat) (c : Rat) : sumL (spr q x c l) = c + sumL l := by
  rw [← dp_one _ 0, dp_spr, ← dp_one l 0, Rat.mul_one]
  congr 1
  congr 1
  funext f
  grind
/-- Chances stand only at open places. -/
def Und (d : Nat → Nat → Int) (n : Nat) : List Rat → Nat → Prop
  | [], _ => True
  | a :: t, i => (a ≠ 0 → d (n - i) i = 0) ∧ Und d n t (i + 1)
theorem und_cln (d : Nat → Nat → Int) (n : Nat) : ∀ (l : List Rat) (i : Nat), Und d n (cln d n l i) i
  | [], _ => trivial
  | a :: t, i => ⟨fun h => by by_cases h1 : d (n - i) i = 0; · exact h1
                              · exact absurd (if_neg h1) h, und_cln d n t (i + 1)⟩
theorem dp_congr {d : Nat → Nat → Int} {n : Nat} {V W : Nat → Rat} : ∀ (l : List Rat) (i : Nat), Und d n l i → (∀ j, i ≤ j → j < i + l.length → d (n - j) j = 0 → V j = W j) → dp V l i = dp W l i
  | [], _, _, _ => rfl
  | a :: t, i, h, hV => by
    simp only [dp]
    rw [dp_congr t (i + 1) h.2 (fun j h1 h2 h3 => hV j (by omega) (by simp only [List.length_cons]; omega) h3)]
    by_cases ha : a = 0
    · subst ha; simp
    · rw [hV i (Nat.le_refl _) (by simp) (h.1 ha)]
theorem dp_cln (d : Nat → Nat → Int) (hd : ∀ p f, d p f = 0 ∨ d p f = 1 ∨ d p f = 2) (n : Nat) (V : Nat → Rat) (u v : Rat) : ∀ (l : List Rat) (i : Nat), (∀ j, d (n - j) j = 1 → V j = u) → (∀ j, d (n - j) j = 2 → V j = v) →
    dp V l i = dp V (cln d n l i) i + u * hit d 1 n l i + v * hit d 2 n l i
  | [], _, _, _ => by simp [dp, cln, hit]; grind
  | a :: t, i, h1, h2 => by
    simp only [dp, cln, hit, dp_cln d hd n V u v t (i + 1) h1 h2]
    rcases hd (n - i) i with h | h | h
    · rw [h]; simp only [if_true]; rw [if_neg (by decide), if_neg (by decide)]; grind
    · have := h1 i h
      rw [h]; simp only [if_true]; rw [if_neg (by decide), if_neg (by decide), this]; grind
    · have := h2 i h
      rw [h]; simp only [if_true]; rw [if_neg (by decide), if_neg (by decide), this]; grind

/-- Without a value where it is decided. -/
theorem dp_clean (d : Nat → Nat → Int) (n : Nat) (V : Nat → Rat) : ∀ (l : List Rat) (i : Nat), (∀ j, i ≤ j → j < i + l.length → d (n - j) j ≠ 0 → V j = 0) → dp V l i = dp V (cln d n l i) i
  | [], _, _ => rfl
  | a :: t, i, h => by
    simp only [dp, cln]
    rw [dp_clean d n V t (i + 1) (fun j h1 h2 h3 => h j (by omega) (by simp only [List.length_cons]; omega) h3)]
    by_cases hd : d (n - i) i = 0
    · rw [if_pos hd]
    · rw [if_neg hd, h i (Nat.le_refl _) (by simp) hd]; simp
/-- The state of a run of rows: the row, the chances of Flaky and Stable, the expected number. -/
structure Wk where
  row : List Rat
  fl : Rat
  st : Rat
  ex : Rat
def Wk.zero : Wk := ⟨[1], 0, 0, 0⟩
def Wk.next (d : Nat → Nat → Int) (x : Rat) (n : Nat) (s : Wk) : Wk :=
  ⟨cln d n (spr (1 - x) x 0 s.row) 0, s.fl + hit d 2 n (spr (1 - x) x 0 s.row) 0, s.st + hit d 1 n (spr (1 - x) x 0 s.row) 0, s.ex + sumL s.row⟩
def Wk.after (d : Nat → Nat → Int) (x : Rat) : Nat → Wk
  | 0 => Wk.zero
  | n + 1 => (Wk.after d x n).next d x (n + 1)
theorem after_len (d : Nat → Nat → Int) (x : Rat) : ∀ n, (Wk.after d x n).row.length = n + 1
  | 0 => rfl
  | n + 1 => by show (cln d (n + 1) (spr _ _ _ _) 0).length = _; rw [cln_length, spr_length, after_len d x n]
theorem after_und (d : Nat → Nat → Int) (h0 : d 0 0 = 0) (x : Rat) : ∀ n, Und d n (Wk.after d x n).row 0
  | 0 => ⟨fun _ => h0, trivial⟩
  | n + 1 => und_cln d (n + 1) _ 0
theorem sub_succ_left {n f : Nat} (h : f ≤ n) : n + 1 - f = n - f + 1 := by omega
/-- One step, for a payoff that does not count the outcomes. -/
theorem after_val (d : Nat → Nat → Int) (hd : ∀ p f, d p f = 0 ∨ d p f = 1 ∨ d p f = 2) (h0 : d 0 0 = 0) (x : Rat) (g : Int → Nat → Rat) (M : Nat) (u v : Rat) (hu : ∀ n, g 1 n = u) (hv : ∀ n, g 2 n = v) :
    ∀ n, n ≤ M → val d x g M 0 0 = dp (fun f => val d x g (M - n) (n - f) f) (Wk.after d x n).row 0 + u * (Wk.after d x n).st + v * (Wk.after d x n).fl
  | 0, _ => by simp only [Wk.after, Wk.zero, dp, Nat.sub_zero]; grind
  | n + 1, h => by
    rw [after_val d hd h0 x g M u v hu hv n (by omega)]
    have e1 : dp (fun f => val d x g (M - n) (n - f) f) (Wk.after d x n).row 0 = dp (fun f => x * val d x g (M - (n + 1)) (n + 1 - (f + 1)) (f + 1) + (1 - x) * val d x g (M - (n + 1)) (n + 1 - f) f) (Wk.after d x n).row 0 := by
      refine dp_congr _ 0 (after_und d h0 x n) (fun j _ hj hdj => ?_)
      rw [after_len] at hj
      rw [show M - n = (M - (n + 1)) + 1 by omega, val_open hdj, Nat.add_sub_add_right, sub_succ_left (by omega)]
    have e2 := dp_spr (fun f => val d x g (M - (n + 1)) (n + 1 - f) f) (1 - x) x (Wk.after d x n).row 0 0
    have e3 := dp_cln d hd (n + 1) (fun f => val d x g (M - (n + 1)) (n + 1 - f) f) u v (spr (1 - x) x 0 (Wk.after d x n).row) 0 (fun j hj => by show val _ _ _ _ _ _ = _; rw [val_dec (by rw [hj]; decide), hj, hu]) (fun j hj => by show val _ _ _ _ _ _ = _; rw [val_dec (by rw [hj]; decide), hj, hv])
    show _ = dp _ (cln d (n + 1) (spr (1 - x) x 0 (Wk.after d x n).row) 0) 0 + u * ((Wk.after d x n).st + hit d 1 (n + 1) (spr (1 - x) x 0 (Wk.after d x n).row) 0) + v * ((Wk.after d x n).fl + hit d 2 (n + 1) (spr (1 - x) x 0 (Wk.after d x n).row) 0)
    rw [e1]
    grind
theorem dp_add_one (V : Nat → Rat) : ∀ (l : List Rat) (i : Nat), dp (fun f => V f + 1) l i = dp V l i + sumL l
  | [], _ => by simp only [dp, sumL]; grind
  | a :: t, i => by simp only [dp, sumL, dp_add_one V t (i + 1)]; grind
/-- The same for the number of outcomes. -/
theorem after_num (d : Nat → Nat → Int) (hd : ∀ p f, d p f = 0 ∨ d p f = 1 ∨ d p f = 2) (h0 : d 0 0 = 0) (x : Rat) (M : Nat) :
    ∀ n, n ≤ M → val d x gN M 0 0 = dp (fun f => val d x gN (M - n) (n - f) f - (n : Rat)) (Wk.after d x n).row 0 + (Wk.after d x n).ex
  | 0, _ => by simp only [Wk.after, Wk.zero, dp, Nat.sub_zero]; grind
  | n + 1, h => by
    rw [after_num d hd h0 x M n (by omega)]
    have e1 : dp (fun f => val d x gN (M - n) (n - f) f - (n : Rat)) (Wk.after d x n).row 0 = dp (fun f => (x * (val d x gN (M - (n + 1)) (n + 1 - (f + 1)) (f + 1) - ((n + 1 : Nat) : Rat)) + (1 - x) * (val d x gN (M - (n + 1)) (n + 1 - f) f - ((n + 1 : Nat) : Rat))) + 1) (Wk.after d x n).row 0 := by
      refine dp_congr _ 0 (after_und d h0 x n) (fun j _ hj hdj => ?_)
      rw [after_len] at hj
      rw [show M - n = (M - (n + 1)) + 1 by omega, val_open hdj, Nat.add_sub_add_right, sub_succ_left (by omega)]
      have : ((n + 1 : Nat) : Rat) = (n : Rat) + 1 := by simp
      rw [this]
      grind
    rw [dp_add_one] at e1
    have e2 := dp_spr (fun f => val d x gN (M - (n + 1)) (n + 1 - f) f - ((n + 1 : Nat) : Rat)) (1 - x) x (Wk.after d x n).row 0 0
    have e4 : dp (fun f => val d x gN (M - (n + 1)) (n + 1 - f) f - ((n + 1 : Nat) : Rat)) (spr (1 - x) x 0 (Wk.after d x n).row) 0 = dp (fun f => val d x gN (M - (n + 1)) (n + 1 - f) f - ((n + 1 : Nat) : Rat)) (cln d (n + 1) (spr (1 - x) x 0 (Wk.after d x n).row) 0) 0 := by
      refine dp_clean d (n + 1) _ _ 0 (fun j _ hj hdj => ?_)
      rw [spr_length, after_len] at hj
      show val _ _ _ _ _ _ - _ = _
      rw [val_dec hdj]
      show ((n + 1 - j + j : Nat) : Rat) - _ = _
      rw [show n + 1 - j + j = n + 1 by omega]
      grind
    show _ = dp _ (cln d (n + 1) (spr (1 - x) x 0 (Wk.after d x n).row) 0) 0 + ((Wk.after d x n).ex + sumL (Wk.after d x n).row)
    rw [e1]
    grind
theorem dp_const (c : Rat) : ∀ (l : List Rat) (i : Nat), dp (fun _ => c) l i = c * sumL l
  | [], _ => by simp only [dp, sumL]; grind
  | a :: t, i => by simp only [dp, sumL, dp_const c t (i + 1)]; grind
section
variable {d : Nat → Nat → Int} (hd : ∀ p f, d p f = 0 ∨ d p f = 1 ∨ d p f = 2) (h0 : d 0 0 = 0) (x : Rat) (M : Nat)
include hd h0
theorem after_end (g : Int → Nat → Rat) (u v c : Rat) (hu : ∀ n, g 1 n = u) (hv : ∀ n, g 2 n = v) (hc : ∀ n, g 0 n = c) : val d x g M 0 0 = c * sumL (Wk.after d x M).row + u * (Wk.after d x M).st + v * (Wk.after d x M).fl := by
  rw [after_val d hd h0 x g M u v hu hv M (Nat.le_refl _), ← dp_const c _ 0]
  congr 2
  refine dp_congr _ 0 (after_und d h0 x M) (fun j _ _ hdj => ?_)
  rw [Nat.sub_self, val_zero, hdj, hc]
theorem after_fl : val d x gF M 0 0 = (Wk.after d x M).fl := by
  rw [after_end hd h0 x M gF 0 1 0 (fun _ => rfl) (fun _ => rfl) (fun _ => rfl)]; grind
theorem after_st : val d x gS M 0 0 = (Wk.after d x M).st := by
  rw [after_end hd h0 x M gS 1 0 0 (fun _ => rfl) (fun _ => rfl) (fun _ => rfl)]; grind
theorem after_op : val d x gO M 0 0 = sumL (Wk.after d x M).row := by
  rw [after_end hd h0 x M gO 0 0 1 (fun _ => rfl) (fun _ => rfl) (fun _ => rfl)]; grind
theorem after_ex : val d x gN M 0 0 = (Wk.after d x M).ex := by
  rw [after_num d hd h0 x M M (Nat.le_refl _), Nat.sub_self]
  have : dp (fun f => val d x gN 0 (M - f) f - (M : Rat)) (Wk.after d x M).row 0 = dp (fun _ => 0) (Wk.after d x M).row 0 := by
    refine dp_congr _ 0 (after_und d h0 x M) (fun j _ hj hdj => ?_)
    rw [after_len] at hj
    rw [val_zero]
    show ((M - j + j : Nat) : Rat) - _ = _
    rw [show M - j + j = M by omega]
    grind
  rw [this, dp_const]
  grind
end

/-! ### Chances -/
theorem one_sub_nonneg {x : Rat} (h : x ≤ 1) : 0 ≤ 1 - x := by grind
theorem mix_mono {x a b a' b' : Rat} (h0 : 0 ≤ x) (h1 : x ≤ 1) (ha : a ≤ a') (hb : b ≤ b') : x * a + (1 - x) * b ≤ x * a' + (1 - x) * b' := by
  have k1 := Rat.mul_le_mul_of_nonneg_left ha h0
  have k2 := Rat.mul_le_mul_of_nonneg_left hb (one_sub_nonneg h1)
  grind
theorem mix_const (x c : Rat) : x * c + (1 - x) * c = c := by grind
theorem mix_up {x y a b : Rat} (hxy : x ≤ y) (hba : b ≤ a) : x * a + (1 - x) * b ≤ y * a + (1 - y) * b := by
  have : 0 ≤ (y - x) * (a - b) := Rat.mul_nonneg (by grind) (by grind)
  grind
theorem val_le {d : Nat → Nat → Int} {x : Rat} (hx0 : 0 ≤ x) (hx1 : x ≤ 1) {g g' : Int → Nat → Rat} (h : ∀ D n, g D n ≤ g' D n) : ∀ k p f, val d x g k p f ≤ val d x g' k p f
  | 0, p, f => h _ _
  | k + 1, p, f => by
    by_cases hd : d p f = 0
    · rw [val_open hd, val_open hd]
      exact mix_mono hx0 hx1 (val_le hx0 hx1 h k p (f + 1)) (val_le hx0 hx1 h k (p + 1) f)
    · rw [val_dec hd, val_dec hd]
      exact h _ _
theorem val_const (d : Nat → Nat → Int) (x c : Rat) : ∀ k p f, val d x (fun _ _ => c) k p f = c
  | 0, _, _ => rfl
  | k + 1, p, f => by
    by_cases hd : d p f = 0
    · rw [val_open hd, val_const d x c k, val_const d x c k, mix_const]
    · rw [val_dec hd]
theorem val_nonneg {d : Nat → Nat → Int} {x : Rat} (hx0 : 0 ≤ x) (hx1 : x ≤ 1) {g : Int → Nat → Rat} (h : ∀ D n, 0 ≤ g D n) (k p f : Nat) : 0 ≤ val d x g k p f := by
  have := val_le (d := d) hx0 hx1 (g := fun _ _ => 0) h k p f
  rwa [val_const] at this
theorem val_le_one {d : Nat → Nat → Int} {x : Rat} (hx0 : 0 ≤ x) (hx1 : x ≤ 1) {g : Int → Nat → Rat} (h : ∀ D n, g D n ≤ 1) (k p f : Nat) : val d x g k p f ≤ 1 := by
  have := val_le (d := d) hx0 hx1 (g' := fun _ _ => 1) h k p f
  rwa [val_const] at this
theorem gF_nn (D : Int) (n : Nat) : 0 ≤ gF D n := by unfold gF; split <;> decide
theorem gS_nn (D : Int) (n : Nat) : 0 ≤ gS D n := by unfold gS; split <;> decide
theorem gO_nn (D : Int) (n : Nat) : 0 ≤ gO D n := by unfold gO; split <;> decide
theorem gF_le (D : Int) (n : Nat) : gF D n ≤ 1 := by unfold gF; split <;> decide
theorem gS_le (D : Int) (n : Nat) : gS D n ≤ 1 := by unfold gS; split <;> decide
theorem gO_le (D : Int) (n : Nat) : gO D n ≤ 1 := by unfold gO; split <;> decide
theorem nat_nn (n : Nat) : (0 : Rat) ≤ (n : Rat) := by exact_mod_cast Nat.zero_le n
/-- The three chances are together 1. -/
theorem val_three {d : Nat → Nat → Int} (hd : ∀ p f, d p f = 0 ∨ d p f = 1 ∨ d p f = 2) (x : Rat) : ∀ k p f, val d x gF k p f + val d x gS k p f + val d x gO k p f = 1
  | 0, p, f => by
    simp only [val_zero, gF, gS, gO]
    rcases hd p f with h | h | h <;> rw [h] <;> decide +kernel
  | k + 1, p, f => by
    rcases hd p f with h | h | h
    · rw [val_open h, val_open h, val_open h]
      have h1 := val_three hd x k p (f + 1)
      have h2 := val_three hd x k (p + 1) f
      generalize val d x gF k p (f + 1) = a1 at *
      generalize val d x gS k p (f + 1) = a2 at *
      generalize val d x gO k p (f + 1) = a3 at *
      generalize val d x gF k (p + 1) f = b1 at *
      generalize val d x gS k (p + 1) f = b2 at *
      generalize val d x gO k (p + 1) f = b3 at *
      have e : x * a1 + (1 - x) * b1 + (x * a2 + (1 - x) * b2) + (x * a3 + (1 - x) * b3) = x * (a1 + a2 + a3) + (1 - x) * (b1 + b2 + b3) := by grind
      rw [e, h1, h2]
      grind
    · rw [val_dec (by omega), val_dec (by omega), val_dec (by omega), h]; simp only [gF, gS, gO]; decide +kernel
    · rw [val_dec (by omega), val_dec (by omega), val_dec (by omega), h]; simp only [gF, gS, gO]; decide +kernel
theorem cast_succ (n : Nat) : ((n + 1 : Nat) : Rat) = (n : Rat) + 1 := by simp
/-- The number of outcomes. -/
theorem val_num {d : Nat → Nat → Int} {x : Rat} (hx0 : 0 ≤ x) (hx1 : x ≤ 1) : ∀ k p f, ((p + f : Nat) : Rat) ≤ val d x gN k p f ∧ val d x gN k p f ≤ ((p + f + k : Nat) : Rat)
  | 0, p, f => ⟨Rat.le_refl, Rat.le_refl⟩
  | k + 1, p, f => by
    by_cases hd : d p f = 0
    · rw [val_open hd]
      have h1 := val_num (d := d) hx0 hx1 k p (f + 1)
      have h2 := val_num (d := d) hx0 hx1 k (p + 1) f
      rw [show p + (f + 1) = p + f + 1 by omega] at h1
      rw [show p + 1 + f = p + f + 1 by omega] at h2
      have h3 := mix_mono hx0 hx1 h1.1 h2.1
      have h4 := mix_mono hx0 hx1 h1.2 h2.2
      rw [mix_const] at h3 h4
      refine ⟨Rat.le_trans ?_ h3, by rwa [show p + f + (k + 1) = p + f + 1 + k by omega]⟩
      rw [cast_succ]
      grind
    · rw [val_dec hd]
      refine ⟨Rat.le_refl, ?_⟩
      show ((p + f : Nat) : Rat) ≤ _
      exact_mod_cast (by omega : p + f ≤ p + f + (k + 1))
theorem val_num1 {d : Nat → Nat → Int} {x : Rat} (hx0 : 0 ≤ x) (hx1 : x ≤ 1) (h0 : d 0 0 = 0) {M : Nat} (hM : 1 ≤ M) : 1 ≤ val d x gN M 0 0 ∧ val d x gN M 0 0 ≤ (M : Rat) := by
  refine ⟨?_, by have := (val_num (d := d) hx0 hx1 M 0 0).2; simpa using this⟩
  obtain ⟨k, rfl⟩ : ∃ k, M = k + 1 := ⟨M - 1, by omega⟩
  rw [val_open h0]
  have h1 : (1 : Rat) ≤ val d x gN k 0 (0 + 1) := by have := (val_num (d := d) hx0 hx1 k 0 (0 + 1)).1; simpa using this
  have h2 : (1 : Rat) ≤ val d x gN k (0 + 1) 0 := by have := (val_num (d := d) hx0 hx1 k (0 + 1) 0).1; simpa using this
  have h3 := mix_mono hx0 hx1 h1 h2
  rwa [mix_const] at h3

/-! ### Wald's bounds -/
section
variable {l h a b : Rat} (hl : Inn l) (hh : Inn h) (hlh : l < h) (ha : Inn a) (hb : Inn b)
theorem rat_up (l h : Rat) (p f : Nat) : ratQ l h p (f + 1) = ratQ l h p f * (h / l) := by unfold ratQ; rw [Rat.pow_succ]; grind
theorem rat_down (l h : Rat) (p f : Nat) : ratQ l h (p + 1) f = ratQ l h p f * ((1 - h) / (1 - l)) := by unfold ratQ; rw [Rat.pow_succ]; grind
theorem ne_of_pos {x : Rat} (h : 0 < x) : x ≠ 0 := fun e => by rw [e] at h; exact absurd h (by decide)
include hl hh
theorem rat_nonneg (p f : Nat) : 0 ≤ ratQ l h p f :=
  Rat.mul_nonneg (Rat.pow_nonneg (div_nonneg' (Rat.le_of_lt hl.p) (Rat.le_of_lt hh.p))) (Rat.pow_nonneg (div_nonneg' (Rat.le_of_lt hl.q0) (Rat.le_of_lt hh.q0)))
include ha
theorem val_alpha : ∀ k p f, val (decQ l h a b) l gF k p f ≤ a * ratQ l h p f := by
  have dec : ∀ p f, gF (decQ l h a b p f) (p + f) ≤ a * ratQ l h p f := fun p f => by
    unfold gF
    split
    · rename_i hd
      have h1 := Rat.mul_le_mul_of_nonneg_left (decQ_flaky.1 hd) (Rat.le_of_lt ha.p)
      have h2 : a * (1 / a) = 1 := by rw [Rat.mul_comm]; exact Rat.div_mul_cancel (ne_of_pos ha.p)
      rwa [h2] at h1
    · exact Rat.mul_nonneg (Rat.le_of_lt ha.p) (rat_nonneg hl hh p f)
  intro k
  induction k with
  | zero => exact dec
  | succ k ih =>
    intro p f
    by_cases hd : decQ l h a b p f = 0
    · rw [val_open hd]
      refine Rat.le_trans (mix_mono (Rat.le_of_lt hl.p) (Rat.le_of_lt hl.q) (ih p (f + 1)) (ih (p + 1) f)) ?_
      rw [rat_up, rat_down]
      have e1 : h / l * l = h := Rat.div_mul_cancel (ne_of_pos hl.p)
      have e2 : (1 - h) / (1 - l) * (1 - l) = 1 - h := Rat.div_mul_cancel (ne_of_pos hl.q0)
      generalize h / l = X at *
      generalize (1 - h) / (1 - l) = Y at *
      generalize ratQ l h p f = R at *
      have e3 : l * (a * (R * X)) + (1 - l) * (a * (R * Y)) = a * R * (X * l) + a * R * (Y * (1 - l)) := by grind
      rw [e3, e1, e2]
      have e4 : a * R * h + a * R * (1 - h) = a * R := by grind
      rw [e4]
      exact Rat.le_refl
    · rw [val_dec hd]
      exact dec p f
omit ha hh
include hb
theorem val_beta : ∀ k p f, val (decQ l h a b) h gS k p f * ratQ l h p f ≤ b := by
  have dec : ∀ p f, gS (decQ l h a b p f) (p + f) * ratQ l h p f ≤ b := fun p f => by
    unfold gS
    split
    · rename_i hd
      rw [Rat.one_mul]
      exact (decQ_stable.1 hd).2
    · rw [Rat.zero_mul]; exact Rat.le_of_lt hb.p
  intro k
  induction k with
  | zero => exact dec
  | succ k ih =>
    intro p f
    by_cases hd : decQ l h a b p f = 0
    · rw [val_open hd]
      have h1 := mix_mono (Rat.le_of_lt hl.p) (Rat.le_of_lt hl.q) (ih p (f + 1)) (ih (p + 1) f)
      rw [mix_const, rat_up, rat_down] at h1
      refine Rat.le_trans ?_ h1
      have e1 : h / l * l = h := Rat.div_mul_cancel (ne_of_pos hl.p)
      have e2 : (1 - h) / (1 - l) * (1 - l) = 1 - h := Rat.div_mul_cancel (ne_of_pos hl.q0)
      generalize h / l = X at *
      generalize (1 - h) / (1 - l) = Y at *
      generalize ratQ l h p f = R at *
      generalize val (decQ l h a b) h gS k p (f + 1) = A at *
      generalize val (decQ l h a b) h gS k (p + 1) f = B at *
      have e3 : l * (A * (R * X)) + (1 - l) * (B * (R * Y)) = A * R * (X * l) + B * R * (Y * (1 - l)) := by grind
      rw [e3, e1, e2]
      have e4 : A * R * h + B * R * (1 - h) = (h * A + (1 - h) * B) * R := by grind
      rw [e4]
      exact Rat.le_refl
    · rw [val_dec hd]
      exact dec p f
end

/-! ### More failures, a greater chance -/
section
variable {d : Nat → Nat → Int} (hd : ∀ p f, d p f = 0 ∨ d p f = 1 ∨ d p f = 2) (hf : ∀ p f, d (p + 1) f = 2 → d p (f + 1) = 2) (hs : ∀ p f, d p (f + 1) = 1 → d (p + 1) f = 1)
include hd hf hs
theorem val_upF {x : Rat} (hx0 : 0 ≤ x) (hx1 : x ≤ 1) : ∀ k p f, val d x gF k (p + 1) f ≤ val d x gF k p (f + 1)
  | 0, p, f => by
    rw [val_zero, val_zero]
    by_cases h : d (p + 1) f = 2
    · rw [h, hf p f h]; exact Rat.le_refl
    · show (if _ then _ else _) ≤ _
      rw [if_neg h]
      exact gF_nn _ _
  | k + 1, p, f => by
    rcases hd (p + 1) f with h | h | h
    · rcases hd p (f + 1) with h' | h' | h'
      · rw [val_open h, val_open h']
        exact mix_mono hx0 hx1 (val_upF hx0 hx1 k p (f + 1)) (val_upF hx0 hx1 k (p + 1) f)
      · have := hs p f h'; omega
      · rw [val_dec (k := k + 1) (p := p) (by omega), h']
        exact val_le_one hx0 hx1 gF_le _ _ _
    · rw [val_dec (k := k + 1) (p := p + 1) (by omega), h]
      exact val_nonneg hx0 hx1 gF_nn _ _ _
    · rw [val_dec (k := k + 1) (p := p) (by rw [hf p f h]; decide), hf p f h]
      exact val_le_one hx0 hx1 gF_le _ _ _
theorem val_upS {x : Rat} (hx0 : 0 ≤ x) (hx1 : x ≤ 1) : ∀ k p f, val d x gS k p (f + 1) ≤ val d x gS k (p + 1) f
  | 0, p, f => by
    rw [val_zero, val_zero]
    by_cases h : d p (f + 1) = 1
    · rw [h, hs p f h]; exact Rat.le_refl
    · show (if _ then _ else _) ≤ _
      rw [if_neg h]
      exact gS_nn _ _
  | k + 1, p, f => by
    rcases hd p (f + 1) with h | h | h
    · rcases hd (p + 1) f with h' | h' | h'
      · rw [val_open h, val_open h']
        exact mix_mono hx0 hx1 (val_upS hx0 hx1 k p (f + 1)) (val_upS hx0 hx1 k (p + 1) f)
      · rw [val_dec (k := k + 1) (p := p + 1) (by omega), h']
        exact val_le_one hx0 hx1 gS_le _ _ _
      · have := hf p f h'; omega
    · rw [val_dec (k := k + 1) (p := p + 1) (by rw [hs p f h]; decide), hs p f h]
      exact val_le_one hx0 hx1 gS_le _ _ _
    · rw [val_dec (k := k + 1) (p := p) (by omega), h]
      exact val_nonneg hx0 hx1 gS_nn _ _ _
theorem val_monoF {x y : Rat} (hx0 : 0 ≤ x) (hy1 : y ≤ 1) (hxy : x ≤ y) : ∀ k p f, val d x gF k p f ≤ val d y gF k p f
  | 0, _, _ => Rat.le_refl
  | k + 1, p, f => by
    by_cases h : d p f = 0
    · rw [val_open h, val_open h]
      refine Rat.le_trans (mix_mono hx0 (Rat.le_trans hxy hy1) (val_monoF hx0 hy1 hxy k p (f + 1)) (val_monoF hx0 hy1 hxy k (p + 1) f)) ?_
      exact mix_up hxy (val_upF hd hf hs (Rat.le_trans hx0 hxy) hy1 k p f)
    · rw [val_dec h, val_dec h]; exact Rat.le_refl
theorem val_monoS {x y : Rat} (hx0 : 0 ≤ x) (hy1 : y ≤ 1) (hxy : x ≤ y) : ∀ k p f, val d y gS k p f ≤ val d x gS k p f
  | 0, _, _ => Rat.le_refl
  | k + 1, p, f => by
    by_cases h : d p f = 0
    · rw [val_open h, val_open h]
      refine Rat.le_trans ?_ (mix_mono hx0 (Rat.le_trans hxy hy1) (val_monoS hx0 hy1 hxy k p (f + 1)) (val_monoS hx0 hy1 hxy k (p + 1) f))
      have h1 := val_upS hd hf hs (Rat.le_trans hx0 hxy) hy1 k p f
      have : 0 ≤ (y - x) * (val d y gS k (p + 1) f - val d y gS k p (f + 1)) := Rat.mul_nonneg (by grind) (by grind)
      grind
    · rw [val_dec h, val_dec h]; exact Rat.le_refl
end
theorem dec_up {l h a b : Rat} (hl : Inn l) (hh : Inn h) (hlh : l < h) (p f : Nat) (hd : decQ l h a b (p + 1) f = 2) : decQ l h a b p (f + 1) = 2 := by
  rw [decQ_flaky] at hd ⊢
  exact Rat.le_trans hd (ratQ_step hl hh hlh p f)
theorem dec_down {l h a b : Rat} (hl : Inn l) (hh : Inn h) (hlh : l < h) (p f : Nat) (hd : decQ l h a b p (f + 1) = 1) : decQ l h a b (p + 1) f = 1 := by
  rw [decQ_stable] at hd ⊢
  have := ratQ_step hl hh hlh p f
  exact ⟨fun h1 => hd.1 (Rat.le_trans h1 this), Rat.le_trans this hd.2⟩
end Go.Proofs.YtnokfhkcfebimaaGreat

/- Plain laws: chances over a power of a denominator are small. -/
namespace Go.Proofs.YtnokfhkcfebimaaGreat

/-- A number over D^n, at most B. -/
def Dv (D n B : Nat) (r : Rat) : Prop := ∃ k : Nat, r * ((D ^ n : Nat) : Rat) = (k : Rat) ∧ k ≤ B * D ^ n
theorem Dv.add {D n B C : Nat} {r s : Rat} (h : Dv D n B r) (k : Dv D n C s) : Dv D n (B + C) (r + s) := by
  obtain ⟨i, h1, h2⟩ := h
  obtain ⟨j, k1, k2⟩ := k
  refine ⟨i + j, ?_, by rw [Nat.add_mul]; omega⟩
  rw [Rat.add_mul, h1, k1]
  simp
theorem Dv.mul {D n m B C : Nat} {r s : Rat} (h : Dv D n B r) (k : Dv D m C s) : Dv D (n + m) (B * C) (r * s) := by
  obtain ⟨i, h1, h2⟩ := h
  obtain ⟨j, k1, k2⟩ := k
  refine ⟨i * j, ?_, ?_⟩
  · rw [Nat.pow_add]
    have e : ((D ^ n * D ^ m : Nat) : Rat) = ((D ^ n : Nat) : Rat) * ((D ^ m : Nat) : Rat) := by simp
    have e2 : ((i * j : Nat) : Rat) = (i : Rat) * (j : Rat) := by simp
    rw [e, e2, ← h1, ← k1]
    grind
  · rw [Nat.pow_add]
    calc i * j ≤ (B * D ^ n) * (C * D ^ m) := Nat.mul_le_mul h2 k2
      _ = _ := by simp only [Nat.mul_comm, Nat.mul_left_comm, Nat.mul_assoc]
theorem Dv.mono {D n B C : Nat} {r : Rat} (h : Dv D n B r) (hBC : B ≤ C) : Dv D n C r := by
  obtain ⟨i, h1, h2⟩ := h
  exact ⟨i, h1, Nat.le_trans h2 (Nat.mul_le_mul_right _ hBC)⟩
theorem Dv.nat (D m : Nat) : Dv D 0 m (m : Rat) := ⟨m, by simp, by simp⟩
theorem Dv.one (D : Nat) : Dv D 0 1 1 := Dv.nat D 1
theorem Dv.zero (D n B : Nat) : Dv D n B 0 := ⟨0, by simp, by omega⟩
theorem Dv.up1 {D n B : Nat} {r : Rat} (h : Dv D n B r) : Dv D (n + 1) B r := by
  have h1 : Dv D 1 1 (1 : Rat) := ⟨D, by simp, by simp⟩
  have := h.mul h1
  rwa [Nat.mul_one, Rat.mul_one] at this
theorem Dv.up {D n B : Nat} {r : Rat} (h : Dv D n B r) : ∀ m, Dv D (n + m) B r
  | 0 => h
  | m + 1 => (Dv.up h m).up1
theorem Dv.upto {D n m B : Nat} {r : Rat} (h : Dv D n B r) (hm : n ≤ m) : Dv D m B r := by
  have := h.up (m - n)
  rwa [show n + (m - n) = m by omega] at this
theorem Chn.dv {x : Rat} (h : Chn x) : Dv x.den 1 1 x := by
  obtain ⟨k, hk⟩ := den_sc h.h0
  rw [Rat.pow_one] at hk
  refine ⟨k, by rw [Nat.pow_one]; exact hk, ?_⟩
  have h1 := Rat.mul_le_mul_of_nonneg_right h.h1 (cast_nonneg x.den)
  rw [Rat.one_mul, hk] at h1
  rw [Nat.pow_one, Nat.one_mul]
  exact_mod_cast h1
theorem Chn.dvq {x : Rat} (h : Chn x) : Dv x.den 1 1 (1 - x) := by
  obtain ⟨k, h1, h2⟩ := h.dv
  rw [Nat.one_mul] at h2
  refine ⟨x.den ^ 1 - k, ?_, by omega⟩
  have e : ((x.den ^ 1 - k : Nat) : Rat) = ((x.den ^ 1 : Nat) : Rat) - (k : Rat) := by
    have : ((x.den ^ 1 : Nat) : Rat) = ((x.den ^ 1 - k : Nat) : Rat) + (k : Rat) := by
      rw [← Rat.natCast_add]; congr 1; omega
    grind
  rw [e, ← h1]
  grind
theorem Dv.bd {D n B : Nat} {r : Rat} (h : Dv D n B r) (hD : 0 < D) (hB : 1 ≤ B) : Bd (B * D ^ n) r := by
  obtain ⟨k, h1, h2⟩ := h
  have hp : 0 < D ^ n := Nat.pow_pos hD
  have hne : ((D ^ n : Nat) : Rat) ≠ 0 := by
    intro e
    have : (D ^ n : Nat) = 0 := by exact_mod_cast e
    omega
  have e : r = mkRat (k : Int) (D ^ n) := by
    rw [Rat.mkRat_eq_div, Rat.intCast_natCast, ← h1]
    rw [Rat.div_def, Rat.mul_assoc, Rat.mul_inv_cancel _ hne, Rat.mul_one]
  rw [e]
  exact Bd.mk' hp h2 (Nat.le_mul_of_pos_left _ hB)
theorem bigDv : 18446744073709551616 * 1000 ^ 66 < 4294967296 ^ 128 := by decide +kernel
theorem Dv.fits {D n B : Nat} {r : Rat} (h : Dv D n B r) (hD : 0 < D) (hD2 : D ≤ 1000) (hn : n ≤ 66) (hB : B ≤ 18446744073709551616) : fitsR r = true := by
  have h1 := (h.mono (show B ≤ B + 1 by omega)).mono (show B + 1 ≤ B + 1 by omega)
  rcases Nat.eq_zero_or_pos B with h0 | h0
  · subst h0
    exact ((h.mono (Nat.zero_le 1)).bd hD (Nat.le_refl _)).fits (Nat.lt_of_le_of_lt (by rw [Nat.one_mul]; exact Nat.le_trans (Nat.pow_le_pow_left hD2 n) (Nat.pow_le_pow_right (by omega) hn)) (by decide +kernel : 1000 ^ 66 < 4294967296 ^ 128))
  · exact (h.bd hD h0).fits (Nat.lt_of_le_of_lt (Nat.mul_le_mul hB (Nat.le_trans (Nat.pow_le_pow_left hD2 n) (Nat.pow_le_pow_right (by omega) hn))) bigDv)

/-! ### The rows' sizes -/
theorem spr_dv {D n B : Nat} {q x : Rat} (hq : Dv D 1 1 q) (hx : Dv D 1 1 x) : ∀ (l : List Rat) (c : Rat), (∀ a ∈ l, Dv D n B a) → Dv D (n + 1) B c → ∀ a ∈ spr q x c l, Dv D (n + 1) (2 * B) a
  | [], c, _, hc, a, ha => by
    simp only [spr, List.mem_singleton] at ha
    subst ha
    exact hc.mono (by omega)
  | b :: t, c, hl, hc, a, ha => by
    have hb := hl b (List.mem_cons_self ..)
    have h1 := hb.mul hq
    have h2 := hb.mul hx
    rw [Nat.mul_one] at h1 h2
    simp only [spr, List.mem_cons] at ha
    rcases ha with rfl | ha
    · exact (hc.add h1).mono (by omega)
    · exact spr_dv hq hx t (b * x) (fun a h => hl a (List.mem_cons_of_mem _ h)) h2 a ha
theorem cln_dv {D n B : Nat} {d : Nat → Nat → Int} {m : Nat} : ∀ (l : List Rat) (i : Nat), (∀ a ∈ l, Dv D n B a) → ∀ a ∈ cln d m l i, Dv D n B a
  | [], _, _, a, ha => by simp [cln] at ha
  | b :: t, i, hl, a, ha => by
    simp only [cln, List.mem_cons] at ha
    rcases ha with rfl | ha
    · split
      · exact hl b (List.mem_cons_self ..)
      · exact Dv.zero D n B
    · exact cln_dv t (i + 1) (fun a h => hl a (List.mem_cons_of_mem _ h)) a ha
theorem hit_dv {D n B : Nat} {d : Nat → Nat → Int} {E : Int} {m : Nat} : ∀ (l : List Rat) (i : Nat), (∀ a ∈ l, Dv D n B a) → Dv D n (l.length * B) (hit d E m l i)
  | [], _, _ => Dv.zero D n _
  | b :: t, i, hl => by
    have h1 : Dv D n B (if d (m - i) i = E then b else 0) := by
      split
      · exact hl b (List.mem_cons_self ..)
      · exact Dv.zero D n B
    have h2 := hit_dv (d := d) (E := E) (m := m) t (i + 1) (fun a h => hl a (List.mem_cons_of_mem _ h))
    simp only [hit]
    exact (h1.add h2).mono (by simp only [List.length_cons, Nat.add_mul, Nat.one_mul]; omega)
theorem sumL_dv {D n B : Nat} : ∀ (l : List Rat), (∀ a ∈ l, Dv D n B a) → Dv D n (l.length * B) (sumL l)
  | [], _ => Dv.zero D n _
  | b :: t, hl => by
    have h2 := sumL_dv t (fun a h => hl a (List.mem_cons_of_mem _ h))
    simp only [sumL]
    exact ((hl b (List.mem_cons_self ..)).add h2).mono (by simp only [List.length_cons, Nat.add_mul, Nat.one_mul]; omega)
/-- The values: over den^k. -/
theorem val_dv {d : Nat → Nat → Int} {x : Rat} (hx : Chn x) {g : Int → Nat → Rat} (hg : ∀ D n, ∃ m : Nat, g D n = (m : Rat)) : ∀ k p f, ∃ B, Dv x.den k B (val d x g k p f)
  | 0, p, f => by obtain ⟨m, hm⟩ := hg (d p f) (p + f); exact ⟨m, by rw [val_zero, hm]; exact Dv.nat _ m⟩
  | k + 1, p, f => by
    by_cases hd : d p f = 0
    · obtain ⟨B, hB⟩ := val_dv hx hg k p (f + 1)
      obtain ⟨C, hC⟩ := val_dv hx hg k (p + 1) f
      refine ⟨1 * B + 1 * C, ?_⟩
      rw [val_open hd, Nat.add_comm k 1]
      exact (hx.dv.mul hB).add (hx.dvq.mul hC)
    · obtain ⟨m, hm⟩ := hg (d p f) (p + f)
      exact ⟨m, by rw [val_dec hd, hm]; exact (Dv.nat _ m).upto (Nat.zero_le _)⟩
/-- A bound of the number bounds its numerator. -/
theorem Dv.le {D n B C : Nat} {r : Rat} (h : Dv D n B r) (hC : r ≤ (C : Rat)) : Dv D n C r := by
  obtain ⟨k, h1, -⟩ := h
  refine ⟨k, h1, ?_⟩
  have h2 := Rat.mul_le_mul_of_nonneg_right hC (nat_nn (D ^ n))
  rw [h1] at h2
  exact_mod_cast h2
end Go.Proofs.YtnokfhkcfebimaaGreat

/- Contract: sequential.add: a fraction is added to the one in a place. -/
namespace Go.Proofs.YtnokfhkcfebimaaGreat
open Go.RowKit

/-- The place of a fraction. -/
structure Fp (w : World) (g o : Nat) (x : Fa) (r : Rat) : Prop where
  c0 : w.cell? ⟨g, o, none⟩ = some (.slice x.A x.n x.c)
  c1 : w.cell? ⟨g, o + 1, none⟩ = some (.slice x.B x.m x.d)
  fz : ∀ j, w.frozen? ⟨g, j, none⟩ = false
  sz : g < w.heap.size
  nb : NB w g
  o : Fo w x (some r)
theorem Fp.below {w w' : World} {g o : Nat} {x : Fa} {r : Rat} (h : Fp w g o x r) (hb : Below w.heap.size w w') : Fp w' g o x r :=
  ⟨by rw [hb.cell (by exact h.sz)]; exact h.c0, by rw [hb.cell (by exact h.sz)]; exact h.c1, fun j => by rw [hb.frozen (by exact h.sz)]; exact h.fz j, Nat.lt_of_lt_of_le h.sz hb.size, h.nb.below h.sz hb, h.o.below hb⟩
/-- What it leaves: a fraction above, and it is stored. -/
def AddP (w : World) (g o : Nat) (q : Rat) (w' : World) : Prop := ∃ (c : Fa) (w1 : World), Below w.heap.size w w1 ∧ Fo w1 c (some q) ∧ w' = (w1.setCell ⟨g, o, none⟩ (.slice c.A c.n c.c)).setCell ⟨g, o + 1, none⟩ (.slice c.B c.m c.d)
set_option maxRecDepth 100000 in
set_option maxHeartbeats 8000000 in
theorem sadd_any (w : World) (g o : Nat) (x b : Fa) (r s : Rat) (hx : Fp w g o x r) (hb : Fo w b (some s)) (hf : fitsR (r + s) = true) :
    Calls Tryz.prog 78 #[.pointer (some ⟨g, o, none⟩), .agg #[.slice b.A b.n b.c, .slice b.B b.m b.d]] w fun e w' => e = .returned (.tuple #[]) ∧ AddP w g o (r + s) w' := by
  have HM := hide (show addR (some r) (some s) = (some (r + s), 0) from limR_fit hf)
  have HX0 := hide hx
  go_enter Tryz.func78, Tryz.ntmps78
  go_upto_region 1 with (fail)
  generalize hW : World.alloc w _ = v
  have HX := hide (show Fp v g o x r by rw [← hW]; exact hx.below ((Below.refl _ _).alloc (Nat.le_refl _) _))
  have HQ := hide (show Bq v w.heap.size b by rw [← hW]; exact Bq.mk0 _ b rfl)
  have HO := hide (show Fo v b (some s) by rw [← hW]; exact hb.alloc _)
  have HB := hide (show Below w.heap.size w v by rw [← hW]; exact (Below.refl _ _).alloc (Nat.le_refl _) _)
  clear hW hx hb hf
  apply region_seqo 8 10 [5, 6, 7, 8, 9, 10, 4, 11, 12, 13] [eqV _, eqV _, eqV _, eqV _, eqV _, fun x w => ∃ c : Fa, x = .tuple #[.agg #[.slice c.A c.n c.c, .slice c.B c.m c.d], .int .i64 0] ∧ Fo w c (some (r + s)), fun x w => ∃ c : Fa, x = .tuple #[.agg #[.slice c.A c.n c.c, .slice c.B c.m c.d], .int .i64 0] ∧ Fo w c (some (r + s)), fun x w => ∃ c : Fa, x = .agg #[.slice c.A c.n c.c, .slice c.B c.m c.d] ∧ Fo w c (some (r + s)), eqV _, eqV _] [false, false, false, false, false, false, false, false, false, false] (by kernel_rfl) (by decide) (by decide) rfl rfl rfl (by decide) (by kernel_rfl) (by kernel_rfl) rfl ?stb1 ?steps1 ?fina1 ?finb1
  case stb1 => repeat' (first | exact trivial | apply stb_eq | (exact fun x w w' ⟨c, h1, h2⟩ hb => ⟨c, h1, h2.below hb⟩) | apply And.intro)
  case steps1 =>
    repeat' (first | exact trivial | apply And.intro)
    all_goals
      intro a' w' hbw hdf hoff hdep K hK
      (have o0 := hoff 0 rfl; have o3 := hoff 3 rfl)
      (have HG := hide (HX.out.below hbw); have HH := hide (HQ.out.below hbw); have HI := hide (HO.out.below hbw); have y0 := HG.out.c0; have y1 := HG.out.c1; have z0 := HH.out.c0; have z1 := HH.out.c1; have hvz := hbw.size)
      replace hdep := hdep _ rfl
      simp only [List.getElem_toArray, List.getElem_cons_succ, List.getElem_cons_zero, List.toList_toArray, depAll, binds_data, binds_chain, binds_guard, binds_phase, binds_text, binds_gc, cond_true, cond_false, true_and, getR, eqV, List.getD_cons_succ, List.getD_cons_zero, and_true] at hdep
      simp only [Nat.zero_add, Nat.reduceAdd, getR, eqV, List.getD_cons_succ, List.getD_cons_zero] at hK
      clear hoff hdf
      (first | (obtain ⟨⟨c1, e24, HO1⟩, hdep⟩ : (∃ c : Fa, _) ∧ _ := hdep) | (obtain ⟨c1, e24, HO1⟩ : ∃ c : Fa, _ := hdep) | skip)
      first
        | (refine rg_unwanted rfl rfl rfl (b' := false) (by first | (simp [hdep]; done) | assumption) (by decide) ?_; exact hK _ _ rfl (Below.refl _ _) (by simp))
        | (refine rg_unwanted rfl rfl rfl (b' := true) (by first | (simp [hdep]; done) | assumption) (by decide) ?_; exact hK _ _ rfl (Below.refl _ _) (by simp))
        | (refine rg_wanted rfl rfl rfl (b' := true) (by first | (simp [hdep]; done) | assumption) rfl (fun K' hKK => ?_); go_wp2_with (go_at_call 108; (with_reducible refine (fadd_o _ x b _ _ HG.out.o HI.out).mono ?_); rintro e w1 ⟨c, rfl, ho, hb⟩; rw [HM.out] at ho ⊢); first | exact hK _ _ rfl (Below.refl _ _) (by simp) | (first | exact hK _ _ ⟨c, rfl, ho⟩ hb (by simp) | exact hK _ _ ⟨c1, rfl, HO1⟩ (Below.refl _ _) (by simp)))
        | (refine rg_wanted rfl rfl rfl (b' := false) (by first | (simp [hdep]; done) | assumption) rfl (fun K' hKK => ?_); go_wp2_with (go_at_call 108; (with_reducible refine (fadd_o _ x b _ _ HG.out.o HI.out).mono ?_); rintro e w1 ⟨c, rfl, ho, hb⟩; rw [HM.out] at ho ⊢); first | exact hK _ _ rfl (Below.refl _ _) (by simp) | (first | exact hK _ _ ⟨c, rfl, ho⟩ hb (by simp) | exact hK _ _ ⟨c1, rfl, HO1⟩ (Below.refl _ _) (by simp)))
        | (refine rg_free rfl rfl (fun K' hKK => ?_); fail)
        | (refine rg_free rfl rfl (fun K' hKK => ?_); go_wp2_with (go_at_call 108; (with_reducible refine (fadd_o _ x b _ _ HG.out.o HI.out).mono ?_); rintro e w1 ⟨c, rfl, ho, hb⟩; rw [HM.out] at ho ⊢); first | exact hK _ _ rfl (Below.refl _ _) (by simp) | (first | exact hK _ _ ⟨c, rfl, ho⟩ hb (by simp) | exact hK _ _ ⟨c1, rfl, HO1⟩ (Below.refl _ _) (by simp)))
  all_goals
    intro w' hbw
    repeat (first | refine fin_eq ?_ | refine fin_any (fun y hy => ?_))
    rename_i y10 h10 y4 h4
    obtain ⟨c2, rfl, -⟩ := h10
    obtain ⟨c3, rfl, -⟩ := h4
    obtain ⟨c, rfl, ho⟩ := hy
    have HC := hide ho
    have HW := hide (HB.out.trans (hbw.mono HB.out.size))
    have HG := hide (HX.out.below hbw)
    have y0 := HG.out.c0
    have y1 := HG.out.c1
    have yf := HG.out.fz
    have yz := HG.out.sz
    have hend := hide (show AddP w g o (r + s) ((w'.setCell ⟨g, o, none⟩ (.slice c.A c.n c.c)).setCell ⟨g, o + 1, none⟩ (.slice c.B c.m c.d)) from ⟨c, w', HW.out, HC.out, rfl⟩)
    clear ho
    refine fin_nil ?_
    simp only [List.setIfInBounds_toArray, List.set_cons_succ, List.set_cons_zero]
  · skip
    refine wpAny_one (i := 10) (by kernel_rfl) ?_
    refine rg_free rfl rfl (fun K' hKK => ?_)
    go_wp2_with fail
    refine wpAny_done (by kernel_rfl) ?_ _
    go_wp2_with fail
    refine bodyPost_end (results_none rfl _ _ _) rfl ⟨rfl, hend.out⟩
  · skip
    refine wpAny_two (i := 8) (j := 10) (by kernel_rfl) ?_ ?_
    · skip
      refine rg_free rfl rfl (fun K' hKK => ?_)
      go_wp2_with fail
      refine wpAny_one (i := 10) (by kernel_rfl) ?_
      refine rg_free rfl rfl (fun K' hKK => ?_)
      go_wp2_with fail
      refine wpAny_done (by kernel_rfl) ?_ _
      go_wp2_with fail
      refine bodyPost_end (results_none rfl _ _ _) rfl ⟨rfl, hend.out⟩
    · skip
      refine rg_free rfl rfl (fun K' hKK => ?_)
      go_wp2_with fail
      refine wpAny_one (i := 8) (by kernel_rfl) ?_
      refine rg_free rfl rfl (fun K' hKK => ?_)
      go_wp2_with fail
      refine wpAny_done (by kernel_rfl) ?_ _
      go_wp2_with fail
      refine bodyPost_end (results_none rfl _ _ _) rfl ⟨rfl, hend.out⟩
end Go.Proofs.YtnokfhkcfebimaaGreat
