/- The walk of the law RerunBounds. -/
import Derived.Test.YtnokfhkcfebimaaG35
import Derived.Test.YtnokfhkcfebimaaG28
import Derived.Test.YtnokfhkcfebimaaG26
import Derived.Test.YtnokfhkcfebimaaG27
import Derived.Test.YtnokfhkcfebimaaG18
import Derived.Test.YtnokfhkcfebimaaG31
set_option linter.unusedVariables false
set_option linter.unusedSimpArgs false

/- Plain laws of verdicts: more attempts, fewer attempts; a row of attempts is appended. -/
namespace Go.Proofs.Ytnokfhkcfebimaa
open Go.RowKit

theorem judL_take (g : Nat → Nat → Int) (r0 : Bool) : ∀ (t : List (Bool × Bool)) (k p f j : Nat), k + j < (judL g r0 t k p f).2 → judL g r0 (t.take j) k p f = (0, k + j)
  | t, k, p, f, 0, _ => by rw [List.take_zero]; rfl
  | [], k, p, f, j + 1, h => by simp only [judL] at h; omega
  | (fl, rd) :: t, k, p, f, j + 1, h => by
    rw [List.take_succ_cons, judL]
    rw [judL] at h
    by_cases h1 : rd ≠ r0
    · rw [if_pos h1] at h; dsimp only at h; omega
    · rw [if_neg h1] at h ⊢
      by_cases h2 : rd = false
      · rw [if_pos h2] at h
        cases fl <;> simp at h <;> omega
      · rw [if_neg h2] at h ⊢
        generalize (if fl = true then p else p + 1) = p' at h ⊢
        generalize (if fl = true then f + 1 else f) = f' at h ⊢
        by_cases h3 : g p' f' = 0
        · rw [if_pos h3] at h ⊢
          rw [judL_take g r0 t (k + 1) p' f' j (by omega), show k + 1 + j = k + (j + 1) by omega]
        · rw [if_neg h3] at h; dsimp only at h; omega
theorem judL_app (g : Nat → Nat → Int) (r0 : Bool) (y : List (Bool × Bool)) : ∀ (t : List (Bool × Bool)) (k p f : Nat), (judL g r0 t k p f).1 ≠ 0 → judL g r0 (t ++ y) k p f = judL g r0 t k p f
  | [], k, p, f, h => absurd rfl h
  | (fl, rd) :: t, k, p, f, h => by
    rw [List.cons_append, judL, judL]
    rw [judL] at h
    by_cases h1 : rd ≠ r0
    · rw [if_pos h1, if_pos h1]
    · rw [if_neg h1] at h ⊢
      rw [if_neg h1]
      by_cases h2 : rd = false
      · rw [if_pos h2, if_pos h2]
      · rw [if_neg h2] at h ⊢
        rw [if_neg h2]
        generalize (if fl = true then p else p + 1) = p' at h ⊢
        generalize (if fl = true then f + 1 else f) = f' at h ⊢
        by_cases h3 : g p' f' = 0
        · rw [if_pos h3] at h ⊢
          rw [if_pos h3]
          exact judL_app g r0 y t _ _ _ h
        · rw [if_neg h3, if_neg h3]
theorem judL_le (g : Nat → Nat → Int) (r0 : Bool) : ∀ (t : List (Bool × Bool)) (k p f : Nat), (judL g r0 t k p f).2 ≤ k + t.length ∧ k ≤ (judL g r0 t k p f).2 ∧ ((judL g r0 t k p f).1 = 0 → (judL g r0 t k p f).2 = k + t.length)
  | [], k, p, f => ⟨Nat.le_refl _, Nat.le_refl _, fun _ => rfl⟩
  | (fl, rd) :: t, k, p, f => by
    rw [judL, List.length_cons]
    by_cases h1 : rd ≠ r0
    · rw [if_pos h1]; exact ⟨by dsimp only; omega, by dsimp only; omega, fun h => by simp at h⟩
    · rw [if_neg h1]
      by_cases h2 : rd = false
      · rw [if_pos h2]
        cases fl
        · exact ⟨by simp <;> omega, by simp, fun h => by simp at h⟩
        · exact ⟨by simp <;> omega, by simp, fun h => by simp at h⟩
      · rw [if_neg h2]
        generalize (if fl = true then p else p + 1) = p'
        generalize (if fl = true then f + 1 else f) = f'
        by_cases h3 : g p' f' = 0
        · rw [if_pos h3]
          obtain ⟨h4, h5, h6⟩ := judL_le g r0 t (k + 1) p' f'
          exact ⟨by omega, by omega, fun h => by have := h6 h; omega⟩
        · rw [if_neg h3]; exact ⟨by dsimp only; omega, by dsimp only; omega, fun h => absurd h h3⟩
theorem jud_take {g : Nat → Nat → Int} {xs : List (Bool × Bool)} {j : Nat} (h : j < (jud g xs).2) : jud g (xs.take j) = (0, j) := by
  cases xs with
  | nil => simp [jud] at h
  | cons y t =>
    obtain ⟨fl, rd⟩ := y
    cases j with
    | zero => rfl
    | succ j =>
      cases fl
      · simp [jud] at h
      · have e : ∀ t, jud g ((true, rd) :: t) = judL g rd t 1 0 0 := fun t => rfl
        rw [e] at h
        rw [List.take_succ_cons, e, judL_take g rd t 1 0 0 j (by omega), show 1 + j = j + 1 by omega]
theorem jud_app {g : Nat → Nat → Int} {xs : List (Bool × Bool)} (y : List (Bool × Bool)) (h : (jud g xs).1 ≠ 0) : jud g (xs ++ y) = jud g xs := by
  cases xs with
  | nil => exact absurd rfl h
  | cons x t =>
    obtain ⟨fl, rd⟩ := x
    cases fl
    · rfl
    · exact judL_app g rd y t 1 0 0 h
theorem jud_le (g : Nat → Nat → Int) (xs : List (Bool × Bool)) : (jud g xs).2 ≤ xs.length ∧ ((jud g xs).1 = 0 → (jud g xs).2 = xs.length) := by
  cases xs with
  | nil => exact ⟨Nat.le_refl _, fun _ => rfl⟩
  | cons x t =>
    obtain ⟨fl, rd⟩ := x
    cases fl
    · exact ⟨by simp [jud], fun h => by simp [jud] at h⟩
    · obtain ⟨h1, -, h3⟩ := judL_le g rd t 1 0 0
      have e : jud g ((true, rd) :: t) = judL g rd t 1 0 0 := rfl
      rw [e, List.length_cons]
      exact ⟨by omega, fun h => by have := h3 h; omega⟩
theorem OA.drew {w0 w : World} {T : Nat} {A : Option Addr} {m c : Nat} {l : List (Bool × Bool)} (h : OA w0 w T A m c l) : OA w0 w.drew T A m c l := h.below (Dr.below ⟨1, rfl⟩)
theorem step_app_atts {w0 w : World} {ops : Array Oper} {o : Oper} {a : Act} {K : Act → World → Prop} {Q : Exit → Act → World → Prop} {E : Prop} (hgd : o.guard = none) (s x : Operand) (t : TypeId) (ht : Try.prog.underlying t = some (.slice 70))
    (ho : o.op = .call { callee := .builtin .append, args := #[s, x], argTypes := #[t, t] })
    (T : Nat) (A : Option Addr) (m c : Nat) (l : List (Bool × Bool)) (B : Option Addr) (k d : Nat) (M : List (Bool × Bool)) (hs : a.eval s = .slice A m c) (hx : a.eval x = .slice B k d) (hO : OA w0 w T A m c l) (hR : Rs w none 2 atv B M) (hM : M.length = k) (h63 : m + k ≤ 4294967296)
    (h : ∀ A' c' w', OA w0 w' T A' (m + k) c' (l ++ M) → Fr w w' (fun b => (Value.slice A m c).ownBlock = some b) → K (a.put o.dst (.slice A' (m + k) c')) w') :
    if Region.wanted o (yielded ops a.tmps) = true then Oper.wp Try.prog o a w K Q else E := by
  refine step_append _ hgd s x t ho w0.heap.size 70 _ 2 2 ht info70 rfl (by omega) (.slice A m c) m l hs hO.own B k d M hx hR hM atv_len atv_one h63 (by omega) hO.fr.size ?_
  intro A' c' w' hown hgr _
  refine h A' c' w' ⟨hown, by simp [hO.len, hM], hO.fr.grown hgr ?_⟩ ⟨hgr.os, hgr.tape, hgr.output, hgr.size, fun k hk hS => hgr.block k hk (fun e => hS e.symm)⟩
  intro g hg
  exact .inl (hO.lo hg).1
theorem wl_app_atts {w0 w : World} {ops : Array Oper} {rest : List Oper} {o : Oper} {a : Act} {Q : Exit → Act → World → Prop} (hgd : o.guard = none) (s x : Operand) (t : TypeId) (ht : Try.prog.underlying t = some (.slice 70))
    (ho : o.op = .call { callee := .builtin .append, args := #[s, x], argTypes := #[t, t] })
    (T : Nat) (A : Option Addr) (m c : Nat) (l : List (Bool × Bool)) (B : Option Addr) (k d : Nat) (M : List (Bool × Bool)) (hs : a.eval s = .slice A m c) (hx : a.eval x = .slice B k d) (hO : OA w0 w T A m c l) (hR : Rs w none 2 atv B M) (hM : M.length = k) (h63 : m + k ≤ 4294967296)
    (h : ∀ A' c' w', OA w0 w' T A' (m + k) c' (l ++ M) → Fr w w' (fun b => (Value.slice A m c).ownBlock = some b) → wpList Try.prog ops Q rest (a.put o.dst (.slice A' (m + k) c')) w') :
    wpList Try.prog ops Q (o :: rest) a w := by
  refine wl_append _ hgd s x t ho w0.heap.size 70 _ 2 2 ht info70 rfl (by omega) (.slice A m c) m l hs hO.own B k d M hx hR hM atv_len atv_one h63 (by omega) hO.fr.size ?_
  intro A' c' w' hown hgr _
  refine h A' c' w' ⟨hown, by simp [hO.len, hM], hO.fr.grown hgr ?_⟩ ⟨hgr.os, hgr.tape, hgr.output, hgr.size, fun k hk hS => hgr.block k hk (fun e => hS e.symm)⟩
  intro g hg
  exact .inl (hO.lo hg).1
end Go.Proofs.Ytnokfhkcfebimaa

/- Plain laws of verdicts: what hides behind each. -/
namespace Go.Proofs.Ytnokfhkcfebimaa
open Go.RowKit

theorem pow_ge_one {r : Rat} (h : 1 ≤ r) : ∀ n : Nat, 1 ≤ r ^ n
  | 0 => by rw [Rat.pow_zero]; exact Rat.le_refl
  | n + 1 => by
    rw [Rat.pow_succ]
    have h1 := pow_ge_one h n
    have h0 : (0 : Rat) ≤ r ^ n := Rat.le_trans (by decide) h1
    have := Rat.mul_le_mul_of_nonneg_left h h0
    rw [Rat.mul_one] at this
    exact Rat.le_trans h1 this
theorem pow_le_one' {r : Rat} (h0 : 0 ≤ r) (h : r ≤ 1) : ∀ n : Nat, 0 ≤ r ^ n ∧ r ^ n ≤ 1
  | 0 => by rw [Rat.pow_zero]; exact ⟨by decide, Rat.le_refl⟩
  | n + 1 => by
    rw [Rat.pow_succ]
    obtain ⟨h1, h2⟩ := pow_le_one' h0 h n
    have := Rat.mul_le_mul_of_nonneg_left h h1
    rw [Rat.mul_one] at this
    exact ⟨Rat.mul_nonneg h1 h0, Rat.le_trans this h2⟩
theorem inv_gt_one {a : Rat} (h0 : 0 < a) (h1 : a < 1) : 1 < 1 / a := by
  refine Rat.not_le.1 (fun h => ?_)
  have h2 := Rat.mul_le_mul_of_nonneg_right h (Rat.le_of_lt h0)
  have h3 : (1 / a) * a = 1 := Rat.div_mul_cancel (fun h => by rw [h] at h0; exact absurd h0 (by decide))
  rw [h3, Rat.one_mul] at h2
  exact absurd h1 (Rat.not_lt.2 h2)
theorem dec_no_fail {s : Sv} {l h a b : Rat} {M : Nat} (hk : OKs s l h a b M) (p : Nat) : decQ l h a b p 0 ≠ 2 := by
  intro h2
  have h3 := decQ_flaky.1 h2
  unfold ratQ at h3
  rw [Rat.pow_zero, Rat.one_mul] at h3
  have h4 := (pow_le_one' (r := (1 - h) / (1 - l)) (div_nonneg' (Rat.le_of_lt hk.il.q0) (Rat.le_of_lt hk.ih.q0)) (div_le_one hk.il.q0 (by have := Rat.le_of_lt hk.lt; grind)) p).2
  exact absurd (inv_gt_one hk.ia.p hk.ia.q) (Rat.not_lt.2 (Rat.le_trans h3 h4))
theorem dec_no_pass {s : Sv} {l h a b : Rat} {M : Nat} (hk : OKs s l h a b M) (f : Nat) : decQ l h a b 0 f ≠ 1 := by
  intro h2
  have h3 := (decQ_stable.1 h2).2
  unfold ratQ at h3
  rw [Rat.pow_zero, Rat.mul_one] at h3
  have h4 := pow_ge_one (r := h / l) (one_le_div hk.il.p (Rat.le_of_lt hk.lt)) f
  exact absurd hk.ib.q (Rat.not_lt.2 (Rat.le_trans h4 h3))
/-- How many failed. -/
def cntF (xs : List (Bool × Bool)) : Nat := xs.countP (·.1)
/-- What a verdict says of the attempts used. -/
def Hides (M : Nat) (n : Nat) (r0 : Bool) (v : Int) (u F : Nat) : Prop :=
  u ≤ n ∧ 1 ≤ F ∧ ((v = 1 ∧ 2 ≤ F) ∨ (v = 2 ∧ F < u ∧ r0 = true) ∨ (v = 4 ∧ 2 ≤ u) ∨ (v = 3 ∧ u = M + 1) ∨ (v = 0 ∧ u = n))
theorem judL_hides {d : Nat → Nat → Int} {M : Nat} (hd1 : ∀ p, d p 0 ≠ 2) (hd2 : ∀ f, d 0 f ≠ 1) (r0 : Bool) : ∀ (t : List (Bool × Bool)) (k p f : Nat), k = p + f + 1 → p + f < M →
    k ≤ (judL (aftQ d M) r0 t k p f).2 ∧ Hides M (k + t.length) r0 (judL (aftQ d M) r0 t k p f).1 (judL (aftQ d M) r0 t k p f).2 (f + 1 + cntF (t.take ((judL (aftQ d M) r0 t k p f).2 - k)))
  | [], k, p, f, hk, _ => ⟨Nat.le_refl _, Nat.le_refl _, by omega, by simp [judL]⟩
  | (fl, rd) :: t, k, p, f, hk, hM => by
    have hln : k + ((fl, rd) :: t).length = (k + 1) + t.length := by rw [List.length_cons]; omega
    have hc : ∀ j, cntF (((fl, rd) :: t).take (j + 1)) = (if fl then 1 else 0) + cntF (t.take j) := fun j => by
      rw [List.take_succ_cons]
      unfold cntF
      cases fl <;> simp [List.countP_cons] <;> omega
    rw [judL, hln]
    by_cases h1 : rd ≠ r0
    · rw [if_pos h1]
      have h2 := hc 0
      dsimp only
      rw [show k + 1 - k = 0 + 1 by omega]
      exact ⟨by omega, by omega, by omega, .inr (.inr (.inl ⟨rfl, by omega⟩))⟩
    · rw [if_neg h1]
      have h1 : rd = r0 := Classical.not_not.1 h1
      by_cases h2 : rd = false
      · rw [if_pos h2]
        cases fl
        · simp only [Bool.false_eq_true, if_false]
          exact ⟨by omega, by omega, by omega, .inr (.inr (.inl ⟨rfl, by omega⟩))⟩
        · simp only [if_true]
          have h3 := hc 0
          rw [show k + 1 - k = 0 + 1 by omega, h3]
          exact ⟨by omega, by omega, by simp; omega, .inl ⟨rfl, by simp; omega⟩⟩
      · rw [if_neg h2]
        have hr : r0 = true := by rw [← h1]; simpa using h2
        have e : (if fl then p else p + 1) + (if fl then f + 1 else f) = p + f + 1 := by cases fl <;> simp <;> omega
        have e2 : (if fl then f + 1 else f) = f + (if fl then 1 else 0) := by cases fl <;> rfl
        obtain ⟨p', hp'⟩ : ∃ p', p' = (if fl then p else p + 1) := ⟨_, rfl⟩
        obtain ⟨f', hf'⟩ : ∃ f', f' = (if fl then f + 1 else f) := ⟨_, rfl⟩
        obtain ⟨z, hz⟩ : ∃ z : Nat, z = (if fl then 1 else 0) := ⟨_, rfl⟩
        rw [← hp', ← hf'] at e
        rw [← hf', ← hz] at e2
        rw [← hp', ← hf']
        by_cases h3 : aftQ d M p' f' = 0
        · rw [if_pos h3]
          have h4 := aft_go (by omega) h3
          obtain ⟨h5, h6, h7, h8⟩ := judL_hides hd1 hd2 r0 t (k + 1) p' f' (by omega) h4
          have h9 := hc ((judL (aftQ d M) r0 t (k + 1) p' f').2 - (k + 1))
          rw [← hz] at h9
          rw [show (judL (aftQ d M) r0 t (k + 1) p' f').2 - k = (judL (aftQ d M) r0 t (k + 1) p' f').2 - (k + 1) + 1 by omega, h9, show f + 1 + (z + cntF (t.take ((judL (aftQ d M) r0 t (k + 1) p' f').2 - (k + 1)))) = f' + 1 + cntF (t.take ((judL (aftQ d M) r0 t (k + 1) p' f').2 - (k + 1))) by omega]
          exact ⟨by omega, h6, h7, h8⟩
        · rw [if_neg h3]
          dsimp only
          have h4 := hc 0
          rw [← hz] at h4
          rw [show k + 1 - k = 0 + 1 by omega, h4]
          have h5 : cntF (t.take 0) = 0 := by simp [cntF]
          refine ⟨by omega, by omega, by omega, ?_⟩
          unfold aftQ at h3 ⊢
          by_cases h6 : d p' f' = 2
          · rw [if_pos h6]
            have : f' ≠ 0 := fun h0 => hd1 p' (by rw [← h0]; exact h6)
            exact .inl ⟨rfl, by omega⟩
          · rw [if_neg h6] at h3 ⊢
            by_cases h7 : d p' f' = 1
            · rw [if_pos h7]
              have : p' ≠ 0 := fun h0 => hd2 f' (by rw [← h0]; exact h7)
              exact .inr (.inl ⟨rfl, by omega, hr⟩)
            · rw [if_neg h7] at h3 ⊢
              by_cases h8 : p' + f' = M
              · rw [if_pos h8]
                exact .inr (.inr (.inr (.inl ⟨rfl, by omega⟩)))
              · rw [if_neg h8] at h3
                exact absurd rfl h3
theorem jud_hides {s : Sv} {l h a b : Rat} {M : Nat} (hk : OKs s l h a b M) (xs : List (Bool × Bool)) :
    ((jud (aftQ (decQ l h a b) M) xs).2 = 0 ∧ (jud (aftQ (decQ l h a b) M) xs).1 = 0 ∧ xs.length = 0) ∨
    ((jud (aftQ (decQ l h a b) M) xs).1 = 5 ∧ (jud (aftQ (decQ l h a b) M) xs).2 = 1 ∧ 1 ≤ xs.length ∧ cntF (xs.take 1) = 0) ∨
    ∃ r0, xs[0]? = some (true, r0) ∧ Hides M xs.length r0 (jud (aftQ (decQ l h a b) M) xs).1 (jud (aftQ (decQ l h a b) M) xs).2 (cntF (xs.take (jud (aftQ (decQ l h a b) M) xs).2)) := by
  cases xs with
  | nil => exact .inl ⟨rfl, rfl, rfl⟩
  | cons y t =>
    obtain ⟨fl, rd⟩ := y
    cases fl
    · exact .inr (.inl ⟨rfl, rfl, by simp, rfl⟩)
    · right; right
      refine ⟨rd, rfl, ?_⟩
      have h1 := judL_hides (M := M) (dec_no_fail hk) (dec_no_pass hk) rd t 1 0 0 rfl (by have := hk.m1; omega)
      have e : jud (aftQ (decQ l h a b) M) ((true, rd) :: t) = judL (aftQ (decQ l h a b) M) rd t 1 0 0 := rfl
      rw [e, List.length_cons]
      obtain ⟨h2, h3⟩ := h1
      have hc : cntF (((true, rd) :: t).take (judL (aftQ (decQ l h a b) M) rd t 1 0 0).2) = 0 + 1 + cntF (t.take ((judL (aftQ (decQ l h a b) M) rd t 1 0 0).2 - 1)) := by
        obtain ⟨j, hj⟩ : ∃ j, (judL (aftQ (decQ l h a b) M) rd t 1 0 0).2 = j + 1 := ⟨_, (Nat.sub_add_cancel h2).symm⟩
        rw [hj, List.take_succ_cons]
        unfold cntF
        rw [List.countP_cons]
        simp
        omega
      rw [hc, show t.length + 1 = 1 + t.length by omega]
      exact h3
end Go.Proofs.Ytnokfhkcfebimaa

/- Plain laws: how many further attempts can decide. -/
namespace Go.Proofs.Ytnokfhkcfebimaa
open Go.RowKit

theorem judL_zero {d : Nat → Nat → Int} {M : Nat} (r0 : Bool) : ∀ (t : List (Bool × Bool)) (k p f : Nat), (judL (aftQ d M) r0 t k p f).1 = 0 → p + f < M →
    (∀ x ∈ t, x.2 = r0) ∧ (t ≠ [] → r0 = true) ∧ p + f + t.length < M ∧ cntF t ≤ t.length ∧
      ∀ y, judL (aftQ d M) r0 (t ++ y) k p f = judL (aftQ d M) r0 y (k + t.length) (p + (t.length - cntF t)) (f + cntF t)
  | [], k, p, f, _, hM => ⟨by simp, by simp, by simpa using hM, by simp [cntF], fun y => by simp [cntF]⟩
  | (fl, rd) :: t, k, p, f, h, hM => by
    rw [judL] at h
    by_cases h1 : rd ≠ r0
    · rw [if_pos h1] at h; simp at h
    · rw [if_neg h1] at h
      have h1 : rd = r0 := Classical.not_not.1 h1
      by_cases h2 : rd = false
      · rw [if_pos h2] at h
        cases fl <;> simp at h
      · rw [if_neg h2] at h
        have hr : r0 = true := by rw [← h1]; simpa using h2
        obtain ⟨z, hz, hz1⟩ : ∃ z : Nat, z = (if fl then 1 else 0) ∧ z ≤ 1 := ⟨_, rfl, by cases fl <;> simp⟩
        have ep : (if fl then p else p + 1) = p + (1 - z) := by rw [hz]; cases fl <;> rfl
        have ef : (if fl then f + 1 else f) = f + z := by rw [hz]; cases fl <;> rfl
        rw [ep, ef] at h
        by_cases h3 : aftQ d M (p + (1 - z)) (f + z) = 0
        · rw [if_pos h3] at h
          have h4 := aft_go (by omega) h3
          obtain ⟨h5, -, h6, h7, h8⟩ := judL_zero r0 t (k + 1) _ _ h h4
          have hc : cntF ((fl, rd) :: t) = z + cntF t := by
            unfold cntF
            rw [hz]
            cases fl <;> simp [List.countP_cons] <;> omega
          refine ⟨fun x hx => ?_, fun _ => hr, by rw [List.length_cons]; omega, by rw [hc, List.length_cons]; omega, fun y => ?_⟩
          · rcases List.mem_cons.1 hx with rfl | hx
            · exact h1
            · exact h5 x hx
          · rw [List.cons_append, judL, if_neg (by simp [h1]), if_neg h2, ep, ef, if_pos h3, h8, hc, List.length_cons]
            rw [show k + 1 + t.length = k + (t.length + 1) by omega, show p + (1 - z) + (t.length - cntF t) = p + (t.length + 1 - (z + cntF t)) by omega, show f + z + cntF t = f + (z + cntF t) by omega]
        · rw [if_neg h3] at h; exact absurd h h3
/-- m further runs, all alike, can decide, and no fewer. -/
def lstP (g : Nat → Nat → Int) (p f m : Nat) : Prop := 1 ≤ m ∧ (g (p + m) f ≠ 0 ∨ g p (f + m) ≠ 0) ∧ ∀ j, 1 ≤ j → j < m → g (p + j) f = 0 ∧ g p (f + j) = 0
/-- What Least returns. -/
def IsLv (g : Nat → Nat → Int) (M : Nat) (xs : List (Bool × Bool)) (L : Nat) : Prop :=
  ((jud g xs).1 ≠ 0 ∧ L = 0) ∨
  ((jud g xs).1 = 0 ∧ xs = [] ∧ L = 1) ∨
  ((jud g xs).1 = 0 ∧ xs = [(true, false)] ∧ L = 1) ∨
  ∃ (t : List (Bool × Bool)), (jud g xs).1 = 0 ∧ xs = (true, true) :: t ∧ cntF t ≤ t.length ∧ t.length < M ∧ lstP g (t.length - cntF t) (cntF t) L ∧ (∀ x ∈ t, x.2 = true) ∧
    ∀ y, jud g (xs ++ y) = judL g true y (1 + t.length) (t.length - cntF t) (cntF t)
theorem jud_zero {d : Nat → Nat → Int} {M : Nat} (hM : 1 ≤ M) {xs : List (Bool × Bool)} (h : (jud (aftQ d M) xs).1 = 0) :
    xs = [] ∨ xs = [(true, false)] ∨ ∃ t, xs = (true, true) :: t ∧ cntF t ≤ t.length ∧ t.length < M ∧ (∀ x ∈ t, x.2 = true) ∧ ∀ y, jud (aftQ d M) (xs ++ y) = judL (aftQ d M) true y (1 + t.length) (t.length - cntF t) (cntF t) := by
  cases xs with
  | nil => exact .inl rfl
  | cons x t =>
    obtain ⟨fl, rd⟩ := x
    cases fl
    · simp [jud] at h
    · have e : ∀ t, jud (aftQ d M) ((true, rd) :: t) = judL (aftQ d M) rd t 1 0 0 := fun t => rfl
      rw [e] at h
      obtain ⟨h1, h2, h3, h4, h5⟩ := judL_zero rd t 1 0 0 h (by omega)
      cases rd
      · cases t with
        | nil => exact .inr (.inl rfl)
        | cons y t => exact absurd (h2 (by simp)) (by simp)
      · refine .inr (.inr ⟨t, rfl, h4, by omega, h1, fun y => ?_⟩)
        rw [List.cons_append, e, h5 y]
        simp
theorem aft_last {d : Nat → Nat → Int} {M p f : Nat} (h : p + f = M) : aftQ d M p f ≠ 0 := fun h0 => by
  have := aft_go (Nat.le_of_eq h) h0
  omega
end Go.Proofs.Ytnokfhkcfebimaa

/- Plain laws: no fewer further attempts than Least decide, and some of Least ones do. -/
namespace Go.Proofs.Ytnokfhkcfebimaa
open Go.RowKit

/-- Further attempts: the bits of a number. -/
def moreL (x : Nat) (r : Bool) (n : Nat) : List (Bool × Bool) := (bitL x n).map fun b => (b, r)
theorem moreL_succ (x : Nat) (r : Bool) (n : Nat) : moreL x r (n + 1) = moreL x r n ++ [(decide (x / 2 ^ n % 2 = 1), r)] := by
  unfold moreL
  rw [bitL_succ, List.map_append]
  rfl
theorem moreL_len (x : Nat) (r : Bool) (n : Nat) : (moreL x r n).length = n := by unfold moreL; rw [List.length_map, bitL_len]
theorem moreL_rnd {x : Nat} {r : Bool} {n : Nat} : ∀ y ∈ moreL x r n, y.2 = r := by
  intro y hy
  unfold moreL at hy
  obtain ⟨b, -, rfl⟩ := List.mem_map.1 hy
  rfl
/-- Whether further attempts are random. -/
def rrL (xs : List (Bool × Bool)) : Bool := match xs with
  | [] => true
  | x :: _ => x.2
theorem judL_open {g : Nat → Nat → Int} : ∀ (y : List (Bool × Bool)) (k p f : Nat), (∀ x ∈ y, x.2 = true) → (∀ i j, 1 ≤ i + j → i + j ≤ y.length → g (p + i) (f + j) = 0) → (judL g true y k p f).1 = 0
  | [], _, _, _, _, _ => rfl
  | (fl, rd) :: y, k, p, f, hr, hg => by
    obtain rfl : rd = true := hr (fl, rd) (by simp)
    rw [judL, if_neg (by simp), if_neg (by simp)]
    cases fl
    · simp only [Bool.false_eq_true, if_false]
      rw [if_pos (show g (p + 1) f = 0 from hg 1 0 (by omega) (by simp))]
      exact judL_open y _ _ _ (fun x hx => hr x (by simp [hx])) (fun i j h1 h2 => by
        have := hg (1 + i) j (by omega) (by rw [List.length_cons]; omega)
        rwa [← Nat.add_assoc] at this)
    · rw [if_pos rfl, if_pos rfl, if_pos (show g p (f + 1) = 0 from hg 0 1 (by omega) (by simp))]
      exact judL_open y _ _ _ (fun x hx => hr x (by simp [hx])) (fun i j h1 h2 => by
        have := hg i (1 + j) (by omega) (by rw [List.length_cons]; omega)
        rwa [← Nat.add_assoc] at this)
theorem judL_end {g : Nat → Nat → Int} : ∀ (y : List (Bool × Bool)) (k p f : Nat), (∀ x ∈ y, x.2 = true) → y ≠ [] → (judL g true y k p f).1 = 0 → cntF y ≤ y.length ∧ g (p + (y.length - cntF y)) (f + cntF y) = 0
  | [], _, _, _, _, h, _ => absurd rfl h
  | (fl, rd) :: y, k, p, f, hr, _, h => by
    obtain rfl : rd = true := hr (fl, rd) (by simp)
    rw [judL, if_neg (by simp), if_neg (by simp)] at h
    by_cases hy : y = []
    · subst hy
      cases fl
      · simp only [Bool.false_eq_true, if_false] at h
        by_cases h3 : g (p + 1) f = 0
        · exact ⟨by simp [cntF], by simpa [cntF] using h3⟩
        · rw [if_neg h3] at h; exact absurd h h3
      · rw [if_pos rfl, if_pos rfl] at h
        by_cases h3 : g p (f + 1) = 0
        · exact ⟨by simp [cntF], by simpa [cntF] using h3⟩
        · rw [if_neg h3] at h; exact absurd h h3
    · cases fl
      · simp only [Bool.false_eq_true, if_false] at h
        by_cases h3 : g (p + 1) f = 0
        · rw [if_pos h3] at h
          obtain ⟨h4, h5⟩ := judL_end y _ _ _ (fun x hx => hr x (by simp [hx])) hy h
          have e : cntF ((false, true) :: y) = cntF y := by simp [cntF]
          rw [e, List.length_cons]
          exact ⟨by omega, by rw [show p + (y.length + 1 - cntF y) = p + 1 + (y.length - cntF y) by omega]; exact h5⟩
        · rw [if_neg h3] at h; exact absurd h h3
      · rw [if_pos rfl, if_pos rfl] at h
        by_cases h3 : g p (f + 1) = 0
        · rw [if_pos h3] at h
          obtain ⟨h4, h5⟩ := judL_end y _ _ _ (fun x hx => hr x (by simp [hx])) hy h
          have e : cntF ((true, true) :: y) = cntF y + 1 := by simp [cntF]
          rw [e, List.length_cons]
          exact ⟨by omega, by rw [show y.length + 1 - (cntF y + 1) = y.length - cntF y by omega, show f + (cntF y + 1) = f + 1 + cntF y by omega]; exact h5⟩
        · rw [if_neg h3] at h; exact absurd h h3
theorem cntF_more0 (r : Bool) (n : Nat) : cntF (moreL 0 r n) = 0 := by
  induction n with
  | zero => rfl
  | succ n ih => rw [moreL_succ]; unfold cntF at ih ⊢; rw [List.countP_append, ih]; simp
theorem cntF_more1 (r : Bool) (N : Nat) : ∀ n, n ≤ N → cntF (moreL (2 ^ N - 1) r n) = n := by
  intro n
  induction n with
  | zero => intro _; rfl
  | succ n ih =>
    intro hn
    have h1 : decide ((2 ^ N - 1) / 2 ^ n % 2 = 1) = true := by
      rw [← Nat.testBit_eq_decide_div_mod_eq, Nat.testBit_two_pow_sub_one]
      exact decide_eq_true (by omega)
    rw [moreL_succ, h1]
    have := ih (by omega)
    unfold cntF at this ⊢
    rw [List.countP_append, this]
    simp
section
variable {l h a b : Rat} {M : Nat}
/-- Between all passed and all failed. -/
theorem aft_between (hl : Inn l) (hh : Inn h) (hlh : l < h) {p f i j : Nat} (h1 : aftQ (decQ l h a b) M (p + (i + j)) f = 0) (h2 : aftQ (decQ l h a b) M p (f + (i + j)) = 0) : aftQ (decQ l h a b) M (p + i) (f + j) = 0 := by
  have k0 : ∀ x y, aftQ (decQ l h a b) M x y = 0 → decQ l h a b x y ≠ 2 ∧ decQ l h a b x y ≠ 1 ∧ x + y ≠ M := fun x y h0 => by
    unfold aftQ at h0
    split at h0
    · simp at h0
    · split at h0
      · simp at h0
      · split at h0
        · simp at h0
        · exact ⟨by assumption, by assumption, by assumption⟩
  obtain ⟨a1, a2, a3⟩ := k0 _ _ h1
  obtain ⟨b1, b2, b3⟩ := k0 _ _ h2
  have c1 : decQ l h a b (p + i) (f + j) ≠ 2 := fun e => by
    have := flaky_up hl hh hlh (a := a) (b := b) (n := p + f + (i + j)) (f := f + j) (g := f + (i + j)) (by omega) (by omega) (by rw [show p + f + (i + j) - (f + j) = p + i by omega]; exact e)
    rw [show p + f + (i + j) - (f + (i + j)) = p by omega] at this
    exact b1 this
  have c2 : decQ l h a b (p + i) (f + j) ≠ 1 := fun e => by
    have := stable_down hl hh hlh (a := a) (b := b) (n := p + f + (i + j)) (f := f) (g := f + j) (by omega) (by omega) (by rw [show p + f + (i + j) - (f + j) = p + i by omega]; exact e)
    rw [show p + f + (i + j) - f = p + (i + j) by omega] at this
    exact a2 this
  unfold aftQ
  rw [if_neg c1, if_neg c2, if_neg (by omega)]
theorem soon_zero (hl : Inn l) (hh : Inn h) (hlh : l < h) {xs : List (Bool × Bool)} {L : Nat} (hv : IsLv (aftQ (decQ l h a b) M) M xs L) (x k : Nat) (hk : k < L) : (jud (aftQ (decQ l h a b) M) (xs ++ moreL x (rrL xs) k)).1 = 0 := by
  rcases hv with ⟨-, rfl⟩ | ⟨h0, rfl, rfl⟩ | ⟨h0, rfl, rfl⟩ | ⟨t, h0, rfl, h1, h2, ⟨h3, h4, h5⟩, h6, h7⟩
  · omega
  · obtain rfl : k = 0 := by omega
    exact h0
  · obtain rfl : k = 0 := by omega
    exact h0
  · rw [h7]
    refine judL_open _ _ _ _ moreL_rnd (fun i j h8 h9 => ?_)
    rw [moreL_len] at h9
    obtain ⟨h10, h11⟩ := h5 (i + j) h8 (by omega)
    exact aft_between hl hh hlh h10 h11
theorem soon_found {xs : List (Bool × Bool)} {L : Nat} (hv : IsLv (aftQ (decQ l h a b) M) M xs L) : ∃ x, x < 2 ^ L ∧ (jud (aftQ (decQ l h a b) M) (xs ++ moreL x (rrL xs) L)).1 ≠ 0 := by
  rcases hv with ⟨h0, rfl⟩ | ⟨h0, rfl, rfl⟩ | ⟨h0, rfl, rfl⟩ | ⟨t, h0, rfl, h1, h2, ⟨h3, h4, h5⟩, h6, h7⟩
  · exact ⟨0, by simp, by rw [show moreL 0 (rrL xs) 0 = [] from rfl, List.append_nil]; exact h0⟩
  · exact ⟨0, by simp, by simp [moreL_succ, show ∀ x r, moreL x r 0 = [] from fun _ _ => rfl, rrL, jud]⟩
  · exact ⟨0, by simp, by simp [moreL_succ, show ∀ x r, moreL x r 0 = [] from fun _ _ => rfl, rrL, jud, judL]⟩
  · have hpos : 0 < 2 ^ L := Nat.two_pow_pos L
    have hne : ∀ x r, moreL x r L ≠ [] := fun x r e => by
      have := moreL_len x r L
      rw [e] at this
      simp at this
      omega
    rcases h4 with h4 | h4
    · refine ⟨0, hpos, fun h8 => ?_⟩
      rw [h7] at h8
      obtain ⟨-, h9⟩ := judL_end _ _ _ _ moreL_rnd (hne _ _) h8
      rw [cntF_more0, moreL_len] at h9
      exact h4 h9
    · refine ⟨2 ^ L - 1, by omega, fun h8 => ?_⟩
      rw [h7] at h8
      obtain ⟨-, h9⟩ := judL_end _ _ _ _ moreL_rnd (hne _ _) h8
      rw [cntF_more1 true L L (Nat.le_refl _), moreL_len, Nat.sub_self] at h9
      exact h4 h9
end
end Go.Proofs.Ytnokfhkcfebimaa

/- Contracts: fraction.Sum. -/
namespace Go.Proofs.Ytnokfhkcfebimaa
open Go.RowKit

theorem fcheck_ok (w : World) (a : Fa) (r : Rat) (ha : Fo w a (some r)) : Calls Try.prog 76 #[.agg #[.slice a.A a.n a.c, .slice a.B a.m a.d]] w fun e w' => e = .returned (.bool true) ∧ Below w.heap.size w w' := by
  have h := fcheck_any w a _ _ ha.1
  rwa [fracOf_self ha.2] at h
set_option maxRecDepth 100000 in
set_option maxHeartbeats 8000000 in
theorem fsum_ok (w : World) (A : Option Addr) (n c : Nat) (fs : List Fa) (os : List Rat) (hS : FSl w A n fs os) (hn : n ≤ 4294967296) (hfit : ∀ j, j ≤ n → fitsR (sumQ (os.take j)) = true) :
    Calls Try.prog 39 #[.slice A n c] w fun e w' => RetV w (sumQ os) e w' := by
  have HS := hide hS
  have HFT := hide hfit
  clear hS hfit
  go_enter Try.func39, Try.ntmps39
  go_upto_region 1 with (fail)
  generalize hW : World.alloc w _ = v
  have HR := hide (show Rb v w.heap.size by rw [← hW]; exact Rb.mk0 _ rfl)
  have HBV := hide (show Below w.heap.size w v by rw [← hW]; exact (Below.refl _ _).alloc (Nat.le_refl _) _)
  clear hW
  go_wp2_with fail
  go_loopw [8] (fun i wr => ∃ (j : Nat), i = .int .i64 (j : Int) ∧ j ≤ n ∧ Hid (Below w.heap.size w wr) ∧ Hid (Rb wr w.heap.size)) (fun i _ => n - (intOf i).toNat)
  case atStart => exact ⟨0, rfl, by omega, HBV, HR⟩
  case round =>
    obtain ⟨j, rfl, hj, HB, HR⟩ := hrel
    obtain ⟨r0, r1, rf, rz, -⟩ := HR.out
    by_cases hjn : j = n
    · subst hjn
      have HSr := hide (HS.out.below HB.out)
      go_wp2_with (go_at_call 79; (with_reducible refine (ffold_ok _ A j c fs os HSr.out hn HFT.out).mono ?_); rintro e w1 ⟨c1, rfl, ho, hb⟩; have HO := hide ho; have HB1 := hide (HB.out.trans (hb.mono HB.out.size)); have HR1 := hide (HR.out.below hb); obtain ⟨z0, z1, zf, zz, -⟩ := HR1.out; clear ho hb)
      refine bodyPost_ret (v := .tuple #[.agg #[.slice c1.A c1.n c1.c, .slice c1.B c1.m c1.d], .int .i64 0]) (by simp [results, Try.results39, go_sem, *]) rfl ⟨c1, rfl, HO.out.put2 HR1.out.nb _ _ (by simp), Rb.end0 HB1.out (Nat.le_refl _) _ _⟩
    · have hjl : j < n := by omega
      have hlt : (j : Int) < (n : Int) := by omega
      have hj0 : (0 : Int) ≤ (j : Int) := by omega
      obtain ⟨b, o, x, r, rfl, hb, -, -, hox, cx0, cx1⟩ := (HS.out.below HB.out).at hjl
      have HOX := hide hox
      clear hox
      go_wp2_with (go_at_call 76; (with_reducible refine (fcheck_ok _ x r (HOX.out.alloc _)).mono ?_); rintro e w2 ⟨rfl, hb⟩; have HB2 := hide ((HB.out.alloc HB.out.size _).trans (hb.mono (by have := HB.out.size; simp; omega))); have HR2 := hide ((HR.out.bq.alloc _).below hb).rb; clear hb)
      go_roundw
      case rel => exact ⟨j + 1, by go_num, by omega, HB2, HR2⟩
      case measure => simp [intOf]; omega
end Go.Proofs.Ytnokfhkcfebimaa

/- Plain law: the chances of all sequences of n outcomes, by their numbers of failures. -/
namespace Go.Proofs.Ytnokfhkcfebimaa

def cntL (l : List Bool) : Nat := l.count true
theorem cntL_snoc (l : List Bool) (b : Bool) : cntL (l ++ [b]) = cntL l + if b then 1 else 0 := by
  unfold cntL
  rw [List.count_append]
  cases b <;> simp
theorem bit_hi {n y i : Nat} (hi : i < n) : (2 ^ n + y) / 2 ^ i % 2 = y / 2 ^ i % 2 := by
  obtain ⟨k, rfl⟩ : ∃ k, n = i + (k + 1) := ⟨n - i - 1, by omega⟩
  have hp : 0 < 2 ^ i := Nat.pow_pos (by omega)
  rw [Nat.pow_add, Nat.add_comm, Nat.add_mul_div_left _ _ hp, Nat.pow_succ]
  omega
theorem bitL_hi (n y : Nat) : bitL (2 ^ n + y) n = bitL y n := by
  unfold bitL
  apply List.map_congr_left
  intro i hi
  rw [bit_hi (by simpa using hi)]
theorem bitL_top {n y : Nat} (hy : y < 2 ^ n) : bitL (2 ^ n + y) (n + 1) = bitL y n ++ [true] := by
  rw [bitL_succ, bitL_hi]
  have hp : 0 < 2 ^ n := Nat.pow_pos (by omega)
  have : (2 ^ n + y) / 2 ^ n = 1 := by
    have := Nat.add_mul_div_left y 1 hp
    rw [Nat.mul_one, Nat.div_eq_of_lt hy] at this
    rw [Nat.add_comm]; omega
  rw [this]
  rfl
theorem bitL_low {n y : Nat} (hy : y < 2 ^ n) : bitL y (n + 1) = bitL y n ++ [false] := by
  rw [bitL_succ, Nat.div_eq_of_lt hy]
  rfl
/-- The chances of the sequences with the numbers below m whose number of failures counts. -/
def trm (r : Rat) (n : Nat) (f : Nat → Bool) (m : Nat) : List Rat := ((List.range m).filter fun x => f (cntL (bitL x n))).map fun x => sqL r (bitL x n)
theorem trm_succ (r : Rat) (n : Nat) (f : Nat → Bool) (m : Nat) : trm r n f (m + 1) = if f (cntL (bitL m n)) then trm r n f m ++ [sqL r (bitL m n)] else trm r n f m := by
  unfold trm
  rw [List.range_succ, List.filter_append, List.map_append]
  cases h : f (cntL (bitL m n)) <;> simp [h]
theorem sum_trm (r : Rat) (n : Nat) (f : Nat → Bool) (m : Nat) : sumQ (trm r n f (m + 1)) = sumQ (trm r n f m) + if f (cntL (bitL m n)) then sqL r (bitL m n) else 0 := by
  rw [trm_succ]
  split
  · exact sumQ_snoc _ _
  · grind
theorem sqL_snoc (r : Rat) (l : List Bool) (b : Bool) : sqL r (l ++ [b]) = sqL r l * (if b then r else 1 - r) := sqF_snoc r 1 l b
theorem trm_low (r : Rat) (n : Nat) (f : Nat → Bool) : ∀ m, m ≤ 2 ^ n → sumQ (trm r (n + 1) f m) = (1 - r) * sumQ (trm r n f m)
  | 0, _ => by show (0 : Rat) = (1 - r) * 0; grind
  | m + 1, h => by
    rw [sum_trm, sum_trm, trm_low r n f m (by omega), bitL_low (by omega), cntL_snoc, sqL_snoc]
    simp only [Bool.false_eq_true, if_false, Nat.add_zero]
    split <;> grind
theorem trm_high (r : Rat) (n : Nat) (f : Nat → Bool) : ∀ m, m ≤ 2 ^ n → sumQ (trm r (n + 1) f (2 ^ n + m)) = sumQ (trm r (n + 1) f (2 ^ n)) + r * sumQ (trm r n (fun i => f (i + 1)) m)
  | 0, _ => by show _ = _ + r * 0; rw [Nat.add_zero]; grind
  | m + 1, h => by
    rw [← Nat.add_assoc, sum_trm, sum_trm, trm_high r n f m (by omega), bitL_top (by omega), cntL_snoc, sqL_snoc]
    simp only [if_true]
    split <;> grind
theorem trm_tot (r : Rat) : ∀ (n : Nat) (f : Nat → Bool), sumQ (trm r n f (2 ^ n)) = tot r n f
  | 0, f => by
    rw [tot_zero, Nat.pow_zero, sum_trm]
    show (0 : Rat) + (if f 0 then (1 : Rat) else 0) = _
    grind
  | n + 1, f => by
    have h := trm_high r n f (2 ^ n) (Nat.le_refl _)
    rw [← Nat.two_mul, Nat.mul_comm, ← Nat.pow_succ, trm_low r n f _ (Nat.le_refl _), trm_tot r n f, trm_tot r n] at h
    rw [h, tot_step]
    grind
theorem trm_len (r : Rat) (n : Nat) (f : Nat → Bool) (m : Nat) : (trm r n f m).length ≤ m := by
  unfold trm
  rw [List.length_map]
  exact Nat.le_trans (List.length_filter_le _ _) (by simp)
theorem trm_mem {r : Rat} {n : Nat} {f : Nat → Bool} {m : Nat} {y : Rat} (h : y ∈ trm r n f m) : ∃ x, y = sqL r (bitL x n) := by
  unfold trm at h
  obtain ⟨x, -, rfl⟩ := List.mem_map.1 h
  exact ⟨x, rfl⟩
theorem sumQ_add (a : List Rat) : ∀ b : List Rat, sumQ (a ++ b) = sumQ a + sumQ b := by
  have g : ∀ (b : List Rat) (x : Rat), b.foldl (· + ·) x = x + b.foldl (· + ·) 0 := by
    intro b
    induction b with
    | nil => intro x; simp; grind
    | cons y b ih => intro x; simp only [List.foldl_cons]; rw [ih (x + y), ih (0 + y)]; grind
  intro b
  unfold sumQ
  rw [List.foldl_append, g]
theorem sumQ_nonneg {l : List Rat} (h : ∀ y ∈ l, 0 ≤ y) : 0 ≤ sumQ l := by
  induction l with
  | nil => exact Rat.le_refl
  | cons y l ih =>
    have := sumQ_add [y] l
    rw [List.singleton_append] at this
    rw [this]
    have e : sumQ [y] = y := by show (0 : Rat) + y = y; grind
    rw [e]
    exact Rat.add_nonneg (h y (by simp)) (ih (fun z hz => h z (by simp [hz])))
theorem sumQ_sc {d n : Nat} {l : List Rat} (h : ∀ y ∈ l, Sc d n y) : Sc d n (sumQ l) := by
  induction l with
  | nil => exact (Sc.nat d 0).le (Nat.zero_le n)
  | cons y l ih =>
    have := sumQ_add [y] l
    rw [List.singleton_append] at this
    rw [this]
    have e : sumQ [y] = y := by show (0 : Rat) + y = y; grind
    rw [e]
    exact (h y (by simp)).add (ih (fun z hz => h z (by simp [hz])))
theorem tot_le_one {r : Rat} (h : Chn r) (n : Nat) (f : Nat → Bool) : tot r n f ≤ 1 := sm_le_one h.h0 h.h1 n f (Nat.le_refl _)
theorem trm_fit {r : Rat} (h : Chn r) {n : Nat} (hn : n ≤ 32) (f : Nat → Bool) (j : Nat) : fitsR (sumQ ((trm r n f (2 ^ n)).take j)) = true := by
  have hel : ∀ y ∈ trm r n f (2 ^ n), Sc r.den n y ∧ 0 ≤ y := fun y hy => by
    obtain ⟨x, rfl⟩ := trm_mem hy
    have h1 := sqF_ok h (bitL x n) 1 0 (by simpa using Sc.nat r.den 1) (by decide) Rat.le_refl
    rw [bitL_len, Nat.zero_add] at h1
    exact ⟨h1.1, h1.2.1⟩
  have hs := sumQ_add ((trm r n f (2 ^ n)).take j) ((trm r n f (2 ^ n)).drop j)
  rw [List.take_append_drop, trm_tot] at hs
  have hd := sumQ_nonneg (l := (trm r n f (2 ^ n)).drop j) (fun y hy => (hel y (List.mem_of_mem_drop hy)).2)
  have ht := tot_le_one h n f
  refine h.fit (sumQ_sc (fun y hy => (hel y (List.mem_of_mem_take hy)).1)) (by omega) (Rat.le_trans ?_ one32)
  grind
/-- How many there are. -/
theorem trm_num (r : Rat) (n k : Nat) : ((trm r n (fun i => decide (i = k)) (2 ^ n)).length) = ch n k := by
  have low : ∀ (n : Nat) (f : Nat → Bool) (m : Nat), m ≤ 2 ^ n → (trm r (n + 1) f m).length = (trm r n f m).length := by
    intro n f m
    induction m with
    | zero => intro _; rfl
    | succ m ih =>
      intro h
      rw [trm_succ, trm_succ, bitL_low (by omega), cntL_snoc]
      simp only [Bool.false_eq_true, if_false, Nat.add_zero]
      split <;> simp [ih (by omega)]
  have high : ∀ (n : Nat) (f : Nat → Bool) (m : Nat), m ≤ 2 ^ n → (trm r (n + 1) f (2 ^ n + m)).length = (trm r (n + 1) f (2 ^ n)).length + (trm r n (fun i => f (i + 1)) m).length := by
    intro n f m
    induction m with
    | zero => intro _; rfl
    | succ m ih =>
      intro h
      rw [← Nat.add_assoc, trm_succ, trm_succ, bitL_top (by omega), cntL_snoc]
      simp only [if_true]
      split <;> simp [ih (by omega)] <;> omega
  have all : ∀ (n : Nat) (f : Nat → Bool), (trm r (n + 1) f (2 ^ (n + 1))).length = (trm r n f (2 ^ n)).length + (trm r n (fun i => f (i + 1)) (2 ^ n)).length := by
    intro n f
    have h := high n f (2 ^ n) (Nat.le_refl _)
    rwa [← Nat.two_mul, Nat.mul_comm, ← Nat.pow_succ, low n f _ (Nat.le_refl _)] at h
  have none : ∀ (n : Nat), (trm r n (fun _ => false) (2 ^ n)).length = 0 := by
    intro n
    unfold trm
    simp
  induction n generalizing k with
  | zero =>
    cases k with
    | zero => rfl
    | succ k => rfl
  | succ n ih =>
    rw [all, ih]
    cases k with
    | zero =>
      have : (fun i : Nat => decide (i + 1 = 0)) = fun _ => false := by funext i; simp
      rw [this, none, ch_zero, ch_zero]
    | succ k =>
      have : (fun i : Nat => decide (i + 1 = k + 1)) = fun i => decide (i = k) := by funext i; simp
      rw [this, ih]
      show _ = ch n k + ch n (k + 1)
      omega
end Go.Proofs.Ytnokfhkcfebimaa

/- Plain law of RerunBounds: the sums over all sequences of further runs. -/
namespace Go.Proofs.Ytnokfhkcfebimaa
open Go.RowKit

/-- The sum over the numbers below m. -/
def sumX (F : Nat → Rat) : Nat → Rat
  | 0 => 0
  | m + 1 => sumX F m + F m
theorem sumX_two (F : Nat → Rat) : ∀ m, sumX F (2 * m) = sumX (fun y => F (2 * y) + F (2 * y + 1)) m
  | 0 => rfl
  | m + 1 => by
    rw [show 2 * (m + 1) = 2 * m + 1 + 1 by omega]
    show sumX F (2 * m) + F (2 * m) + F (2 * m + 1) = sumX _ m + (F (2 * m) + F (2 * m + 1))
    rw [sumX_two F m]; grind
theorem sumX_congr {F G : Nat → Rat} (h : ∀ x, F x = G x) (m : Nat) : sumX F m = sumX G m := by
  rw [show F = G from funext h]
theorem sumX_add (F G : Nat → Rat) : ∀ m, sumX (fun x => F x + G x) m = sumX F m + sumX G m
  | 0 => by show (0 : Rat) = 0 + 0; grind
  | m + 1 => by
    show sumX _ m + (F m + G m) = (sumX F m + F m) + (sumX G m + G m)
    rw [sumX_add F G m]; grind
theorem sumX_mul (c : Rat) (F : Nat → Rat) : ∀ m, sumX (fun x => c * F x) m = c * sumX F m
  | 0 => by show (0 : Rat) = c * 0; grind
  | m + 1 => by
    show sumX _ m + c * F m = c * (sumX F m + F m)
    rw [sumX_mul c F m]; grind
theorem sumX_zero : ∀ m, sumX (fun _ => 0) m = 0
  | 0 => rfl
  | m + 1 => by show sumX _ m + 0 = 0; rw [sumX_zero m]; grind
theorem sumX_mono {F G : Nat → Rat} (h : ∀ x, F x ≤ G x) : ∀ m, sumX F m ≤ sumX G m
  | 0 => Rat.le_refl
  | m + 1 => by
    have h1 := sumX_mono h m
    have h2 := h m
    show sumX F m + F m ≤ sumX G m + G m
    grind
theorem sumX_part {F : Nat → Rat} (h : ∀ x, 0 ≤ F x) (m : Nat) : ∀ k, sumX F m ≤ sumX F (m + k)
  | 0 => Rat.le_refl
  | k + 1 => by
    have h1 := sumX_part h m k
    have h2 := h (m + k)
    show sumX F m ≤ sumX F (m + k) + F (m + k)
    grind
theorem bitL_cons (x n : Nat) : bitL x (n + 1) = decide (x % 2 = 1) :: bitL (x / 2) n := by
  unfold bitL
  rw [List.range_succ_eq_map, List.map_cons, List.map_map]
  congr 1
  · simp
  · apply List.map_congr_left
    intro i _
    show decide (x / 2 ^ (i + 1) % 2 = 1) = decide (x / 2 / 2 ^ i % 2 = 1)
    rw [Nat.div_div_eq_div_mul, Nat.pow_succ, Nat.mul_comm]
/-- The sum over all sequences of n outcomes. -/
def sumB (F : List Bool → Rat) (n : Nat) : Rat := sumX (fun x => F (bitL x n)) (2 ^ n)
theorem sumB_succ (F : List Bool → Rat) (n : Nat) : sumB F (n + 1) = sumB (fun l => F (false :: l)) n + sumB (fun l => F (true :: l)) n := by
  unfold sumB
  rw [Nat.pow_succ, Nat.mul_comm, sumX_two, ← sumX_add]
  refine sumX_congr (fun y => ?_) _
  rw [bitL_cons, bitL_cons, show 2 * y % 2 = 0 by omega, show 2 * y / 2 = y by omega, show (2 * y + 1) % 2 = 1 by omega, show (2 * y + 1) / 2 = y by omega]
  rfl
theorem sumB_mul (c : Rat) (F : List Bool → Rat) (n : Nat) : sumB (fun l => c * F l) n = c * sumB F n := sumX_mul c _ _
theorem sumB_zero (n : Nat) : sumB (fun _ => 0) n = 0 := sumX_zero _
theorem sqF_mul (r : Rat) : ∀ (l : List Bool) (c a : Rat), sqF r (c * a) l = c * sqF r a l
  | [], _, _ => rfl
  | b :: l, c, a => by
    show sqF r (c * a * _) l = c * sqF r (a * _) l
    rw [Rat.mul_assoc, sqF_mul r l]
theorem sqL_cons (r : Rat) (b : Bool) (l : List Bool) : sqL r (b :: l) = (if b then r else 1 - r) * sqL r l := by
  show sqF r (1 * _) l = _ * sqF r 1 l
  rw [Rat.one_mul, ← sqF_mul, Rat.mul_one]
theorem sumB_sq (r : Rat) : ∀ n, sumB (sqL r) n = 1
  | 0 => by show (0 : Rat) + 1 = 1; grind
  | n + 1 => by
    rw [sumB_succ]
    have e1 : (fun l => sqL r (false :: l)) = fun l => (1 - r) * sqL r l := funext fun l => sqL_cons r false l
    have e2 : (fun l => sqL r (true :: l)) = fun l => r * sqL r l := funext fun l => sqL_cons r true l
    rw [e1, e2, sumB_mul, sumB_mul, sumB_sq r n]
    grind
theorem aft_dec {d : Nat → Nat → Int} {M p f : Nat} (h : aftQ d M p f = 0) : d p f ≠ 2 ∧ d p f ≠ 1 := by
  unfold aftQ at h
  split at h
  · simp at h
  · split at h
    · simp at h
    · exact ⟨by assumption, by assumption⟩
/-- Random attempts. -/
def rndL (l : List Bool) : List (Bool × Bool) := l.map fun b => (b, true)
/-- The chance of a sequence with this verdict. -/
def vw (G : Nat → Nat → Int) (v : Int) (r : Rat) (k p f : Nat) (l : List Bool) : Rat := if (judL G true (rndL l) k p f).1 = v then sqL r l else 0
theorem judL_true (g : Nat → Nat → Int) (b : Bool) (t : List (Bool × Bool)) (k p f : Nat) : judL g true ((b, true) :: t) k p f = if g (if b then p else p + 1) (if b then f + 1 else f) = 0 then judL g true t (k + 1) (if b then p else p + 1) (if b then f + 1 else f) else (g (if b then p else p + 1) (if b then f + 1 else f), k + 1) := by
  rw [judL, if_neg (by simp), if_neg (by simp)]
theorem vw_cons (G : Nat → Nat → Int) (v : Int) (r : Rat) (k p f : Nat) (b : Bool) (l : List Bool) : vw G v r k p f (b :: l) = (if b then r else 1 - r) * (if G (if b then p else p + 1) (if b then f + 1 else f) = 0 then vw G v r (k + 1) (if b then p else p + 1) (if b then f + 1 else f) l else if G (if b then p else p + 1) (if b then f + 1 else f) = v then sqL r l else 0) := by
  unfold vw
  rw [sqL_cons, show rndL (b :: l) = (b, true) :: rndL l from rfl, judL_true]
  generalize (if b = true then p else p + 1) = p'
  generalize (if b = true then f + 1 else f) = f'
  generalize (if b = true then r else 1 - r) = c
  by_cases h : G p' f' = 0
  · rw [if_pos h, if_pos h]
    split
    · rfl
    · rw [Rat.mul_zero]
  · rw [if_neg h, if_neg h]
    dsimp only
    split
    · rfl
    · rw [Rat.mul_zero]
theorem vw_sum {d : Nat → Nat → Int} (hd : ∀ p f, d p f = 0 ∨ d p f = 1 ∨ d p f = 2) {M : Nat} {r : Rat} {v : Int} {g : Int → Nat → Rat} (h0 : v ≠ 0) (h3 : v ≠ 3) (g2 : ∀ n, g 2 n = if (1 : Int) = v then 1 else 0) (g1 : ∀ n, g 1 n = if (2 : Int) = v then 1 else 0) (g0 : ∀ n, g 0 n = 0) :
    ∀ n k p f, d p f = 0 → p + f + n = M → sumB (vw (aftQ d M) v r k p f) n = val d r g n p f
  | 0, k, p, f, hpf, _ => by
    rw [val_zero, hpf, g0]
    show (0 : Rat) + (if (0 : Int) = v then _ else 0) = 0
    rw [if_neg (fun e => h0 e.symm)]; grind
  | n + 1, k, p, f, hpf, hM => by
    have step : ∀ p' f', p' + f' + n = M → sumB (fun l => if aftQ d M p' f' = 0 then vw (aftQ d M) v r (k + 1) p' f' l else if aftQ d M p' f' = v then sqL r l else 0) n = val d r g n p' f' := by
      intro p' f' hM'
      by_cases h : aftQ d M p' f' = 0
      · simp only [if_pos h]
        have h9 := aft_dec h
        exact vw_sum hd h0 h3 g2 g1 g0 n (k + 1) p' f' (by rcases hd p' f' with h8 | h8 | h8; exact h8; exact absurd h8 h9.2; exact absurd h8 h9.1) hM'
      · simp only [if_neg h]
        rcases hd p' f' with h8 | h8 | h8
        · have e : aftQ d M p' f' = 3 := by
            unfold aftQ at h ⊢
            rw [h8] at h ⊢
            simp only [show ¬ ((0 : Int) = 2) by decide, show ¬ ((0 : Int) = 1) by decide, if_false] at h ⊢
            split
            · rfl
            · rename_i h7; rw [if_neg h7] at h; exact absurd rfl h
          have hn : n = 0 := by
            unfold aftQ at e
            rw [h8] at e
            simp only [show ¬ ((0 : Int) = 2) by decide, show ¬ ((0 : Int) = 1) by decide, if_false] at e
            split at e
            · omega
            · simp at e
          subst hn
          rw [e, val_zero, h8, g0]
          simp only [if_neg (fun e => h3 (Eq.symm e) : ¬ (3 : Int) = v)]
          exact sumB_zero 0
        · have e : aftQ d M p' f' = 2 := by unfold aftQ; rw [h8]; rfl
          rw [e, val_dec (by rw [h8]; decide), h8, g1]
          by_cases hv : (2 : Int) = v
          · simp only [if_pos hv]; exact sumB_sq r n
          · simp only [if_neg hv]; exact sumB_zero n
        · have e : aftQ d M p' f' = 1 := by unfold aftQ; rw [h8]; rfl
          rw [e, val_dec (by rw [h8]; decide), h8, g2]
          by_cases hv : (1 : Int) = v
          · simp only [if_pos hv]; exact sumB_sq r n
          · simp only [if_neg hv]; exact sumB_zero n
    rw [sumB_succ, val_open hpf]
    have e1 : (fun l => vw (aftQ d M) v r k p f (false :: l)) = fun l => (1 - r) * (if aftQ d M (p + 1) f = 0 then vw (aftQ d M) v r (k + 1) (p + 1) f l else if aftQ d M (p + 1) f = v then sqL r l else 0) := funext fun l => vw_cons _ v r k p f false l
    have e2 : (fun l => vw (aftQ d M) v r k p f (true :: l)) = fun l => r * (if aftQ d M p (f + 1) = 0 then vw (aftQ d M) v r (k + 1) p (f + 1) l else if aftQ d M p (f + 1) = v then sqL r l else 0) := funext fun l => vw_cons _ v r k p f true l
    rw [e1, e2, sumB_mul, sumB_mul, step (p + 1) f (by omega), step p (f + 1) (by omega)]
    grind
/-- The sum up to some number. -/
def vsum (G : Nat → Nat → Int) (v : Int) (r : Rat) (M : Nat) (x : Nat) : Rat := sumX (fun y => vw G v r 1 0 0 (bitL y M)) x
theorem vsum_succ (G : Nat → Nat → Int) (v : Int) (r : Rat) (M x : Nat) : vsum G v r M (x + 1) = vsum G v r M x + if (jud G ((true, true) :: rndL (bitL x M))).1 = v then sqL r (bitL x M) else 0 := rfl
theorem vsum_fl {l h a b : Rat} {M : Nat} {r : Rat} (h0 : decQ l h a b 0 0 = 0) : vsum (aftQ (decQ l h a b) M) 1 r M (2 ^ M) = val (decQ l h a b) r gF M 0 0 :=
  vw_sum (fun p f => decQ_range l h a b p f) (by decide) (by decide) (fun _ => rfl) (fun _ => rfl) (fun _ => rfl) M 1 0 0 h0 (by omega)
theorem vsum_st {l h a b : Rat} {M : Nat} {r : Rat} (h0 : decQ l h a b 0 0 = 0) : vsum (aftQ (decQ l h a b) M) 2 r M (2 ^ M) = val (decQ l h a b) r gS M 0 0 :=
  vw_sum (fun p f => decQ_range l h a b p f) (by decide) (by decide) (fun _ => rfl) (fun _ => rfl) (fun _ => rfl) M 1 0 0 h0 (by omega)
theorem sqL_ok {r : Rat} (h : Chn r) (x n : Nat) : Sc r.den n (sqL r (bitL x n)) ∧ 0 ≤ sqL r (bitL x n) := by
  have h1 := sqF_ok h (bitL x n) 1 0 (by simpa using Sc.nat r.den 1) (by decide) Rat.le_refl
  rw [bitL_len, Nat.zero_add] at h1
  exact ⟨h1.1, h1.2.1⟩
theorem vsum_fit {G : Nat → Nat → Int} {v : Int} {r : Rat} (h : Chn r) {M x : Nat} (hM : M ≤ 32) (hx : x ≤ 2 ^ M) : fitsR (vsum G v r M x) = true := by
  have hnn : ∀ y, 0 ≤ vw G v r 1 0 0 (bitL y M) := fun y => by
    unfold vw
    split
    · exact (sqL_ok h y M).2
    · exact Rat.le_refl
  have hle : ∀ y, vw G v r 1 0 0 (bitL y M) ≤ sqL r (bitL y M) := fun y => by
    unfold vw
    split
    · exact Rat.le_refl
    · exact (sqL_ok h y M).2
  have hsc : ∀ m, Sc r.den M (vsum G v r M m) := fun m => by
    induction m with
    | zero => exact (Sc.nat r.den 0).le (Nat.zero_le M)
    | succ m ih =>
      refine ih.add ?_
      show Sc r.den M (vw G v r 1 0 0 (bitL m M))
      unfold vw
      split
      · exact (sqL_ok h m M).1
      · exact (Sc.nat r.den 0).le (Nat.zero_le M)
  refine h.fit (hsc x) (by omega) (Rat.le_trans ?_ one32)
  have h1 := sumX_part hnn x (2 ^ M - x)
  rw [show x + (2 ^ M - x) = 2 ^ M by omega] at h1
  have h2 := sumX_mono hle (2 ^ M)
  have h3 : sumX (fun y => sqL r (bitL y M)) (2 ^ M) = 1 := sumB_sq r M
  rw [h3] at h2
  exact Rat.le_trans h1 h2
end Go.Proofs.Ytnokfhkcfebimaa

/- Contract: SameFrac of two fractions that differ. -/
namespace Go.Proofs.Ytnokfhkcfebimaa
open Go.RowKit

theorem take_succ_same {l l' : List Nat} {k x : Nat} (h : l.take k = l'.take k) (h1 : l[k]? = some x) (h2 : l'[k]? = some x) : l.take (k + 1) = l'.take (k + 1) := by
  rw [List.take_add_one, List.take_add_one, h, h1, h2]
set_option maxRecDepth 100000 in
set_option maxHeartbeats 4000000 in
theorem samenat_no (w : World) (A B : Option Addr) (n m c d : Nat) (l l' : List Nat) (hA : Ul w none A n l) (hB : Ul w none B m l') (hn : n ≤ 4294967296) (hm : m ≤ 4294967296) (hne : l ≠ l') :
    Calls Try.prog 71 #[.slice A n c, .slice B m d] w fun e w' => e = .returned (.bool false) ∧ Below w.heap.size w w' := by
  have HA := hide hA
  have HB := hide hB
  have HNE := hide hne
  clear hA hB hne
  by_cases hnm : n = m
  · subst hnm
    go_enter Try.func71, Try.ntmps71
    go_wp2_with fail
    go_loopw [5] (fun x wr => ∃ k m : Nat, k ≤ n ∧ x = .int .i64 k ∧ wr = w.drewN m ∧ Hid (l.take k = l'.take k)) (fun x _ => n - (intOf x).toNat)
    case atStart => exact ⟨0, 0, by omega, rfl, rfl, hide rfl⟩
    case round =>
      obtain ⟨k, m, hk, rfl, rfl, HT⟩ := hrel
      by_cases hlt : k < n
      · obtain ⟨b, o, x, rfl, hb, hx, hc⟩ := ul_at HA.out hlt
        obtain ⟨b2, o2, x2, rfl, hb2, hx2, hc2⟩ := ul_at HB.out hlt
        have hi1 : (0 : Int) ≤ (k : Int) := by omega
        have hi2 : (k : Int) < (n : Int) := by omega
        by_cases hxx : x = x2
        · subst hxx
          have HT2 := hide (take_succ_same HT.out hx hx2)
          clear hx hx2
          go_wp2_with fail
          go_region_held3 (fun W => W.cell? ⟨b, o + k, none⟩ = some (.int .u32 (x : Int)) ∧ W.cell? ⟨b2, o2 + k, none⟩ = some (.int .u32 (x : Int))) (first | (go_keep; done) | ((try dsimp only); (repeat' apply And.intro) <;> first | (go_keep; done) | ((repeat rw [World.cell?_setCell_other _ _ _ _ (by intro h; injection h; omega)]); go_keep; done))) (fail)
          go_wp2_with fail
          go_roundw
          case rel => exact ⟨k + 1, m + 1, by omega, by go_num, rfl, HT2⟩
          case measure => simp [intOf]; omega
        · have z1 : ((x : Int) != (x2 : Int)) = true := by simp; omega
          have z2 : ¬ (x : Int) = (x2 : Int) := by omega
          clear hx hx2 hxx
          go_wp2_with fail
          go_region_held3 (fun W => W.cell? ⟨b, o + k, none⟩ = some (.int .u32 (x : Int)) ∧ W.cell? ⟨b2, o2 + k, none⟩ = some (.int .u32 (x2 : Int))) (first | (go_keep; done) | ((try dsimp only); (repeat' apply And.intro) <;> first | (go_keep; done) | ((repeat rw [World.cell?_setCell_other _ _ _ _ (by intro h; injection h; omega)]); go_keep; done))) (fail)
          go_wp2_with fail
          go_ret
          exact ⟨rfl, Dr.below ⟨m + 1, rfl⟩⟩
      · exfalso
        have h1 := HT.out
        rw [List.take_of_length_le (by have := HA.out.len; omega), List.take_of_length_le (by have := HB.out.len; omega)] at h1
        exact HNE.out h1
  · have z1 : ((n : Int) != (m : Int)) = true := by simp; omega
    have z2 : ¬ (n : Int) = (m : Int) := by omega
    clear hnm
    go_enter Try.func71, Try.ntmps71
    go_wp2_with fail
    go_ret
    exact ⟨rfl, Below.refl _ _⟩
theorem rat_parts {r s : Rat} (h0 : 0 ≤ r) (h1 : 0 ≤ s) (hn : rn r = rn s) (hd : r.den = s.den) : r = s := by
  refine Rat.ext ?_ hd
  have e1 := Rat.num_nonneg.2 h0
  have e2 := Rat.num_nonneg.2 h1
  unfold rn at hn
  omega
set_option maxRecDepth 100000 in
set_option maxHeartbeats 4000000 in
theorem samefrac_no (w : World) (a b : Fa) (r s : Rat) (ha : Fo w a (some r)) (hb : Fo w b (some s)) (hne : r ≠ s) :
    Calls Try.prog 28 #[.agg #[.slice a.A a.n a.c, .slice a.B a.m a.d], .agg #[.slice b.A b.n b.c, .slice b.B b.m b.d]] w fun e w' => e = .returned (.bool false) ∧ Below w.heap.size w w' := by
  have hn := ha.small.1
  have hm := ha.small.2
  have hn2 := hb.small.1
  have hm2 := hb.small.2
  have HNE := hide (show ¬ (numL (some r) = numL (some s) ∧ denL (some r) = denL (some s)) from fun ⟨h1, h2⟩ => by
    have e1 := fracOf_self ha.2
    have e2 := fracOf_self hb.2
    rw [h1, h2, e2] at e1
    injection e1 with e1
    exact hne e1.symm)
  clear hne
  go_enter Try.func28, Try.ntmps28
  go_upto_region 1 with (fail)
  generalize hW : World.alloc (World.alloc w _) _ = v
  have HF := hide (show F2 w v a b by rw [← hW]; exact F2.mk0 a b _ _)
  have HA := hide (show Fq v a (numL (some r)) (denL (some r)) by rw [← hW]; exact (ha.1.alloc _).alloc _)
  have HB := hide (show Fq v b (numL (some s)) (denL (some s)) by rw [← hW]; exact (hb.1.alloc _).alloc _)
  clear hW ha hb
  obtain ⟨-, c0, c1, d0, d1, sz⟩ := HF.out
  by_cases hnum : numL (some r) = numL (some s)
  · have hden : denL (some r) ≠ denL (some s) := fun h => HNE.out ⟨hnum, h⟩
    have HD := hide hden
    have HE1 := hide (HA.out.u.len.symm.trans ((congrArg List.length hnum).trans HB.out.u.len))
    have HB' := hide (show Ul v none b.A b.n (numL (some r)) by rw [hnum]; exact HB.out.u)
    clear hnum hden
    go_wp2_with (first
      | (go_at_call 71; (with_reducible refine (samenat_eq2 _ a.A b.A a.n b.n a.c b.c HE1.out _ HA.out.u HB'.out (by omega)).mono ?_); rintro e w1 ⟨rfl, hb⟩; have HF1 := hide (HF.out.below hb); have HA1 := hide (HA.out.below hb); have HB1 := hide (HB.out.below hb); obtain ⟨-, g0, g1, h0, h1, gz⟩ := HF1.out; clear hb)
      | (go_at_call 71; (with_reducible refine (samenat_no _ a.B b.B a.m b.m a.d b.d _ _ HA1.out.v HB1.out.v (by omega) (by omega) HD.out).mono ?_); rintro e w2 ⟨rfl, hb⟩; have HF2 := hide (HF1.out.below hb); clear hb))
    go_ret
    exact ⟨rfl, HF2.out.bw⟩
  · have HD := hide hnum
    clear hnum
    go_wp2_with (go_at_call 71; (with_reducible refine (samenat_no _ a.A b.A a.n b.n a.c b.c _ _ HA.out.u HB.out.u (by omega) (by omega) HD.out).mono ?_); rintro e w1 ⟨rfl, hb⟩; have HF1 := hide (HF.out.below hb); clear hb)
    go_ret
    exact ⟨rfl, HF1.out.bw⟩
theorem samefrac_dec (w : World) (a b : Fa) (r s : Rat) (ha : Fo w a (some r)) (hb : Fo w b (some s)) :
    Calls Try.prog 28 #[.agg #[.slice a.A a.n a.c, .slice a.B a.m a.d], .agg #[.slice b.A b.n b.c, .slice b.B b.m b.d]] w fun e w' => e = .returned (.bool (decide (r = s))) ∧ Below w.heap.size w w' := by
  by_cases h : r = s
  · subst h
    rw [decide_eq_true rfl]
    exact samefrac_eq w a b (some r) ha hb
  · rw [decide_eq_false h]
    exact samefrac_no w a b r s ha hb h
end Go.Proofs.Ytnokfhkcfebimaa

/- The walk of the law SequentialAlpha. -/
namespace Go.Proofs.Ytnokfhkcfebimaa
open Go.RowKit

theorem ratQ00 (l h : Rat) : ratQ l h 0 0 = 1 := by
  unfold ratQ
  rw [Rat.pow_zero, Rat.pow_zero]
  decide +kernel
theorem alpha_le {l h a b : Rat} (hl : Inn l) (hh : Inn h) (ha : Inn a) (M : Nat) : val (decQ l h a b) l gF M 0 0 ≤ a := by
  have := val_alpha (b := b) hl hh ha M 0 0
  rwa [ratQ00, Rat.mul_one] at this
theorem beta_le {l h a b : Rat} (hl : Inn l) (hb : Inn b) (M : Nat) : val (decQ l h a b) h gS M 0 0 ≤ b := by
  have := val_beta (h := h) (a := a) hl hb M 0 0
  rwa [ratQ00, Rat.mul_one] at this
/-- A box with odds. -/
structure OdB (v : World) (g : Nat) (f0 f2 f4 : Fa) (r0 r2 r4 : Rat) : Prop where
  cb : Cb v g [.slice f0.A f0.n f0.c, .slice f0.B f0.m f0.d, .slice f2.A f2.n f2.c, .slice f2.B f2.m f2.d, .slice f4.A f4.n f4.c, .slice f4.B f4.m f4.d]
  o0 : Fo v f0 (some r0)
  o2 : Fo v f2 (some r2)
  o4 : Fo v f4 (some r4)
theorem OdB.below {v v' : World} {g : Nat} {f0 f2 f4 : Fa} {r0 r2 r4 : Rat} (h : OdB v g f0 f2 f4 r0 r2 r4) (hb : Below v.heap.size v v') : OdB v' g f0 f2 f4 r0 r2 r4 := ⟨h.cb.below hb, h.o0.below hb, h.o2.below hb, h.o4.below hb⟩
theorem OdB.mk0 {w : World} {f0 f2 f4 : Fa} {r0 r2 r4 : Rat} (h0 : Fo w f0 (some r0)) (h2 : Fo w f2 (some r2)) (h4 : Fo w f4 (some r4)) (t : TypeId) : OdB (w.alloc (.cells #[.slice f0.A f0.n f0.c, .slice f0.B f0.m f0.d, .slice f2.A f2.n f2.c, .slice f2.B f2.m f2.d, .slice f4.A f4.n f4.c, .slice f4.B f4.m f4.d] t)) w.heap.size f0 f2 f4 r0 r2 r4 :=
  ⟨Cb.mk0 _ (by simp) _ rfl, h0.alloc _, h2.alloc _, h4.alloc _⟩
theorem OdB.ca {v : World} {g : Nat} {f0 f2 f4 : Fa} {r0 r2 r4 : Rat} (h : OdB v g f0 f2 f4 r0 r2 r4) : v.cell? ⟨g, 0, none⟩ = some (.slice f0.A f0.n f0.c) ∧ v.cell? ⟨g, 1, none⟩ = some (.slice f0.B f0.m f0.d) ∧ v.cell? ⟨g, 2, none⟩ = some (.slice f2.A f2.n f2.c) ∧ v.cell? ⟨g, 3, none⟩ = some (.slice f2.B f2.m f2.d) ∧ v.cell? ⟨g, 4, none⟩ = some (.slice f4.A f4.n f4.c) ∧ v.cell? ⟨g, 5, none⟩ = some (.slice f4.B f4.m f4.d) ∧ g < v.heap.size :=
  ⟨h.cb.cell 0 _ rfl, h.cb.cell 1 _ rfl, h.cb.cell 2 _ rfl, h.cb.cell 3 _ rfl, h.cb.cell 4 _ rfl, h.cb.cell 5 _ rfl, h.cb.sz⟩
set_option maxRecDepth 100000 in
set_option maxHeartbeats 16000000 in
theorem alpha_walk (w : World) (A : Option Addr) (n c : Nat) (l : List Int) (hA : Rs w none 1 iv A l) (hl : l.length = n) :
    Calls Try.prog 8 #[.slice A n c] w fun e w' => e = .returned (.bool true) ∧ Below w.heap.size w w' := by
  have HP := hide (tp_new (w := w) (c := c) hA hl 32)
  clear hA hl
  go_enter Try.func8, Try.ntmps8
  go_upto_region 2 with (go_at_call 19; refine (yspec_any _ w.heap.size A n c l 0 16 HP.out (by omega) (by omega) (by omega)).mono ?_; rintro e w1 ⟨s, lo, hi, al, be, M, b, rfl, hq, hk, hM, -, -, hf⟩; have HB1 := hide (fr_new rfl hf); have HQ1 := hide hq; have HK := hide hk; clear hq hk hf)
  generalize hW : World.alloc w1 _ = v
  have HF := hide (show FS w v w1.heap.size s by rw [← hW]; exact ⟨HB1.out.trans (((Below.refl _ _).alloc (Nat.le_refl _) _ : Below w1.heap.size w1 _).mono HB1.out.size), (FS.mk0 HQ1.out _).cb, HQ1.out.alloc _⟩)
  obtain ⟨g, hg⟩ : ∃ g, g = w1.heap.size := ⟨_, rfl⟩
  rw [← hg] at HF ⊢
  obtain ⟨a0, a1, a2, a3, a4, a5, a6, a7, a8, a9⟩ := HF.out.ca
  clear hW hg
  go_upto_region 3 with (go_at_call 36; (with_reducible refine (serrors_ok _ s lo hi al be M s.l lo HF.out.q HK.out (fo_of HF.out.q.l HK.out.fl) HK.out.il.c).mono ?_); rintro e w2 ⟨x0, x2, x4, rfl, h0, h2, h4, hb⟩; have HO2 := hide (And.intro h0 (And.intro h2 h4)); have HF2 := hide (HF.out.below hb); clear h0 h2 h4 hb)
  generalize hW : World.alloc w2 _ = v2
  have HF3 := hide (show FS w v2 g s by rw [← hW]; exact HF2.out.alloc _)
  have HX3 := hide (show OdB v2 w2.heap.size x0 x2 x4 _ _ _ by rw [← hW]; exact OdB.mk0 HO2.out.1 HO2.out.2.1 HO2.out.2.2 _)
  obtain ⟨g2, hg2⟩ : ∃ g, g = w2.heap.size := ⟨_, rfl⟩
  rw [← hg2] at HX3 ⊢
  obtain ⟨b0, b1, b2, b3, b4, b5, b6, b7, b8, b9⟩ := HF3.out.ca
  clear hW hg2 a0 a1 a2 a3 a4 a5 a6 a7 a8 a9
  go_upto_region 4 with (go_at_call 36; (with_reducible refine (serrors_ok _ s lo hi al be M s.h hi HF3.out.q HK.out (fo_of HF3.out.q.h HK.out.fh) HK.out.ih.c).mono ?_); rintro e w3 ⟨y0, y2, y4, rfl, h0, h2, h4, hb⟩; have HO3 := hide (And.intro h0 (And.intro h2 h4)); have HF4 := hide (HF3.out.below hb); have HX4 := hide (HX3.out.below hb); clear h0 h2 h4 hb)
  generalize hW : World.alloc w3 _ = v3
  have HF5 := hide (show FS w v3 g s by rw [← hW]; exact HF4.out.alloc _)
  have HX5 := hide (show OdB v3 g2 x0 x2 x4 _ _ _ by rw [← hW]; exact HX4.out.below ((Below.refl _ _).alloc (Nat.le_refl _) _))
  have HY5 := hide (show OdB v3 w3.heap.size y0 y2 y4 _ _ _ by rw [← hW]; exact OdB.mk0 HO3.out.1 HO3.out.2.1 HO3.out.2.2 _)
  obtain ⟨g3, hg3⟩ : ∃ g, g = w3.heap.size := ⟨_, rfl⟩
  rw [← hg3] at HY5 ⊢
  obtain ⟨c0, c1, c2, c3, c4, c5, c6, c7, c8, c9⟩ := HF5.out.ca
  obtain ⟨k0, k1, k2, k3, k4, k5, k6⟩ := HX5.out.ca
  obtain ⟨m0, m1, m2, m3, m4, m5, m6⟩ := HY5.out.ca
  clear hW hg3 b0 b1 b2 b3 b4 b5 b6 b7 b8 b9
  go_wp2_with (first
    | (go_at_call 24; (with_reducible refine (yknown_any _).mono ?_); rintro e w9 ⟨rfl, hb⟩; have HB9 := hide (HF7.out.bw.trans (hb.mono HF7.out.bw.size)); clear hb)
    | (go_at_call 37; (with_reducible refine (fcmp_le _ y2 s.b _ be HY6.out.o2 (fo_of HF6.out.q.b HK.out.fb) (beta_le HK.out.il HK.out.ib M)).mono ?_); rintro e w7 ⟨z2, rfl, hz2, hb⟩; have HF7 := hide (HF6.out.below hb); have hzz2 : decide (z2 ≤ 0) = true := decide_eq_true hz2; clear hb)
    | (go_at_call 37; (with_reducible refine (fcmp_le _ x0 s.a _ al HX5.out.o0 (fo_of HF5.out.q.a HK.out.fa) (alpha_le HK.out.il HK.out.ih HK.out.ia M)).mono ?_); rintro e w6 ⟨z1, rfl, hz1, hb⟩; have HF6 := hide (HF5.out.below hb); have HY6 := hide (HY5.out.below hb); have hzz1 : decide (z1 ≤ 0) = true := decide_eq_true hz1; obtain ⟨n0, n1, n2, n3, n4, n5, n6⟩ := HY6.out.ca; obtain ⟨d0, d1, d2, d3, d4, d5, d6, d7, d8, d9⟩ := HF6.out.ca; clear hb))
  go_ret
  exact ⟨rfl, HB9.out⟩
end Go.Proofs.Ytnokfhkcfebimaa

/- Contract: rerun.Chances; rows of bools and of attempts beside each other. -/
namespace Go.Proofs.Ytnokfhkcfebimaa
open Go.RowKit

set_option maxRecDepth 100000 in
set_option maxHeartbeats 8000000 in
theorem vchances_ok (w : World) (s : Sv) (l h a b : Rat) (M : Nat) (fp : Fa) (x : Rat) (hq : SQ w s) (hk : OKs s l h a b M) (hp : Fo w fp (some x)) (hx : Chn x) :
    Calls Try.prog 49 #[.agg #[.slice s.l.A s.l.n s.l.c, .slice s.l.B s.l.m s.l.d, .slice s.h.A s.h.n s.h.c, .slice s.h.B s.h.m s.h.d, .slice s.a.A s.a.n s.a.c, .slice s.a.B s.a.m s.a.d, .slice s.b.A s.b.n s.b.c, .slice s.b.B s.b.m s.b.d, .int .i64 s.m], .agg #[.slice fp.A fp.n fp.c, .slice fp.B fp.m fp.d]] w fun e w' => ∃ f0 f2 : Fa, e = .returned (.tuple #[.agg #[.slice f0.A f0.n f0.c, .slice f0.B f0.m f0.d], .agg #[.slice f2.A f2.n f2.c, .slice f2.B f2.m f2.d], .int .i64 0]) ∧ Fo w' f0 (some (val (decQ l h a b) x gF M 0 0)) ∧ Fo w' f2 (some (val (decQ l h a b) x gS M 0 0)) ∧ Below w.heap.size w w' := by
  have HQ := hide hq
  have HP := hide hp
  have HK := hide hk
  have HX := hide hx
  clear hq hp hk hx
  go_enter Try.func49, Try.ntmps49
  go_upto_region 1 with (fail)
  generalize hW : World.alloc (World.alloc (World.alloc (World.alloc w _) _) _) _ = v
  have HF := hide (show FS w v w.heap.size s by rw [← hW]; exact (((FS.mk0 HQ.out _).alloc _).alloc _).alloc _)
  have HB := hide (show Bf v (w.heap.size + 1) fp x by rw [← hW]; exact ⟨(((Bq.mk0 (w := w.alloc _) _ fp (by simp)).alloc _).alloc _), (((HP.out.alloc _).alloc _).alloc _).alloc _⟩)
  have HC := hide (show Rb v (w.heap.size + 2) by rw [← hW]; exact (Rb.mk0 _ (by simp)).below ((Below.refl _ _).alloc (Nat.le_refl _) _))
  have HD := hide (show Rb v (w.heap.size + 3) by rw [← hW]; exact Rb.mk0 _ (by simp))
  obtain ⟨a0, a1, a2, a3, a4, a5, a6, a7, a8, a9⟩ := HF.out.ca
  have p0 := HB.out.b.c0
  have p1 := HB.out.b.c1
  have pz := HB.out.b.sz
  clear hW
  go_upto_region 2 with (go_at_call 36; (with_reducible refine (serrors_ok _ s l h a b M fp x HF.out.q HK.out HB.out.o HX.out).mono ?_); rintro e w2 ⟨x0, x2, x4, rfl, h0, h2, h4, hb⟩; have HO2 := hide (And.intro h0 (And.intro h2 h4)); have HF2 := hide (HF.out.below hb); have HC2 := hide (HC.out.below hb); have HD2 := hide (HD.out.below hb); clear h0 h2 h4 hb)
  generalize hW : World.alloc w2 _ = v2
  have HB3 := hide (show Below w.heap.size w v2 by rw [← hW]; exact HF2.out.bw.alloc HF2.out.bw.size _)
  have HX3 := hide (show OdB v2 w2.heap.size x0 x2 x4 _ _ _ by rw [← hW]; exact OdB.mk0 HO2.out.1 HO2.out.2.1 HO2.out.2.2 _)
  have HC3 := hide (show Rb v2 (w.heap.size + 2) by rw [← hW]; exact HC2.out.below ((Below.refl _ _).alloc (Nat.le_refl _) _))
  have HD3 := hide (show Rb v2 (w.heap.size + 3) by rw [← hW]; exact HD2.out.below ((Below.refl _ _).alloc (Nat.le_refl _) _))
  obtain ⟨g2, hg2⟩ : ∃ g, g = w2.heap.size := ⟨_, rfl⟩
  rw [← hg2] at HX3 ⊢
  obtain ⟨k0, k1, k2, k3, k4, k5, k6⟩ := HX3.out.ca
  obtain ⟨t0, t1, tf, tz, -⟩ := HC3.out
  obtain ⟨u0, u1, uf, uz, -⟩ := HD3.out
  clear hW hg2 a0 a1 a2 a3 a4 a5 a6 a7 a8 a9 p0 p1 pz
  go_upto_region 4 with (fail)
  go_region
  go_wp2_with fail
  generalize hW : World.setCell (World.setCell (World.setCell (World.setCell v2 _ _) _ _) _ _) _ _ = v5
  have HC5 := hide (show Bq v5 (w.heap.size + 2) x0 by rw [← hW]; refine Bq.one (HC3.out.bq.fill x0) (fr_fill (g := w.heap.size + 3) (.slice x2.A x2.n x2.c) (.slice x2.B x2.m x2.d)) ?_; omega)
  have HD5 := hide (show Bq v5 (w.heap.size + 3) x2 by rw [← hW]; exact Bq.fill (HD3.out.bq.one (fr_fill (w := v2) (g := w.heap.size + 2) (.slice x0.A x0.n x0.c) (.slice x0.B x0.m x0.d)) (by omega)) x2)
  have HO5 := hide (show Fo v5 x0 _ ∧ Fo v5 x2 _ by
    rw [← hW]
    have hd := HD3.out.bq.one (fr_fill (w := v2) (g := w.heap.size + 2) (.slice x0.A x0.n x0.c) (.slice x0.B x0.m x0.d)) (by omega)
    exact ⟨(HX3.out.o0.fill HC3.out.bq x0).fill hd x2, (HX3.out.o2.fill HC3.out.bq x0).fill hd x2⟩)
  have HB5 := hide (show Below w.heap.size w v5 by rw [← hW]; exact Rb.end0 (Rb.end0 HB3.out (by omega) _ _) (by omega) _ _)
  clear hW t0 t1 tf tz u0 u1 uf uz k0 k1 k2 k3 k4 k5 k6
  have c0 := HC5.out.c0
  have c1 := HC5.out.c1
  have d0 := HD5.out.c0
  have d1 := HD5.out.c1
  refine bodyPost_ret (v := .tuple #[.agg #[.slice x0.A x0.n x0.c, .slice x0.B x0.m x0.d], .agg #[.slice x2.A x2.n x2.c, .slice x2.B x2.m x2.d], .int .i64 0]) (by simp [results, Try.results49, go_sem, *]) rfl ⟨x0, x2, rfl, HO5.out.1.drew, HO5.out.2.drew, HB5.out.drew⟩

theorem OA.bw {w0 w : World} {A : Option Addr} {m c : Nat} {l : List (Bool × Bool)} (h : OA w0 w w0.heap.size A m c l) : Below w0.heap.size w0 w :=
  (h.fr.mono (T := fun _ => False) (fun k hk e => by omega)).below (Nat.le_refl _) (fun _ _ h => h)
theorem OBl.below {w0 w w' : World} {A : Option Addr} {m c : Nat} {l : List Bool} (h : OBl w0 w A m c l) (hb : Below w.heap.size w w') : OBl w0 w' A m c l := ⟨h.own.kept (grown_of_below hb none) (Classical.em _), h.len, h.fr.below_ hb⟩
theorem wl_app_boolF {w0 w : World} {ops : Array Oper} {rest : List Oper} {o : Oper} {a : Act} {Q : Exit → Act → World → Prop} (hgd : o.guard = none) (s x : Operand) (t : TypeId) (ht : Try.prog.underlying t = some (.slice 4))
    (ho : o.op = .call { callee := .builtin .append, args := #[s, x], argTypes := #[t, t] })
    (A : Option Addr) (m c : Nat) (l : List Bool) (X : Bool) (hs : a.eval s = .slice A m c) (hx : a.eval x = .slice (some ⟨w.heap.size, 0, none⟩) 1 1) (hO : OBl w0 w A m c l) (h63 : m + 1 ≤ 4294967296)
    (h : ∀ A' c' w', OBl w0 w' A' (m + 1) c' (l ++ [X]) → Fr (w.alloc (.cells #[.bool X] 4)) w' (fun b => (Value.slice A m c).ownBlock = some b) → wpList Try.prog ops Q rest (a.put o.dst (.slice A' (m + 1) c')) w') :
    wpList Try.prog ops Q (o :: rest) a (w.alloc (.cells #[.bool X] 4)) := by
  have hO1 : OBl w0 (w.alloc (.cells #[.bool X] 4)) A m c l := hO.below ((Below.refl _ _).alloc (Nat.le_refl _) _)
  refine wl_append _ hgd s x t ho w0.heap.size 4 _ 1 1 ht info4 rfl (by omega) (.slice A m c) m l hs hO1.own _ 1 1 [X] hx
    (rs_one (av := none) (by simp) (by simp) (by intro j u hu; match j with | 0 => simp [bv] at hu; subst hu; simp [go_sem] | j + 1 => simp [bv] at hu)) rfl bv_len bv_one h63 (by omega) hO1.fr.size ?_
  intro A' c' w' hown hgr _
  refine h A' c' w' ⟨hown, by simp [hO.len], hO1.fr.grown hgr ?_⟩ ⟨hgr.os, hgr.tape, hgr.output, hgr.size, fun k hk hS => hgr.block k hk (fun e => hS e.symm)⟩
  intro g hg
  left
  rcases hO1.own.2 with ⟨h1, _⟩ | ⟨g', cap, cur, hv, hb, _⟩
  · rw [h1] at hg; simp [Value.ownBlock] at hg
  · rw [hv] at hg
    simp [Value.ownBlock] at hg
    omega
theorem OBl.lo {w0 w : World} {A : Option Addr} {m c : Nat} {l : List Bool} (h : OBl w0 w A m c l) {g : Nat} (hg : (Value.slice A m c).ownBlock = some g) : w0.heap.size ≤ g ∧ g < w.heap.size := by
  rcases h.own.2 with ⟨h1, _⟩ | ⟨g', cap, cur, hv, hb, hh, _⟩
  · rw [h1] at hg; simp [Value.ownBlock] at hg
  · rw [hv] at hg
    simp [Value.ownBlock] at hg
    subst hg
    exact ⟨hb, (Array.getElem?_eq_some_iff.1 hh).1⟩
/-- Own rows of other types lie in other blocks. -/
theorem own_apart {w : World} {b1 b2 : Nat} {e1 e2 : TypeId} {s1 s2 n1 n2 : Nat} {v1 v2 : Value} {x1 x2 : List Value} (h1 : w.ownsRow b1 e1 s1 v1 n1 x1) (h2 : w.ownsRow b2 e2 s2 v2 n2 x2) (he : e1 ≠ e2) : v1.ownBlock = none ∨ v1.ownBlock ≠ v2.ownBlock := by
  rcases h1.2 with ⟨e, _⟩ | ⟨g, cap, cur, hv, hb, hh, _⟩
  · left; rw [e]; rfl
  · right
    rw [hv]
    rcases h2.2 with ⟨e, _⟩ | ⟨g', cap', cur', hv', hb', hh', _⟩
    · rw [e]; simp [Value.ownBlock]
    · rw [hv']
      simp only [Value.ownBlock]
      intro e
      obtain rfl : g = g' := by simpa using e
      rw [hh] at hh'
      injection hh' with hh'
      injection hh' with _ hh' _
      exact he hh'
theorem grown_fr {w w' : World} {v : Value} (hf : Fr w w' (fun b => v.ownBlock = some b)) : w.grownBy w' v.ownBlock := ⟨hf.os, hf.tape, hf.output, hf.size, fun k hk hne => hf.block k hk (fun e => hne e.symm)⟩
theorem OA.other {w0 w w' : World} {T : Nat} {A : Option Addr} {m c : Nat} {l : List (Bool × Bool)} {B : Option Addr} {k d : Nat} {ol : List Bool} (h : OA w0 w T A m c l) (hb : OBl w0 w B k d ol) (hf : Fr w w' (fun b => (Value.slice B k d).ownBlock = some b)) : OA w0 w' T A m c l :=
  ⟨h.own.kept (grown_fr hf) (own_apart h.own hb.own (by decide)), h.len, h.fr.grown (grown_fr hf) (fun g hg => .inl (hb.lo hg).1)⟩
theorem OBl.other {w0 w w' : World} {T : Nat} {A : Option Addr} {m c : Nat} {l : List (Bool × Bool)} {B : Option Addr} {k d : Nat} {ol : List Bool} (h : OBl w0 w B k d ol) (hb : OA w0 w T A m c l) (hf : Fr w w' (fun b => (Value.slice A m c).ownBlock = some b)) : OBl w0 w' B k d ol :=
  ⟨h.own.kept (grown_fr hf) (own_apart h.own hb.own (by decide)), h.len, h.fr.grown (grown_fr hf) (fun g hg => .inl (hb.lo hg).1)⟩
theorem OA.lit {w : World} (T : Nat) (X Y : Bool) : OA w (w.alloc (.cells #[.bool X, .bool Y] 70)) T (some ⟨w.heap.size, 0, none⟩) 1 1 [(X, Y)] :=
  ⟨World.ownsRow_lit w #[.bool X, .bool Y] 1 (Nat.le_refl _) (by decide) rfl, rfl, (Fr.refl _ _).alloc _⟩
theorem OBl.nilF {w w' : World} (hf : Fr w w' (fun _ => False)) : OBl w w' none 0 0 [] := ⟨World.ownsRow_nil _ _ _ _, rfl, hf⟩

/-- The specification's box, the chance's box and the two sums. -/
structure BB (w0 v : World) (g : Nat) (s : Sv) (b5 : Nat) (pf : Fa) (r : Rat) (b6 b7 : Nat) (u o : Rat) : Prop where
  f : FS w0 v g s
  p : Bf v b5 pf r
  u : ∃ c, Bf v b6 c u
  o : ∃ c, Bf v b7 c o
  h0 : g < w0.heap.size
  h1 : w0.heap.size ≤ b5
  h2 : b5 < b6
  h3 : b6 < b7
section
variable {w0 v v' : World} {g : Nat} {s : Sv} {b5 : Nat} {pf : Fa} {r : Rat} {b6 b7 : Nat} {u o : Rat}
theorem BB.below (h : BB w0 v g s b5 pf r b6 b7 u o) (hb : Below v.heap.size v v') : BB w0 v' g s b5 pf r b6 b7 u o := by
  obtain ⟨c, k⟩ := h.u
  obtain ⟨d, m⟩ := h.o
  exact ⟨h.f.below hb, h.p.below hb, ⟨c, k.below hb⟩, ⟨d, m.below hb⟩, h.h0, h.h1, h.h2, h.h3⟩
theorem BB.setU (h : BB w0 v g s b5 pf r b6 b7 u o) {c : Fa} {q : Rat} (hc : Fo v c (some q)) : BB w0 ((v.setCell ⟨b6, 0, none⟩ (.slice c.A c.n c.c)).setCell ⟨b6, 1, none⟩ (.slice c.B c.m c.d)) g s b5 pf r b6 b7 q o := by
  obtain ⟨c', k⟩ := h.u
  obtain ⟨d, m⟩ := h.o
  have hf := fr_fill (w := v) (g := b6) (.slice c.A c.n c.c) (.slice c.B c.m c.d)
  have i0 := h.h0
  have i1 := h.h1
  have i2 := h.h2
  have i3 := h.h3
  exact ⟨⟨bw_one h.f.bw hf (by omega), h.f.cb.one hf (by omega), h.f.q.one hf k.b.nb⟩, h.p.one hf k.b.nb (by omega), ⟨c, ⟨k.b.fill c, hc.one hf k.b.nb⟩⟩, ⟨d, m.one hf k.b.nb (by omega)⟩, h.h0, h.h1, h.h2, h.h3⟩
theorem BB.setO (h : BB w0 v g s b5 pf r b6 b7 u o) {c : Fa} {q : Rat} (hc : Fo v c (some q)) : BB w0 ((v.setCell ⟨b7, 0, none⟩ (.slice c.A c.n c.c)).setCell ⟨b7, 1, none⟩ (.slice c.B c.m c.d)) g s b5 pf r b6 b7 u q := by
  obtain ⟨c', k⟩ := h.u
  obtain ⟨d, m⟩ := h.o
  have hf := fr_fill (w := v) (g := b7) (.slice c.A c.n c.c) (.slice c.B c.m c.d)
  have i0 := h.h0
  have i1 := h.h1
  have i2 := h.h2
  have i3 := h.h3
  exact ⟨⟨bw_one h.f.bw hf (by omega), h.f.cb.one hf (by omega), h.f.q.one hf m.b.nb⟩, h.p.one hf m.b.nb (by omega), ⟨c', k.one hf m.b.nb (by omega)⟩, ⟨c, ⟨m.b.fill c, hc.one hf m.b.nb⟩⟩, h.h0, h.h1, h.h2, h.h3⟩
end
end Go.Proofs.Ytnokfhkcfebimaa

/- The walk of the law RerunBounds. -/
namespace Go.Proofs.Ytnokfhkcfebimaa
open Go.RowKit

theorem sm01b (w : World) : Calls Try.prog 40 #[.int .i64 0, .int .i64 1] w fun e w' => Ret1 w (some 0) e w' := by
  have := small_any w 0 1 (by omega) (by omega) (by omega)
  rwa [show mkRat ((0 : Nat) : Int) 1 = 0 by decide +kernel] at this
theorem seq_okb (w : World) (a : Fa) (r : Rat) (A : Option Addr) (n c : Nat) (outs : List Bool) (ha : Fo w a (some r)) (hO : Rs w none 1 bv A outs) (hl : outs.length = n) (hn : n ≤ 32) (hc : Chn r) :
    Calls Try.prog 47 #[.agg #[.slice a.A a.n a.c, .slice a.B a.m a.d], .slice A n c] w fun e w' => RetV w (sqL r outs) e w' := by
  have h := seq_any w a _ _ A n c outs ha.1 hO hl (by omega)
  rw [fracOf_self ha.2] at h
  refine h.mono fun e w' h => h.ok ?_
  have : chO (some r) = true := by simp [chO, hc.h1, hc.hd]
  unfold seqR
  rw [if_pos this, if_neg (by omega)]
set_option maxRecDepth 100000 in
set_option maxHeartbeats 16000000 in
theorem rbounds_walk (w : World) (A : Option Addr) (n c : Nat) (l : List Int) (hA : Rs w none 1 iv A l) (hl : l.length = n) :
    Calls Try.prog 15 #[.slice A n c] w fun e w' => e = .returned (.bool true) ∧ Below w.heap.size w w' := by
  have HP := hide (tp_new (w := w) (c := c) hA hl 32)
  clear hA hl
  go_enter Try.func15, Try.ntmps15
  go_upto_region 2 with (go_at_call 41; refine (vspec_any _ w.heap.size A n c l 0 7 HP.out (by omega) (by omega) (by omega)).mono ?_; rintro e w1 ⟨s, lo, hi, al, be, M, b, rfl, hq, hk, hM, htp, hb12, hf⟩; have HB1 := hide (fr_new rfl hf); have HQ1 := hide hq; have HK := hide hk; clear hq hk hf htp hb12)
  generalize hW : World.alloc w1 _ = v
  have HF := hide (show FS w v w1.heap.size s by rw [← hW]; exact ⟨HB1.out.trans (((Below.refl _ _).alloc (Nat.le_refl _) _ : Below w1.heap.size w1 _).mono HB1.out.size), (FS.mk0 HQ1.out _).cb, HQ1.out.alloc _⟩)
  obtain ⟨g, hg⟩ : ∃ g, g = w1.heap.size := ⟨_, rfl⟩
  rw [← hg] at HF ⊢
  obtain ⟨a0, a1, a2, a3, a4, a5, a6, a7, a8, a9⟩ := HF.out.ca
  clear hW hg
  go_upto_region 3 with (fail)
  generalize hW : World.alloc v _ = v2
  have HC2 := hide (show Cb v2 v.heap.size [.slice s.l.A s.l.n s.l.c, .slice s.l.B s.l.m s.l.d, .slice s.h.A s.h.n s.h.c, .slice s.h.B s.h.m s.h.d] by rw [← hW]; exact Cb.mk0 _ (by simp) _ rfl)
  have HF2 := hide (show FS w v2 g s by rw [← hW]; exact HF.out.alloc _)
  have hg2 : g < v2.heap.size := HF2.out.cb.sz
  obtain ⟨gl, hgl⟩ : ∃ x, x = v.heap.size := ⟨_, rfl⟩
  rw [← hgl] at HC2 ⊢
  clear hW hgl a0 a1 a2 a3 a4 a5 a6 a7 a8 a9
  have hm0 : (0 : Int) ≤ s.m := by rw [HK.out.m]; omega
  have hm63 : s.m < 64 := by rw [HK.out.m]; omega
  obtain ⟨S, hS⟩ : ∃ S : Nat, S = 2 ^ M := ⟨_, rfl⟩
  have hS128 : S ≤ 128 := by rw [hS]; exact Nat.pow_le_pow_right (n := 2) (by omega) hM
  have hwS : wrap64 ((2 : Int) ^ s.m.toNat) = (S : Int) := by
    have e : ((2 : Int) ^ s.m.toNat) = (S : Int) := by rw [HK.out.m, hS]; push_cast; rfl
    rw [e]
    exact IntWalk.wrap64_in _ ⟨by omega, by omega⟩
  have HSS := hide hS
  obtain ⟨G, hG⟩ : ∃ G, G = aftQ (decQ lo hi al be) M := ⟨_, rfl⟩
  have HG := hide hG
  have HM := hide HK.out.m
  clear hS hG
  go_wp2_with fail
  go_loopw [30] (fun iv wr => ∃ i : Nat, iv = .int .i64 (i : Int) ∧ i ≤ 2 ∧ Hid (Below v2.heap.size v2 wr)) (fun iv _ => 2 - (intOf iv).toNat)
  case atStart => exact ⟨0, rfl, by omega, hide (Below.refl _ _)⟩
  case round =>
    obtain ⟨i, rfl, hi2, HBo⟩ := hrel
    obtain ⟨wo, hwo⟩ : ∃ wo, wo = wr := ⟨wr, rfl⟩
    subst hwo
    have HFo := hide (HF2.out.below HBo.out)
    have HCo := hide (HC2.out.below HBo.out)
    by_cases hiq : i = 2
    · subst hiq
      go_wp2_with (go_at_call 44; (with_reducible refine (vknown_any _).mono ?_); rintro e w9 ⟨rfl, hb⟩; have HB9 := hide (HFo.out.bw.trans (hb.mono HFo.out.bw.size)); clear hb)
      go_ret
      exact ⟨rfl, HB9.out⟩
    · have hlt : decide ((i : Int) < 2) = true := decide_eq_true (by omega)
      have hlt2 : (i : Int) < 2 := by omega
      have hi0 : (0 : Int) ≤ (i : Int) := by omega
      obtain ⟨pf, r, hfo, hch, hle1, hle2, hc0, hc1⟩ : ∃ (pf : Fa) (r : Rat), Fo wo pf (some r) ∧ Chn r ∧ (r = lo → val (decQ lo hi al be) r gF M 0 0 ≤ al) ∧ (r = hi → val (decQ lo hi al be) r gS M 0 0 ≤ be) ∧ wo.cell? ⟨gl, i * 2, none⟩ = some (.slice pf.A pf.n pf.c) ∧ wo.cell? ⟨gl, i * 2 + 1, none⟩ = some (.slice pf.B pf.m pf.d) := by
        have hA1 := alpha_le (b := be) HK.out.il HK.out.ih HK.out.ia M
        have hne : lo ≠ hi := fun e => by have := HK.out.lt; rw [e] at this; exact absurd this Rat.lt_irrefl
        have hB1 := beta_le (h := hi) (a := al) HK.out.il HK.out.ib M
        obtain rfl | rfl : i = 0 ∨ i = 1 := by omega
        · exact ⟨s.l, lo, fo_of HFo.out.q.l HK.out.fl, HK.out.il.c, fun _ => hA1, fun e => absurd e hne, HCo.out.cell 0 _ rfl, HCo.out.cell 1 _ rfl⟩
        · exact ⟨s.h, hi, fo_of HFo.out.q.h HK.out.fh, HK.out.ih.c, fun e => absurd e.symm hne, fun _ => hB1, HCo.out.cell 2 _ rfl, HCo.out.cell 3 _ rfl⟩
      have HFO := hide hfo
      have HCH := hide hch
      have HLE := hide (And.intro hle1 hle2)
      have hglz := HCo.out.sz
      clear hfo hch hle1 hle2 hiq
      go_upto_region 5 with (fail)
      generalize hW : World.alloc wo _ = v5
      have HP5 := hide (show Bf v5 wo.heap.size pf r by rw [← hW]; exact ⟨Bq.mk0 _ pf rfl, HFO.out.alloc _⟩)
      have HB5 := hide (show Below v2.heap.size v2 v5 by rw [← hW]; exact HBo.out.alloc HBo.out.size _)
      have h1 := HBo.out.size
      obtain ⟨b5, hb5⟩ : ∃ b, b = wo.heap.size := ⟨_, rfl⟩
      rw [← hb5] at HP5 h1 ⊢
      clear hW hb5 hc0 hc1 hglz HCo HFo
      go_upto_region 6 with (first
        | (go_at_call 40; (with_reducible refine (sm01b _).mono ?_); rintro e w3 ⟨c2, rfl, ho, hb⟩; have HO3 := hide ho; have HO23 := hide (HO2.out.below hb); have HP7 := hide (HP6.out.below hb); have HB7 := hide (HB6.out.trans (hb.mono HB6.out.size)); clear ho hb)
        | (go_at_call 40; (with_reducible refine (sm01b _).mono ?_); rintro e w2 ⟨c1, rfl, ho, hb⟩; have HO2 := hide ho; have HP6 := hide (HP5.out.below hb); have HB6 := hide (HB5.out.trans (hb.mono HB5.out.size)); clear ho hb))
      generalize hW : World.alloc (World.alloc w3 _) _ = v7
      have HS := hide (show BB v2 v7 g s b5 pf r w3.heap.size (w3.heap.size + 1) (vsum G 1 r M 0) (vsum G 2 r M 0) by
        rw [← hW]
        have hgz := HP7.out.b.sz
        have hB := HB7.out.trans (((((Below.refl _ _).alloc (Nat.le_refl _) _).alloc (by simp) _ : Below w3.heap.size w3 ((w3.alloc (.cells #[.slice c1.A c1.n c1.c, .slice c1.B c1.m c1.d] 26)).alloc (.cells #[.slice c2.A c2.n c2.c, .slice c2.B c2.m c2.d] 26)))).mono HB7.out.size)
        exact ⟨⟨hB, HF2.out.cb.below hB, HF2.out.q.below hB⟩, (HP7.out.alloc _).alloc _, ⟨c1, ⟨(Bq.mk0 _ c1 rfl).alloc _, (HO23.out.alloc _).alloc _⟩⟩, ⟨c2, ⟨Bq.mk0 _ c2 (by simp), (HO3.out.alloc _).alloc _⟩⟩, hg2, h1, hgz, by omega⟩)
      obtain ⟨b7, hb7⟩ : ∃ b, b = w3.heap.size + 1 := ⟨_, rfl⟩
      rw [← hb7] at HS ⊢
      obtain ⟨b6, hb6⟩ : ∃ b, b = w3.heap.size := ⟨_, rfl⟩
      rw [← hb6] at HS ⊢
      clear hW hb6 hb7
      go_wp2_with fail
      go_loopw [8] (fun xv wr => ∃ x : Nat, xv = .int .i64 (x : Int) ∧ x ≤ S ∧ Hid (BB v2 wr g s b5 pf r b6 b7 (vsum G 1 r M x) (vsum G 2 r M x))) (fun xv _ => S - (intOf xv).toNat)
      case atStart => exact ⟨0, rfl, by omega, HS⟩
      case round =>
        obtain ⟨x, rfl, hxS, HR⟩ := hrel
        obtain ⟨wx, hwx⟩ : ∃ wx, wx = wr := ⟨wr, rfl⟩
        subst hwx
        have k8 := HR.out.f.cb.cell 8 _ rfl
        have k9 := HR.out.f.cb.sz
        by_cases hxq : x = S
        · have hle : decide ((x : Int) < (S : Int)) = false := decide_eq_false (by omega)
          have hle2 : (S : Int) ≤ (x : Int) := by omega
          have HU := hide (show vsum G 1 r M x = val (decQ lo hi al be) r gF M 0 0 by rw [hxq, HSS.out, HG.out]; exact vsum_fl (dec00 HK.out))
          have HV := hide (show vsum G 2 r M x = val (decQ lo hi al be) r gS M 0 0 by rw [hxq, HSS.out, HG.out]; exact vsum_st (dec00 HK.out))
          rw [HU.out, HV.out] at HR
          clear hxq HU HV
          have p0 := HR.out.p.b.c0
          have p1 := HR.out.p.b.c1
          have HFR := hide HR.out.f
          have e0 := HFR.out.cb.cell 0 _ rfl
          obtain ⟨q0, q1, q2, q3, q4, q5, q6, q7, q8, q9⟩ := HFR.out.ca
          clear k8 k9
          go_upto_region 27 with (go_at_call 49; (with_reducible refine (vchances_ok _ s lo hi al be M pf r HR.out.f.q HK.out HR.out.p.o HCH.out).mono ?_); rintro e w7 ⟨f0, f2, rfl, h0, h2, hb⟩; have HO7 := hide (And.intro h0 h2); have HR7 := hide (HR.out.below hb); clear h0 h2 hb)
          generalize hW : World.alloc (World.alloc w7 _) _ = v8
          obtain ⟨PF, hPF⟩ : ∃ z, z = val (decQ lo hi al be) r gF M 0 0 := ⟨_, rfl⟩
          obtain ⟨PS, hPS⟩ : ∃ z, z = val (decQ lo hi al be) r gS M 0 0 := ⟨_, rfl⟩
          rw [← hPF, ← hPS] at HR7 HO7 HLE
          have HR8 := hide (show BB v2 v8 g s b5 pf r b6 b7 PF PS by rw [← hW]; exact HR7.out.below (((Below.refl _ _).alloc (Nat.le_refl _) _).alloc (by simp) _))
          have HX8 := hide (show Bf v8 w7.heap.size f0 PF by rw [← hW]; exact ⟨(Bq.mk0 _ f0 rfl).alloc _, (HO7.out.1.alloc _).alloc _⟩)
          have HY8 := hide (show Bf v8 (w7.heap.size + 1) f2 PS by rw [← hW]; exact ⟨Bq.mk0 _ f2 (by simp), (HO7.out.2.alloc _).alloc _⟩)
          obtain ⟨b18, hb18⟩ : ∃ b, b = w7.heap.size + 1 := ⟨_, rfl⟩
          rw [← hb18] at HY8 ⊢
          obtain ⟨b17, hb17⟩ : ∃ b, b = w7.heap.size := ⟨_, rfl⟩
          rw [← hb17] at HX8 ⊢
          clear hW hb17 hb18 hPF hPS p0 p1 e0 q0 q1 q2 q3 q4 q5 q6 q7 q8 q9
          obtain ⟨cu, hu⟩ := HR8.out.u
          obtain ⟨co, ho⟩ := HR8.out.o
          have HU8 := hide hu
          have HO8 := hide ho
          have x0 := HX8.out.b.c0
          have x1 := HX8.out.b.c1
          have u0 := hu.b.c0
          have u1 := hu.b.c1
          clear hu ho
          go_upto_region 29 with (first
            | (go_at_call 28; (with_reducible refine (samefrac_eq _ f2 co _ HY9.out.o HO9.out.o).mono ?_); rintro e w10 ⟨rfl, hb⟩; have HR10 := hide (HR9.out.below hb); have HU10 := hide (HU9.out.below hb); have HO10 := hide (HO9.out.below hb); clear hb)
            | (go_at_call 28; (with_reducible refine (samefrac_eq _ f0 cu _ HX8.out.o HU8.out.o).mono ?_); rintro e w9 ⟨rfl, hb⟩; have HR9 := hide (HR8.out.below hb); have HY9 := hide (HY8.out.below hb); have HU9 := hide (HU8.out.below hb); have HO9 := hide (HO8.out.below hb); have y0 := HY9.out.b.c0; have y1 := HY9.out.b.c1; have o0 := HO9.out.b.c0; have o1 := HO9.out.b.c1; clear hb))
          clear x0 x1 u0 u1 y0 y1 o0 o1 HX8 HY8 HY9
          have HF10 := hide HR10.out.f
          obtain ⟨q0, q1, q2, q3, q4, q5, q6, q7, q8, q9⟩ := HF10.out.ca
          have p0 := HR10.out.p.b.c0
          have p1 := HR10.out.p.b.c1
          have u0 := HU10.out.b.c0
          have u1 := HU10.out.b.c1
          by_cases hrl : r = lo
          · have hrh : ¬ r = hi := fun e => by have := HK.out.lt; rw [← hrl, ← e] at this; exact absurd this Rat.lt_irrefl
            have HD1 := hide (decide_eq_true hrl)
            have HD2 := hide (decide_eq_false hrh)
            have HAL := hide (HLE.out.1 hrl)
            clear hrl hrh
            go_wp2_with (first
              | (go_at_call 28; (with_reducible refine (samefrac_dec _ pf s.h r hi HR12.out.p.o (fo_of HR12.out.f.q.h HK.out.fh)).mono ?_); rintro e w13 ⟨rfl, hb⟩; rw [HD2.out]; have HR13 := hide (HR12.out.below hb); clear hb)
              | (go_at_call 37; (with_reducible refine (fcmp_le _ cu s.a PF al HU11.out.o (fo_of HR11.out.f.q.a HK.out.fa) HAL.out).mono ?_); rintro e w12 ⟨z1, rfl, hz1, hb⟩; have hzz1 : decide (0 < z1) = false := decide_eq_false (by omega); have HR12 := hide (HR11.out.below hb); have a0 := HR12.out.p.b.c0; have a1 := HR12.out.p.b.c1; have HF12 := hide HR12.out.f; obtain ⟨k0, k1, k2, k3, k4, k5, k6, k7, k8, k9⟩ := HF12.out.ca; clear hb)
              | (go_at_call 28; (with_reducible refine (samefrac_dec _ pf s.l r lo HR10.out.p.o (fo_of HR10.out.f.q.l HK.out.fl)).mono ?_); rintro e w11 ⟨rfl, hb⟩; rw [HD1.out]; have HR11 := hide (HR10.out.below hb); have HU11 := hide (HU10.out.below hb); have x0 := HU11.out.b.c0; have x1 := HU11.out.b.c1; have HF11 := hide HR11.out.f; obtain ⟨m0, m1, m2, m3, m4, m5, m6, m7, m8, m9⟩ := HF11.out.ca; clear hb))
            go_roundw
            case rel => exact ⟨i + 1, by go_num, by omega, hide HR13.out.f.bw⟩
            case measure => simp [intOf] <;> omega
          · have HD1 := hide (decide_eq_false hrl)
            clear hrl
            by_cases hrh : r = hi
            · have HD2 := hide (decide_eq_true hrh)
              have HBE := hide (HLE.out.2 hrh)
              clear hrh
              go_wp2_with (first
                | (go_at_call 37; (with_reducible refine (fcmp_le _ co s.b PS be HO12.out.o (fo_of HR12.out.f.q.b HK.out.fb) HBE.out).mono ?_); rintro e w13 ⟨z1, rfl, hz1, hb⟩; have hzz1 : decide (0 < z1) = false := decide_eq_false (by omega); have HR13 := hide (HR12.out.below hb); clear hb)
                | (go_at_call 28; (with_reducible refine (samefrac_dec _ pf s.h r hi HR11.out.p.o (fo_of HR11.out.f.q.h HK.out.fh)).mono ?_); rintro e w12 ⟨rfl, hb⟩; rw [HD2.out]; have HR12 := hide (HR11.out.below hb); have HO12 := hide (HO11.out.below hb); have a0 := HO12.out.b.c0; have a1 := HO12.out.b.c1; have HF12 := hide HR12.out.f; obtain ⟨k0, k1, k2, k3, k4, k5, k6, k7, k8, k9⟩ := HF12.out.ca; clear hb)
                | (go_at_call 28; (with_reducible refine (samefrac_dec _ pf s.l r lo HR10.out.p.o (fo_of HR10.out.f.q.l HK.out.fl)).mono ?_); rintro e w11 ⟨rfl, hb⟩; rw [HD1.out]; have HR11 := hide (HR10.out.below hb); have HO11 := hide (HO10.out.below hb); have x0 := HR11.out.p.b.c0; have x1 := HR11.out.p.b.c1; have HF11 := hide HR11.out.f; obtain ⟨m0, m1, m2, m3, m4, m5, m6, m7, m8, m9⟩ := HF11.out.ca; clear hb))
              go_roundw
              case rel => exact ⟨i + 1, by go_num, by omega, hide HR13.out.f.bw⟩
              case measure => simp [intOf] <;> omega
            · have HD2 := hide (decide_eq_false hrh)
              clear hrh
              go_wp2_with (first
                | (go_at_call 28; (with_reducible refine (samefrac_dec _ pf s.h r hi HR11.out.p.o (fo_of HR11.out.f.q.h HK.out.fh)).mono ?_); rintro e w12 ⟨rfl, hb⟩; rw [HD2.out]; have HR12 := hide (HR11.out.below hb); clear hb)
                | (go_at_call 28; (with_reducible refine (samefrac_dec _ pf s.l r lo HR10.out.p.o (fo_of HR10.out.f.q.l HK.out.fl)).mono ?_); rintro e w11 ⟨rfl, hb⟩; rw [HD1.out]; have HR11 := hide (HR10.out.below hb); have x0 := HR11.out.p.b.c0; have x1 := HR11.out.p.b.c1; have HF11 := hide HR11.out.f; obtain ⟨m0, m1, m2, m3, m4, m5, m6, m7, m8, m9⟩ := HF11.out.ca; clear hb))
              go_roundw
              case rel => exact ⟨i + 1, by go_num, by omega, hide HR12.out.f.bw⟩
              case measure => simp [intOf] <;> omega
        · have hlt : decide ((x : Int) < (S : Int)) = true := decide_eq_true (by omega)
          have hlt2 : (x : Int) < (S : Int) := by omega
          have hxS2 : x < S := by omega
          clear hxq
          go_wp2_with fail
          generalize hW : World.alloc wx _ = v9
          have HOA0 := hide (show OA wx v9 wx.heap.size (some ⟨wx.heap.size, 0, none⟩) 1 1 [(true, true)] by rw [← hW]; exact OA.lit _ _ _)
          have HOB0 := hide (show OBl wx v9 none 0 0 [] by rw [← hW]; exact OBl.nilF ((Fr.refl _ _).alloc _))
          clear hW k8 k9 hwS
          go_loopw [9, 10, 11] (fun xv ov kv wr => ∃ (k : Nat) (A9 : Option Addr) (c9 : Nat) (A10 : Option Addr) (c10 : Nat), xv = .slice A9 (1 + k) c9 ∧ ov = .slice A10 k c10 ∧ kv = .int .i64 (k : Int) ∧ k ≤ M ∧ Hid (OA wx wr wx.heap.size A9 (1 + k) c9 ((true, true) :: rndL (bitL x k))) ∧ Hid (OBl wx wr A10 k c10 (bitL x k))) (fun _ _ kv _ => M - (intOf kv).toNat)
          case atStart => exact ⟨0, _, _, _, _, rfl, rfl, rfl, by omega, HOA0, HOB0⟩
          case round =>
            obtain ⟨k, A9, c9, A10, c10, rfl, rfl, rfl, hkM, HOA, HOB⟩ := hrel
            have HRk := hide (HR.out.below HOA.out.bw)
            have k8 := HRk.out.f.cb.cell 8 _ rfl
            have k9 := HRk.out.f.cb.sz
            by_cases hkq : k = M
            · have hle : decide ((k : Int) < s.m) = false := decide_eq_false (by rw [HM.out]; omega)
              have hle2 : s.m ≤ (k : Int) := by rw [HM.out]; omega
              have p0 := HRk.out.p.b.c0
              have p1 := HRk.out.p.b.c1
              have HKQ := hide hkq
              clear hkq
              go_upto_region 17 with (go_at_call 47; (with_reducible refine (seq_okb _ pf r A10 k c10 _ HRk.out.p.o HOB.out.rs HOB.out.len (by omega) HCH.out).mono ?_); rintro e w3 ⟨c3, rfl, ho, hb⟩; have HO3 := hide ho; have HR3 := hide (HRk.out.below hb); have HA3 := hide (HOA.out.below hb); clear ho hb)
              generalize hW : World.alloc w3 _ = v12
              have HR12 := hide (show BB v2 v12 g s b5 pf r b6 b7 _ _ by rw [← hW]; exact HR3.out.below ((Below.refl _ _).alloc (Nat.le_refl _) _))
              have HX12 := hide (show Bf v12 w3.heap.size c3 _ by rw [← hW]; exact ⟨Bq.mk0 _ c3 rfl, HO3.out.alloc _⟩)
              have HA12 := hide (show OA wx v12 wx.heap.size A9 (1 + k) c9 _ by rw [← hW]; exact HA3.out.alloc _)
              have hb12 := hide (show b6 < w3.heap.size ∧ b7 < w3.heap.size from by have := HR3.out.o.elim fun _ h => h.b.sz; have := HR3.out.h3; omega)
              obtain ⟨b12, hbb⟩ : ∃ b, b = w3.heap.size := ⟨_, rfl⟩
              rw [← hbb] at HX12 hb12 ⊢
              have HF12 := hide HR12.out.f
              obtain ⟨q0, q1, q2, q3, q4, q5, q6, q7, q8, q9⟩ := HF12.out.ca
              clear hW hbb k8 k9 p0 p1
              obtain ⟨X, hX⟩ : ∃ X, X = jud G ((true, true) :: rndL (bitL x k)) := ⟨_, rfl⟩
              have HJ := hide hX
              have HV1 := hide (show vsum G 1 r M (x + 1) = vsum G 1 r M x + if X.1 = 1 then sqL r (bitL x k) else 0 by rw [hX, HKQ.out]; exact vsum_succ _ _ _ _ _)
              have HV2 := hide (show vsum G 2 r M (x + 1) = vsum G 2 r M x + if X.1 = 2 then sqL r (bitL x k) else 0 by rw [hX, HKQ.out]; exact vsum_succ _ _ _ _ _)
              have HF1 := hide (show fitsR (vsum G 1 r M (x + 1)) = true from vsum_fit HCH.out HK.out.m2 (by rw [← HSS.out]; omega))
              have HF2 := hide (show fitsR (vsum G 2 r M (x + 1)) = true from vsum_fit HCH.out HK.out.m2 (by rw [← HSS.out]; omega))
              clear hX
              obtain ⟨J, u⟩ := X
              dsimp only at HV1 HV2
              go_upto_region 18 with (go_at_call 43; (with_reducible refine (vjudgex_ok _ s lo hi al be M A9 (1 + k) c9 _ HR12.out.f.q HK.out HA12.out.rs HA12.out.len (by omega)).mono ?_); rintro e w7 ⟨rfl, hb⟩; rw [← HG.out, ← HJ.out]; have HR13 := hide (HR12.out.below hb); have HX13 := hide (HX12.out.below hb); clear hb)
              clear q0 q1 q2 q3 q4 q5 q6 q7 q8 q9
              have x0 := HX13.out.b.c0
              have x1 := HX13.out.b.c1
              by_cases hJ1 : J = 1
              · subst hJ1
                rw [if_pos rfl] at HV1
                rw [if_neg (by decide)] at HV2
                rw [HV1.out] at HF1
                obtain ⟨cu, hu⟩ := HR13.out.u
                have HU := hide hu
                have u0 := hu.b.c0
                have u1 := hu.b.c1
                have uz := hu.b.sz
                have uf := hu.b.fz
                clear hu
                go_upto_region 22 with (go_at_call 48; (with_reducible refine (fadd_ok _ cu c3 _ _ HU.out.o HX13.out.o HF1.out).mono ?_); rintro e wa ⟨ca, rfl, ho, hb⟩; have HOa := hide ho; have HRa := hide (HR13.out.below hb); have HUa := hide (HU.out.below hb); have y0 := HUa.out.b.c0; have y1 := HUa.out.b.c1; have yz := HUa.out.b.sz; have yf := HUa.out.b.fz; clear ho hb)
                generalize hW : World.setCell (World.setCell wa _ _) _ _ = va2
                have HRb := hide (show BB v2 va2 g s b5 pf r b6 b7 _ _ by rw [← hW]; exact HRa.out.setU HOa.out)
                clear hW x0 x1 u0 u1 uz uf y0 y1 yz yf
                go_wp2_with fail
                go_roundw
                case rel => exact ⟨x + 1, by go_num, by omega, hide (by rw [HV1.out, HV2.out, Rat.add_zero]; exact HRb.out)⟩
                case measure => simp [intOf] <;> omega
              · by_cases hJ2 : J = 2
                · subst hJ2
                  rw [if_neg (by decide)] at HV1
                  rw [if_pos rfl] at HV2
                  rw [HV2.out] at HF2
                  obtain ⟨co, hu⟩ := HR13.out.o
                  have HU := hide hu
                  have u0 := hu.b.c0
                  have u1 := hu.b.c1
                  have uz := hu.b.sz
                  have uf := hu.b.fz
                  clear hu hJ1
                  go_upto_region 24 with (go_at_call 48; (with_reducible refine (fadd_ok _ co c3 _ _ HU.out.o HX13.out.o HF2.out).mono ?_); rintro e wa ⟨ca, rfl, ho, hb⟩; have HOa := hide ho; have HRa := hide (HR13.out.below hb); have HUa := hide (HU.out.below hb); have y0 := HUa.out.b.c0; have y1 := HUa.out.b.c1; have yz := HUa.out.b.sz; have yf := HUa.out.b.fz; clear ho hb)
                  generalize hW : World.setCell (World.setCell wa _ _) _ _ = va2
                  have HRb := hide (show BB v2 va2 g s b5 pf r b6 b7 _ _ by rw [← hW]; exact HRa.out.setO HOa.out)
                  clear hW x0 x1 u0 u1 uz uf y0 y1 yz yf
                  go_wp2_with fail
                  go_roundw
                  case rel => exact ⟨x + 1, by go_num, by omega, hide (by rw [HV1.out, HV2.out, Rat.add_zero]; exact HRb.out)⟩
                  case measure => simp [intOf] <;> omega
                · rw [if_neg hJ1] at HV1
                  rw [if_neg hJ2] at HV2
                  have z1 : (J == 1) = false := by simp [hJ1]
                  have z2 : (J == 2) = false := by simp [hJ2]
                  clear x0 x1
                  go_wp2_with fail
                  go_roundw
                  case rel => exact ⟨x + 1, by go_num, by omega, hide (by rw [HV1.out, HV2.out, Rat.add_zero, Rat.add_zero]; exact HR13.out)⟩
                  case measure => simp [intOf] <;> omega
            · have hlt : decide ((k : Int) < s.m) = true := decide_eq_true (by rw [HM.out]; omega)
              have hlt2 : (k : Int) < s.m := by rw [HM.out]; omega
              have hk0 : (0 : Int) ≤ (k : Int) := by omega
              have hk40 : (k : Int) < 64 := by omega
              have hand : bits BinOp.and IntKind.i64 ((x : Int) / 2 ^ k) 1 = ((x / 2 ^ k % 2 : Nat) : Int) := by
                rw [← natCast_div2]; exact i64_and_one _ (by have := Nat.div_le_self x (2 ^ k); omega)
              obtain ⟨bt, hbt⟩ : ∃ bt : Nat, bt = x / 2 ^ k % 2 := ⟨_, rfl⟩
              have HBL := hide (show bitL x (k + 1) = bitL x k ++ [((bt : Int) == 1)] by
                rw [bitL_succ, ← hbt]
                have e : decide (bt = 1) = ((bt : Int) == 1) := by
                  rw [Bool.eq_iff_iff, decide_eq_true_eq, beq_iff_eq]
                  omega
                rw [e])
              rw [← hbt] at hand
              clear hbt
              have hk7 : k ≤ 7 := by omega
              go_upto_region 15 with (at_builtin; refine wl_app_boolF (w0 := wx) rfl _ _ _ Try.underlying47 rfl A10 k c10 (bitL x k) ((bt : Int) == 1) rfl rfl HOB.out (by omega) ?_; intro A2 c2 w4 ho hf; have HOB4 := hide ho; have HOA4 := hide ((HOA.out.alloc _).other (HOB.out.below ((Below.refl _ _).alloc (Nat.le_refl _) _)) hf); clear ho hf)
              obtain ⟨bb, o, rfl, -, hbb, hcell⟩ := bools_at HOB4.out.rs (show k < (bitL x k ++ [((bt : Int) == 1)]).length by rw [List.length_append, bitL_len]; simp)
              have hget : (bitL x k ++ [((bt : Int) == 1)])[k]'(by rw [List.length_append, bitL_len]; simp) = ((bt : Int) == 1) := by
                rw [List.getElem_append_right (by rw [bitL_len]; omega)]
                simp [bitL_len]
              rw [hget] at hcell
              clear hget k8 k9
              have hid : (k : Int) < ((k + 1 : Nat) : Int) := by omega
              obtain ⟨bq, hbq⟩ : ∃ bq, bq = ((bt : Int) == 1) := ⟨_, rfl⟩
              rw [← hbq] at hcell HBL HOB4
              clear hand hbq
              go_wp2_with (at_builtin; refine wl_app_att (w0 := wx) rfl _ _ _ Try.underlying66 rfl wx.heap.size A9 (1 + k) c9 _ bq true rfl rfl HOA4.out (by omega) ?_; intro A5 c5 w5 ho hf; have HOA5 := hide ho; have HOB5 := hide ((HOB4.out.below ((Below.refl _ _).alloc (Nat.le_refl _) _)).other (HOA4.out.alloc _) hf); clear ho hf)
              go_roundw
              case rel => exact ⟨k + 1, A5, c5, some ⟨bb, o, none⟩, c2, rfl, rfl, by go_num, by omega, hide (by
                have := HOA5.out
                rw [HBL.out]
                unfold rndL at this ⊢
                rw [List.map_append, ← List.cons_append]
                exact this), hide (by rw [HBL.out]; exact HOB5.out)⟩
              case measure => simp [intOf] <;> omega
end Go.Proofs.Ytnokfhkcfebimaa
