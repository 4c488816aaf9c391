/- The walk of the law RerunSoon. -/
import Derived.Test.YtnokfhkcfebimaaG35
import Derived.Test.YtnokfhkcfebimaaG18
import Derived.Test.YtnokfhkcfebimaaG26
set_option linter.unusedVariables false
set_option linter.unusedSimpArgs false

/- Plain laws of verdicts: more attempts, fewer attempts; a row of attempts is appended. -/
namespace Go.Proofs.Ytnokfhkcfebimaa
open Go.RowKit

theorem judL_take (g : Nat → Nat → Int) (r0 : Bool) : ∀ (t : List (Bool × Bool)) (k p f j : Nat), k + j < (judL g r0 t k p f).2 → judL g r0 (t.take j) k p f = (0, k + j)
  | t, k, p, f, 0, _ => by rw [List.take_zero]; rfl
  | [], k, p, f, j + 1, h => by simp only [judL] at h; omega
  | (fl, rd) :: t, k, p, f, j + 1, h => by
    rw [List.take_succ_cons, judL]
    rw [judL] at h
    by_cases h1 : rd ≠ r0
    · rw [if_pos h1] at h; dsimp only at h; omega
    · rw [if_neg h1] at h ⊢
      by_cases h2 : rd = false
      · rw [if_pos h2] at h
        cases fl <;> simp at h <;> omega
      · rw [if_neg h2] at h ⊢
        generalize (if fl = true then p else p + 1) = p' at h ⊢
        generalize (if fl = true then f + 1 else f) = f' at h ⊢
        by_cases h3 : g p' f' = 0
        · rw [if_pos h3] at h ⊢
          rw [judL_take g r0 t (k + 1) p' f' j (by omega), show k + 1 + j = k + (j + 1) by omega]
        · rw [if_neg h3] at h; dsimp only at h; omega
theorem judL_app (g : Nat → Nat → Int) (r0 : Bool) (y : List (Bool × Bool)) : ∀ (t : List (Bool × Bool)) (k p f : Nat), (judL g r0 t k p f).1 ≠ 0 → judL g r0 (t ++ y) k p f = judL g r0 t k p f
  | [], k, p, f, h => absurd rfl h
  | (fl, rd) :: t, k, p, f, h => by
    rw [List.cons_append, judL, judL]
    rw [judL] at h
    by_cases h1 : rd ≠ r0
    · rw [if_pos h1, if_pos h1]
    · rw [if_neg h1] at h ⊢
      rw [if_neg h1]
      by_cases h2 : rd = false
      · rw [if_pos h2, if_pos h2]
      · rw [if_neg h2] at h ⊢
        rw [if_neg h2]
        generalize (if fl = true then p else p + 1) = p' at h ⊢
        generalize (if fl = true then f + 1 else f) = f' at h ⊢
        by_cases h3 : g p' f' = 0
        · rw [if_pos h3] at h ⊢
          rw [if_pos h3]
          exact judL_app g r0 y t _ _ _ h
        · rw [if_neg h3, if_neg h3]
theorem judL_le (g : Nat → Nat → Int) (r0 : Bool) : ∀ (t : List (Bool × Bool)) (k p f : Nat), (judL g r0 t k p f).2 ≤ k + t.length ∧ k ≤ (judL g r0 t k p f).2 ∧ ((judL g r0 t k p f).1 = 0 → (judL g r0 t k p f).2 = k + t.length)
  | [], k, p, f => ⟨Nat.le_refl _, Nat.le_refl _, fun _ => rfl⟩
  | (fl, rd) :: t, k, p, f => by
    rw [judL, List.length_cons]
    by_cases h1 : rd ≠ r0
    · rw [if_pos h1]; exact ⟨by dsimp only; omega, by dsimp only; omega, fun h => by simp at h⟩
    · rw [if_neg h1]
      by_cases h2 : rd = false
      · rw [if_pos h2]
        cases fl
        · exact ⟨by simp <;> omega, by simp, fun h => by simp at h⟩
        · exact ⟨by simp <;> omega, by simp, fun h => by simp at h⟩
      · rw [if_neg h2]
        generalize (if fl = true then p else p + 1) = p'
        generalize (if fl = true then f + 1 else f) = f'
        by_cases h3 : g p' f' = 0
        · rw [if_pos h3]
          obtain ⟨h4, h5, h6⟩ := judL_le g r0 t (k + 1) p' f'
          exact ⟨by omega, by omega, fun h => by have := h6 h; omega⟩
        · rw [if_neg h3]; exact ⟨by dsimp only; omega, by dsimp only; omega, fun h => absurd h h3⟩
theorem jud_take {g : Nat → Nat → Int} {xs : List (Bool × Bool)} {j : Nat} (h : j < (jud g xs).2) : jud g (xs.take j) = (0, j) := by
  cases xs with
  | nil => simp [jud] at h
  | cons y t =>
    obtain ⟨fl, rd⟩ := y
    cases j with
    | zero => rfl
    | succ j =>
      cases fl
      · simp [jud] at h
      · have e : ∀ t, jud g ((true, rd) :: t) = judL g rd t 1 0 0 := fun t => rfl
        rw [e] at h
        rw [List.take_succ_cons, e, judL_take g rd t 1 0 0 j (by omega), show 1 + j = j + 1 by omega]
theorem jud_app {g : Nat → Nat → Int} {xs : List (Bool × Bool)} (y : List (Bool × Bool)) (h : (jud g xs).1 ≠ 0) : jud g (xs ++ y) = jud g xs := by
  cases xs with
  | nil => exact absurd rfl h
  | cons x t =>
    obtain ⟨fl, rd⟩ := x
    cases fl
    · rfl
    · exact judL_app g rd y t 1 0 0 h
theorem jud_le (g : Nat → Nat → Int) (xs : List (Bool × Bool)) : (jud g xs).2 ≤ xs.length ∧ ((jud g xs).1 = 0 → (jud g xs).2 = xs.length) := by
  cases xs with
  | nil => exact ⟨Nat.le_refl _, fun _ => rfl⟩
  | cons x t =>
    obtain ⟨fl, rd⟩ := x
    cases fl
    · exact ⟨by simp [jud], fun h => by simp [jud] at h⟩
    · obtain ⟨h1, -, h3⟩ := judL_le g rd t 1 0 0
      have e : jud g ((true, rd) :: t) = judL g rd t 1 0 0 := rfl
      rw [e, List.length_cons]
      exact ⟨by omega, fun h => by have := h3 h; omega⟩
theorem OA.drew {w0 w : World} {T : Nat} {A : Option Addr} {m c : Nat} {l : List (Bool × Bool)} (h : OA w0 w T A m c l) : OA w0 w.drew T A m c l := h.below (Dr.below ⟨1, rfl⟩)
theorem step_app_atts {w0 w : World} {ops : Array Oper} {o : Oper} {a : Act} {K : Act → World → Prop} {Q : Exit → Act → World → Prop} {E : Prop} (hgd : o.guard = none) (s x : Operand) (t : TypeId) (ht : Try.prog.underlying t = some (.slice 70))
    (ho : o.op = .call { callee := .builtin .append, args := #[s, x], argTypes := #[t, t] })
    (T : Nat) (A : Option Addr) (m c : Nat) (l : List (Bool × Bool)) (B : Option Addr) (k d : Nat) (M : List (Bool × Bool)) (hs : a.eval s = .slice A m c) (hx : a.eval x = .slice B k d) (hO : OA w0 w T A m c l) (hR : Rs w none 2 atv B M) (hM : M.length = k) (h63 : m + k ≤ 4294967296)
    (h : ∀ A' c' w', OA w0 w' T A' (m + k) c' (l ++ M) → Fr w w' (fun b => (Value.slice A m c).ownBlock = some b) → K (a.put o.dst (.slice A' (m + k) c')) w') :
    if Region.wanted o (yielded ops a.tmps) = true then Oper.wp Try.prog o a w K Q else E := by
  refine step_append _ hgd s x t ho w0.heap.size 70 _ 2 2 ht info70 rfl (by omega) (.slice A m c) m l hs hO.own B k d M hx hR hM atv_len atv_one h63 (by omega) hO.fr.size ?_
  intro A' c' w' hown hgr _
  refine h A' c' w' ⟨hown, by simp [hO.len, hM], hO.fr.grown hgr ?_⟩ ⟨hgr.os, hgr.tape, hgr.output, hgr.size, fun k hk hS => hgr.block k hk (fun e => hS e.symm)⟩
  intro g hg
  exact .inl (hO.lo hg).1
theorem wl_app_atts {w0 w : World} {ops : Array Oper} {rest : List Oper} {o : Oper} {a : Act} {Q : Exit → Act → World → Prop} (hgd : o.guard = none) (s x : Operand) (t : TypeId) (ht : Try.prog.underlying t = some (.slice 70))
    (ho : o.op = .call { callee := .builtin .append, args := #[s, x], argTypes := #[t, t] })
    (T : Nat) (A : Option Addr) (m c : Nat) (l : List (Bool × Bool)) (B : Option Addr) (k d : Nat) (M : List (Bool × Bool)) (hs : a.eval s = .slice A m c) (hx : a.eval x = .slice B k d) (hO : OA w0 w T A m c l) (hR : Rs w none 2 atv B M) (hM : M.length = k) (h63 : m + k ≤ 4294967296)
    (h : ∀ A' c' w', OA w0 w' T A' (m + k) c' (l ++ M) → Fr w w' (fun b => (Value.slice A m c).ownBlock = some b) → wpList Try.prog ops Q rest (a.put o.dst (.slice A' (m + k) c')) w') :
    wpList Try.prog ops Q (o :: rest) a w := by
  refine wl_append _ hgd s x t ho w0.heap.size 70 _ 2 2 ht info70 rfl (by omega) (.slice A m c) m l hs hO.own B k d M hx hR hM atv_len atv_one h63 (by omega) hO.fr.size ?_
  intro A' c' w' hown hgr _
  refine h A' c' w' ⟨hown, by simp [hO.len, hM], hO.fr.grown hgr ?_⟩ ⟨hgr.os, hgr.tape, hgr.output, hgr.size, fun k hk hS => hgr.block k hk (fun e => hS e.symm)⟩
  intro g hg
  exact .inl (hO.lo hg).1
end Go.Proofs.Ytnokfhkcfebimaa

/- Plain laws of verdicts: what hides behind each. -/
namespace Go.Proofs.Ytnokfhkcfebimaa
open Go.RowKit

theorem pow_ge_one {r : Rat} (h : 1 ≤ r) : ∀ n : Nat, 1 ≤ r ^ n
  | 0 => by rw [Rat.pow_zero]; exact Rat.le_refl
  | n + 1 => by
    rw [Rat.pow_succ]
    have h1 := pow_ge_one h n
    have h0 : (0 : Rat) ≤ r ^ n := Rat.le_trans (by decide) h1
    have := Rat.mul_le_mul_of_nonneg_left h h0
    rw [Rat.mul_one] at this
    exact Rat.le_trans h1 this
theorem pow_le_one' {r : Rat} (h0 : 0 ≤ r) (h : r ≤ 1) : ∀ n : Nat, 0 ≤ r ^ n ∧ r ^ n ≤ 1
  | 0 => by rw [Rat.pow_zero]; exact ⟨by decide, Rat.le_refl⟩
  | n + 1 => by
    rw [Rat.pow_succ]
    obtain ⟨h1, h2⟩ := pow_le_one' h0 h n
    have := Rat.mul_le_mul_of_nonneg_left h h1
    rw [Rat.mul_one] at this
    exact ⟨Rat.mul_nonneg h1 h0, Rat.le_trans this h2⟩
theorem inv_gt_one {a : Rat} (h0 : 0 < a) (h1 : a < 1) : 1 < 1 / a := by
  refine Rat.not_le.1 (fun h => ?_)
  have h2 := Rat.mul_le_mul_of_nonneg_right h (Rat.le_of_lt h0)
  have h3 : (1 / a) * a = 1 := Rat.div_mul_cancel (fun h => by rw [h] at h0; exact absurd h0 (by decide))
  rw [h3, Rat.one_mul] at h2
  exact absurd h1 (Rat.not_lt.2 h2)
theorem dec_no_fail {s : Sv} {l h a b : Rat} {M : Nat} (hk : OKs s l h a b M) (p : Nat) : decQ l h a b p 0 ≠ 2 := by
  intro h2
  have h3 := decQ_flaky.1 h2
  unfold ratQ at h3
  rw [Rat.pow_zero, Rat.one_mul] at h3
  have h4 := (pow_le_one' (r := (1 - h) / (1 - l)) (div_nonneg' (Rat.le_of_lt hk.il.q0) (Rat.le_of_lt hk.ih.q0)) (div_le_one hk.il.q0 (by have := Rat.le_of_lt hk.lt; grind)) p).2
  exact absurd (inv_gt_one hk.ia.p hk.ia.q) (Rat.not_lt.2 (Rat.le_trans h3 h4))
theorem dec_no_pass {s : Sv} {l h a b : Rat} {M : Nat} (hk : OKs s l h a b M) (f : Nat) : decQ l h a b 0 f ≠ 1 := by
  intro h2
  have h3 := (decQ_stable.1 h2).2
  unfold ratQ at h3
  rw [Rat.pow_zero, Rat.mul_one] at h3
  have h4 := pow_ge_one (r := h / l) (one_le_div hk.il.p (Rat.le_of_lt hk.lt)) f
  exact absurd hk.ib.q (Rat.not_lt.2 (Rat.le_trans h4 h3))
/-- How many failed. -/
def cntF (xs : List (Bool × Bool)) : Nat := xs.countP (·.1)
/-- What a verdict says of the attempts used. -/
def Hides (M : Nat) (n : Nat) (r0 : Bool) (v : Int) (u F : Nat) : Prop :=
  u ≤ n ∧ 1 ≤ F ∧ ((v = 1 ∧ 2 ≤ F) ∨ (v = 2 ∧ F < u ∧ r0 = true) ∨ (v = 4 ∧ 2 ≤ u) ∨ (v = 3 ∧ u = M + 1) ∨ (v = 0 ∧ u = n))
theorem judL_hides {d : Nat → Nat → Int} {M : Nat} (hd1 : ∀ p, d p 0 ≠ 2) (hd2 : ∀ f, d 0 f ≠ 1) (r0 : Bool) : ∀ (t : List (Bool × Bool)) (k p f : Nat), k = p + f + 1 → p + f < M →
    k ≤ (judL (aftQ d M) r0 t k p f).2 ∧ Hides M (k + t.length) r0 (judL (aftQ d M) r0 t k p f).1 (judL (aftQ d M) r0 t k p f).2 (f + 1 + cntF (t.take ((judL (aftQ d M) r0 t k p f).2 - k)))
  | [], k, p, f, hk, _ => ⟨Nat.le_refl _, Nat.le_refl _, by omega, by simp [judL]⟩
  | (fl, rd) :: t, k, p, f, hk, hM => by
    have hln : k + ((fl, rd) :: t).length = (k + 1) + t.length := by rw [List.length_cons]; omega
    have hc : ∀ j, cntF (((fl, rd) :: t).take (j + 1)) = (if fl then 1 else 0) + cntF (t.take j) := fun j => by
      rw [List.take_succ_cons]
      unfold cntF
      cases fl <;> simp [List.countP_cons] <;> omega
    rw [judL, hln]
    by_cases h1 : rd ≠ r0
    · rw [if_pos h1]
      have h2 := hc 0
      dsimp only
      rw [show k + 1 - k = 0 + 1 by omega]
      exact ⟨by omega, by omega, by omega, .inr (.inr (.inl ⟨rfl, by omega⟩))⟩
    · rw [if_neg h1]
      have h1 : rd = r0 := Classical.not_not.1 h1
      by_cases h2 : rd = false
      · rw [if_pos h2]
        cases fl
        · simp only [Bool.false_eq_true, if_false]
          exact ⟨by omega, by omega, by omega, .inr (.inr (.inl ⟨rfl, by omega⟩))⟩
        · simp only [if_true]
          have h3 := hc 0
          rw [show k + 1 - k = 0 + 1 by omega, h3]
          exact ⟨by omega, by omega, by simp; omega, .inl ⟨rfl, by simp; omega⟩⟩
      · rw [if_neg h2]
        have hr : r0 = true := by rw [← h1]; simpa using h2
        have e : (if fl then p else p + 1) + (if fl then f + 1 else f) = p + f + 1 := by cases fl <;> simp <;> omega
        have e2 : (if fl then f + 1 else f) = f + (if fl then 1 else 0) := by cases fl <;> rfl
        obtain ⟨p', hp'⟩ : ∃ p', p' = (if fl then p else p + 1) := ⟨_, rfl⟩
        obtain ⟨f', hf'⟩ : ∃ f', f' = (if fl then f + 1 else f) := ⟨_, rfl⟩
        obtain ⟨z, hz⟩ : ∃ z : Nat, z = (if fl then 1 else 0) := ⟨_, rfl⟩
        rw [← hp', ← hf'] at e
        rw [← hf', ← hz] at e2
        rw [← hp', ← hf']
        by_cases h3 : aftQ d M p' f' = 0
        · rw [if_pos h3]
          have h4 := aft_go (by omega) h3
          obtain ⟨h5, h6, h7, h8⟩ := judL_hides hd1 hd2 r0 t (k + 1) p' f' (by omega) h4
          have h9 := hc ((judL (aftQ d M) r0 t (k + 1) p' f').2 - (k + 1))
          rw [← hz] at h9
          rw [show (judL (aftQ d M) r0 t (k + 1) p' f').2 - k = (judL (aftQ d M) r0 t (k + 1) p' f').2 - (k + 1) + 1 by omega, h9, show f + 1 + (z + cntF (t.take ((judL (aftQ d M) r0 t (k + 1) p' f').2 - (k + 1)))) = f' + 1 + cntF (t.take ((judL (aftQ d M) r0 t (k + 1) p' f').2 - (k + 1))) by omega]
          exact ⟨by omega, h6, h7, h8⟩
        · rw [if_neg h3]
          dsimp only
          have h4 := hc 0
          rw [← hz] at h4
          rw [show k + 1 - k = 0 + 1 by omega, h4]
          have h5 : cntF (t.take 0) = 0 := by simp [cntF]
          refine ⟨by omega, by omega, by omega, ?_⟩
          unfold aftQ at h3 ⊢
          by_cases h6 : d p' f' = 2
          · rw [if_pos h6]
            have : f' ≠ 0 := fun h0 => hd1 p' (by rw [← h0]; exact h6)
            exact .inl ⟨rfl, by omega⟩
          · rw [if_neg h6] at h3 ⊢
            by_cases h7 : d p' f' = 1
            · rw [if_pos h7]
              have : p' ≠ 0 := fun h0 => hd2 f' (by rw [← h0]; exact h7)
              exact .inr (.inl ⟨rfl, by omega, hr⟩)
            · rw [if_neg h7] at h3 ⊢
              by_cases h8 : p' + f' = M
              · rw [if_pos h8]
                exact .inr (.inr (.inr (.inl ⟨rfl, by omega⟩)))
              · rw [if_neg h8] at h3
                exact absurd rfl h3
theorem jud_hides {s : Sv} {l h a b : Rat} {M : Nat} (hk : OKs s l h a b M) (xs : List (Bool × Bool)) :
    ((jud (aftQ (decQ l h a b) M) xs).2 = 0 ∧ (jud (aftQ (decQ l h a b) M) xs).1 = 0 ∧ xs.length = 0) ∨
    ((jud (aftQ (decQ l h a b) M) xs).1 = 5 ∧ (jud (aftQ (decQ l h a b) M) xs).2 = 1 ∧ 1 ≤ xs.length ∧ cntF (xs.take 1) = 0) ∨
    ∃ r0, xs[0]? = some (true, r0) ∧ Hides M xs.length r0 (jud (aftQ (decQ l h a b) M) xs).1 (jud (aftQ (decQ l h a b) M) xs).2 (cntF (xs.take (jud (aftQ (decQ l h a b) M) xs).2)) := by
  cases xs with
  | nil => exact .inl ⟨rfl, rfl, rfl⟩
  | cons y t =>
    obtain ⟨fl, rd⟩ := y
    cases fl
    · exact .inr (.inl ⟨rfl, rfl, by simp, rfl⟩)
    · right; right
      refine ⟨rd, rfl, ?_⟩
      have h1 := judL_hides (M := M) (dec_no_fail hk) (dec_no_pass hk) rd t 1 0 0 rfl (by have := hk.m1; omega)
      have e : jud (aftQ (decQ l h a b) M) ((true, rd) :: t) = judL (aftQ (decQ l h a b) M) rd t 1 0 0 := rfl
      rw [e, List.length_cons]
      obtain ⟨h2, h3⟩ := h1
      have hc : cntF (((true, rd) :: t).take (judL (aftQ (decQ l h a b) M) rd t 1 0 0).2) = 0 + 1 + cntF (t.take ((judL (aftQ (decQ l h a b) M) rd t 1 0 0).2 - 1)) := by
        obtain ⟨j, hj⟩ : ∃ j, (judL (aftQ (decQ l h a b) M) rd t 1 0 0).2 = j + 1 := ⟨_, (Nat.sub_add_cancel h2).symm⟩
        rw [hj, List.take_succ_cons]
        unfold cntF
        rw [List.countP_cons]
        simp
        omega
      rw [hc, show t.length + 1 = 1 + t.length by omega]
      exact h3
end Go.Proofs.Ytnokfhkcfebimaa

/- Plain laws: how many further attempts can decide. -/
namespace Go.Proofs.Ytnokfhkcfebimaa
open Go.RowKit

theorem judL_zero {d : Nat → Nat → Int} {M : Nat} (r0 : Bool) : ∀ (t : List (Bool × Bool)) (k p f : Nat), (judL (aftQ d M) r0 t k p f).1 = 0 → p + f < M →
    (∀ x ∈ t, x.2 = r0) ∧ (t ≠ [] → r0 = true) ∧ p + f + t.length < M ∧ cntF t ≤ t.length ∧
      ∀ y, judL (aftQ d M) r0 (t ++ y) k p f = judL (aftQ d M) r0 y (k + t.length) (p + (t.length - cntF t)) (f + cntF t)
  | [], k, p, f, _, hM => ⟨by simp, by simp, by simpa using hM, by simp [cntF], fun y => by simp [cntF]⟩
  | (fl, rd) :: t, k, p, f, h, hM => by
    rw [judL] at h
    by_cases h1 : rd ≠ r0
    · rw [if_pos h1] at h; simp at h
    · rw [if_neg h1] at h
      have h1 : rd = r0 := Classical.not_not.1 h1
      by_cases h2 : rd = false
      · rw [if_pos h2] at h
        cases fl <;> simp at h
      · rw [if_neg h2] at h
        have hr : r0 = true := by rw [← h1]; simpa using h2
        obtain ⟨z, hz, hz1⟩ : ∃ z : Nat, z = (if fl then 1 else 0) ∧ z ≤ 1 := ⟨_, rfl, by cases fl <;> simp⟩
        have ep : (if fl then p else p + 1) = p + (1 - z) := by rw [hz]; cases fl <;> rfl
        have ef : (if fl then f + 1 else f) = f + z := by rw [hz]; cases fl <;> rfl
        rw [ep, ef] at h
        by_cases h3 : aftQ d M (p + (1 - z)) (f + z) = 0
        · rw [if_pos h3] at h
          have h4 := aft_go (by omega) h3
          obtain ⟨h5, -, h6, h7, h8⟩ := judL_zero r0 t (k + 1) _ _ h h4
          have hc : cntF ((fl, rd) :: t) = z + cntF t := by
            unfold cntF
            rw [hz]
            cases fl <;> simp [List.countP_cons] <;> omega
          refine ⟨fun x hx => ?_, fun _ => hr, by rw [List.length_cons]; omega, by rw [hc, List.length_cons]; omega, fun y => ?_⟩
          · rcases List.mem_cons.1 hx with rfl | hx
            · exact h1
            · exact h5 x hx
          · rw [List.cons_append, judL, if_neg (by simp [h1]), if_neg h2, ep, ef, if_pos h3, h8, hc, List.length_cons]
            rw [show k + 1 + t.length = k + (t.length + 1) by omega, show p + (1 - z) + (t.length - cntF t) = p + (t.length + 1 - (z + cntF t)) by omega, show f + z + cntF t = f + (z + cntF t) by omega]
        · rw [if_neg h3] at h; exact absurd h h3
/-- m further runs, all alike, can decide, and no fewer. -/
def lstP (g : Nat → Nat → Int) (p f m : Nat) : Prop := 1 ≤ m ∧ (g (p + m) f ≠ 0 ∨ g p (f + m) ≠ 0) ∧ ∀ j, 1 ≤ j → j < m → g (p + j) f = 0 ∧ g p (f + j) = 0
/-- What Least returns. -/
def IsLv (g : Nat → Nat → Int) (M : Nat) (xs : List (Bool × Bool)) (L : Nat) : Prop :=
  ((jud g xs).1 ≠ 0 ∧ L = 0) ∨
  ((jud g xs).1 = 0 ∧ xs = [] ∧ L = 1) ∨
  ((jud g xs).1 = 0 ∧ xs = [(true, false)] ∧ L = 1) ∨
  ∃ (t : List (Bool × Bool)), (jud g xs).1 = 0 ∧ xs = (true, true) :: t ∧ cntF t ≤ t.length ∧ t.length < M ∧ lstP g (t.length - cntF t) (cntF t) L ∧ (∀ x ∈ t, x.2 = true) ∧
    ∀ y, jud g (xs ++ y) = judL g true y (1 + t.length) (t.length - cntF t) (cntF t)
theorem jud_zero {d : Nat → Nat → Int} {M : Nat} (hM : 1 ≤ M) {xs : List (Bool × Bool)} (h : (jud (aftQ d M) xs).1 = 0) :
    xs = [] ∨ xs = [(true, false)] ∨ ∃ t, xs = (true, true) :: t ∧ cntF t ≤ t.length ∧ t.length < M ∧ (∀ x ∈ t, x.2 = true) ∧ ∀ y, jud (aftQ d M) (xs ++ y) = judL (aftQ d M) true y (1 + t.length) (t.length - cntF t) (cntF t) := by
  cases xs with
  | nil => exact .inl rfl
  | cons x t =>
    obtain ⟨fl, rd⟩ := x
    cases fl
    · simp [jud] at h
    · have e : ∀ t, jud (aftQ d M) ((true, rd) :: t) = judL (aftQ d M) rd t 1 0 0 := fun t => rfl
      rw [e] at h
      obtain ⟨h1, h2, h3, h4, h5⟩ := judL_zero rd t 1 0 0 h (by omega)
      cases rd
      · cases t with
        | nil => exact .inr (.inl rfl)
        | cons y t => exact absurd (h2 (by simp)) (by simp)
      · refine .inr (.inr ⟨t, rfl, h4, by omega, h1, fun y => ?_⟩)
        rw [List.cons_append, e, h5 y]
        simp
theorem aft_last {d : Nat → Nat → Int} {M p f : Nat} (h : p + f = M) : aftQ d M p f ≠ 0 := fun h0 => by
  have := aft_go (Nat.le_of_eq h) h0
  omega
end Go.Proofs.Ytnokfhkcfebimaa

/- Contract: rerun.Least. -/
namespace Go.Proofs.Ytnokfhkcfebimaa
open Go.RowKit

theorem wrapS {a b : Nat} (h : a + b ≤ 100) : wrap64 ((a : Int) + (b : Int)) = (a : Int) + (b : Int) := IntWalk.wrap64_in _ ⟨by omega, by omega⟩

theorem wrapP {p : Nat} (h : p ≤ 100) : wrap64 (p : Int) = (p : Int) := IntWalk.wrap64_in _ ⟨by omega, by omega⟩

set_option maxRecDepth 100000 in
set_option maxHeartbeats 16000000 in
theorem vleast_run (w : World) (s : Sv) (l hh a b : Rat) (M : Nat) (A : Option Addr) (n c : Nat) (t : List (Bool × Bool)) (u : Nat) (G : Nat → Nat → Int) (HC : Hid (vckE s n = 0)) (hq : SQ w s) (hk0 : OKs s l hh a b M) (hR : Rs w none 2 atv A ((true, true) :: t)) (hl : ((true, true) :: t).length = n) (hn : n ≤ 33) (hnc : n ≤ c) (HG : Hid (G = aftQ (decQ l hh a b) M)) (HT : Hid ((0, u) = jud G ((true, true) :: t)))
    (ht1 : cntF t ≤ t.length) (ht2 : t.length < M) (ht3 : ∀ x ∈ t, x.2 = true) (ht4 : ∀ y, jud G ((true, true) :: t ++ y) = judL G true y (1 + t.length) (t.length - cntF t) (cntF t)) :
    Calls Try.prog 46 #[.agg #[.slice s.l.A s.l.n s.l.c, .slice s.l.B s.l.m s.l.d, .slice s.h.A s.h.n s.h.c, .slice s.h.B s.h.m s.h.d, .slice s.a.A s.a.n s.a.c, .slice s.a.B s.a.m s.a.d, .slice s.b.A s.b.n s.b.c, .slice s.b.B s.b.m s.b.d, .int .i64 s.m], .slice A n c] w fun e w' => ∃ L : Nat, e = .returned (.tuple #[.int .i64 (L : Int), .int .i64 0]) ∧ IsLv G M ((true, true) :: t) L ∧ Below w.heap.size w w' := by
  have HQ := hide hq
  have HK := hide hk0
  have HR := hide hR
  have HL := hide hl
  clear hq hk0 hR hl
  obtain ⟨k, hk⟩ : ∃ k, k = t.length := ⟨_, rfl⟩
  obtain rfl : n = k + 1 := by have := HL.out; rw [hk]; simpa using this.symm
  obtain ⟨bb, o, rfl, hb0, -, e1⟩ := atts_at HR.out (k := 0) rfl
  simp only [Nat.zero_mul, Nat.add_zero] at e1
  have hel : ∀ (j : Nat) (x : Bool × Bool), t[j]? = some x → w.cell? ⟨bb, o + 2 + j * 2, none⟩ = some (.bool x.1) ∧ w.cell? ⟨bb, o + 2 + j * 2 + 1, none⟩ = some (.bool x.2) := fun j x hx => by
    obtain ⟨b', o', h1, h2, h3, h4⟩ := atts_at HR.out (k := j + 1) (x := x) (by simpa using hx)
    obtain ⟨rfl, rfl⟩ : bb = b' ∧ o = o' := by simpa using h1
    rw [show o + (j + 1) * 2 = o + 2 + j * 2 by omega] at h3 h4
    exact ⟨h3, h4⟩
  have HEL := hide hel
  have HKT := hide hk
  have h1c : (1 : Int) ≤ (c : Int) := by omega
  have HTT := hide (show cntF t ≤ t.length ∧ t.length < M ∧ (∀ x ∈ t, x.2 = true) ∧ ∀ y, jud G ((true, true) :: t ++ y) = judL G true y (1 + t.length) (t.length - cntF t) (cntF t) from ⟨ht1, ht2, ht3, ht4⟩)
  have hkM : k < M := by omega
  have hM32 := HK.out.m2
  clear hel hk ht1 ht2 ht3 ht4
  go_enter Try.func46, Try.ntmps46
  go_upto_region 1 with (fail)
  generalize hW : World.alloc w _ = v
  have HF := hide (show FS w v w.heap.size s by rw [← hW]; exact FS.mk0 HQ.out _)
  obtain ⟨a0, a1, a2, a3, a4, a5, a6, a7, a8, a9⟩ := HF.out.ca
  clear hW
  go_wp2_with (first | (go_at_call 81; (with_reducible refine (vcheck_any _ s _ _ c HF.out.q).mono ?_); rintro e w1 ⟨rfl, hb⟩; rw [HC.out]; have HF1 := hide (HF.out.below hb); obtain ⟨b0, b1, b2, b3, b4, b5, b6, b7, b8, b9⟩ := HF1.out.ca; clear hb) | (go_at_call 82; (with_reducible refine (vjudge_ok _ s l hh a b M _ _ c _ HF1.out.q HK.out (HR.out.below HF1.out.bw) HL.out hn).mono ?_); rintro e w2 ⟨rfl, hb⟩; rw [← HG.out, ← HT.out]; have HF2 := hide (HF1.out.below hb); obtain ⟨c0, c1, c2, c3, c4, c5, c6, c7, c8, c9⟩ := HF2.out.ca; have j1 : w2.cell? ⟨bb, o + 1, none⟩ = some (.bool true) := (HF2.out.bw.cell (by simpa using hb0)).trans e1; clear hb))
  all_goals
    clear c0 c1 c2 c3 c4 c5 c6 c7 c8 c9
    go_loopw [9, 41] (fun fv jv wr => ∃ (f j : Nat), fv = .int .i64 (f : Int) ∧ jv = .int .i64 (j : Int) ∧ j ≤ k ∧ f ≤ j ∧ Hid (f = cntF (t.take j)) ∧ Hid (Below w2.heap.size w2 wr)) (fun _ jv _ => k - (intOf jv).toNat)
    case atStart => exact ⟨0, 0, rfl, rfl, by omega, by omega, hide (by simp [cntF]), hide (Below.refl _ _)⟩
    case round =>
      obtain ⟨f, j, rfl, rfl, hjk, hfj, HCN, HBr⟩ := hrel
      have HFr := hide (HF2.out.below HBr.out)
      by_cases hjq : j = k
      · have hle : decide ((j : Int) < (k : Int)) = false := decide_eq_false (by omega)
        have hle2 : (k : Int) ≤ (j : Int) := by omega
        have hle3 : decide (j < k) = false := decide_eq_false (by omega)
        have HCK := hide (show f = cntF t by rw [HCN.out, hjq, HKT.out, List.take_of_length_le (Nat.le_refl _)])
        obtain ⟨p, hp⟩ : ∃ p, p = k - f := ⟨_, rfl⟩
        have hpf : p + f = k := by omega
        have e1 : (k : Int) - (f : Int) = (p : Int) := by omega
        have e2 : (k : Int) + 1 - 1 = (k : Int) := by omega
        have hp100 : p ≤ 100 := by omega
        have hk100 : k ≤ 100 := by omega
        have hpf32 : p + f < 32 := by omega
        have hf32 : f ≤ 32 := by omega
        have HNM := hide (show p + f = k ∧ k < M ∧ M ≤ 32 from ⟨hpf, hkM, hM32⟩)
        clear hpf hkM hM32 hjk hfj hnc h1c hle2
        have hw5 : wrap64 (p : Int) = (p : Int) := wrapP hp100
        have hw1 : wrap64 ((k : Int) - (f : Int)) = (p : Int) := by rw [e1]; exact wrapP hp100
        have hw2 : wrap64 ((k : Int) + 1 - 1) = (k : Int) := by rw [e2]; exact wrapP hk100
        have hle2 : (k : Int) ≤ (j : Int) := by rw [hjq]; exact Int.le_refl _
        clear e2
        have HPF := hide hp
        clear hjq hp
        go_wp2_with fail
        clear hw1 hw2 hw5 e1
        clear hle hle2 hle3 HEL HCN
        go_loopw [13] (fun mv wr => ∃ (m : Nat), mv = .int .i64 (m : Int) ∧ m ≤ 32 ∧ Hid (1 ≤ m ∧ p + f + m ≤ M) ∧ Hid (∀ j, 1 ≤ j → j < m → G (p + j) f = 0 ∧ G p (f + j) = 0) ∧ Hid (Below w2.heap.size w2 wr)) (fun mv _ => M - (intOf mv).toNat)
        case atStart => exact ⟨1, rfl, by omega, hide ⟨by omega, by have := HNM.out; omega⟩, hide (fun j h1 h2 => by omega), HBr⟩
        case round =>
          obtain ⟨m, rfl, hm32, HMM, HLO, HBq⟩ := hrel
          have HFq := hide (HF2.out.below HBq.out)
          obtain ⟨d0, d1, d2, d3, d4, d5, d6, d7, d8, d9⟩ := HFq.out.ca
          obtain ⟨q1, hq1⟩ : ∃ q : Nat, q = p + m := ⟨_, rfl⟩
          obtain ⟨q2, hq2⟩ : ∃ q : Nat, q = f + m := ⟨_, rfl⟩
          have HC1 := hide (show ∀ W, SQ W s → Calls Try.prog 84 #[.agg #[.slice s.l.A s.l.n s.l.c, .slice s.l.B s.l.m s.l.d, .slice s.h.A s.h.n s.h.c, .slice s.h.B s.h.m s.h.d, .slice s.a.A s.a.n s.a.c, .slice s.a.B s.a.m s.a.d, .slice s.b.A s.b.n s.b.c, .slice s.b.B s.b.m s.b.d, .int .i64 s.m], .int .i64 ((p : Int) + (m : Int)), .int .i64 (f : Int)] W fun e w' => e = .returned (.int .i64 (G q1 f)) ∧ Below W.heap.size W w' from fun W hW => by
            have := vafter_ok W s l hh a b M q1 f hW HK.out (by have := HMM.out; omega)
            rwa [← HG.out, hq1, Int.natCast_add, ← hq1] at this)
          have HC2 := hide (show ∀ W, SQ W s → Calls Try.prog 84 #[.agg #[.slice s.l.A s.l.n s.l.c, .slice s.l.B s.l.m s.l.d, .slice s.h.A s.h.n s.h.c, .slice s.h.B s.h.m s.h.d, .slice s.a.A s.a.n s.a.c, .slice s.a.B s.a.m s.a.d, .slice s.b.A s.b.n s.b.c, .slice s.b.B s.b.m s.b.d, .int .i64 s.m], .int .i64 (p : Int), .int .i64 ((f : Int) + (m : Int))] W fun e w' => e = .returned (.int .i64 (G p q2)) ∧ Below W.heap.size W w' from fun W hW => by
            have := vafter_ok W s l hh a b M p q2 hW HK.out (by have := HMM.out; omega)
            rwa [← HG.out, hq2, Int.natCast_add, ← hq2] at this)
          have HIS := hide (show (G q1 f ≠ 0 ∨ G p q2 ≠ 0) → IsLv G M ((true, true) :: t) m from fun hd =>
            .inr (.inr (.inr ⟨t, by rw [← HT.out], rfl, HTT.out.1, HTT.out.2.1, by rw [← HKT.out, ← HCK.out, ← HPF.out]; exact ⟨HMM.out.1, by rwa [← hq1, ← hq2], HLO.out⟩, HTT.out.2.2.1, HTT.out.2.2.2⟩)))
          have HNX := hide (show G q1 f = 0 → p + f + m + 1 ≤ M from fun h0 => by
            have := aft_go (d := decQ l hh a b) (M := M) (p := q1) (f := f) (by have := HMM.out; omega) (by rw [← HG.out]; exact h0)
            omega)
          have HQE := hide (show q1 = p + m ∧ q2 = f + m from ⟨hq1, hq2⟩)
          obtain ⟨x1, hx1⟩ : ∃ x, x = G q1 f := ⟨_, rfl⟩
          obtain ⟨x2, hx2⟩ : ∃ x, x = G p q2 := ⟨_, rfl⟩
          rw [← hx1] at HC1 HIS HNX
          rw [← hx2] at HC2 HIS
          have HX := hide (And.intro hx1 hx2)
          clear hx1 hx2 hq1 hq2
          by_cases h1 : x1 = 0
          · subst h1
            by_cases h2 : x2 = 0
            · subst h2
              skip
              go_wp2_with (first
                | (go_at_call 84; (with_reducible refine (HC2.out _ HF5.out.q).mono ?_); rintro e w6 ⟨rfl, hb⟩; have HB6 := hide (HB5.out.trans (hb.mono HB5.out.size)); clear hb)
                | (go_at_call 84; (with_reducible refine (HC1.out _ HFq.out.q).mono ?_); rintro e w5 ⟨rfl, hb⟩; have HB5 := hide (HBq.out.trans (hb.mono HBq.out.size)); have HF5 := hide (HFq.out.below hb); obtain ⟨e0, e1, e2, e3, e4, e5, e6, e7, e8, e9⟩ := HF5.out.ca; clear hb))
              go_roundw
              case rel => exact ⟨m + 1, by go_num, by have := HNX.out trivial; have := HQE.out; have := HNM.out; omega, hide (by have := HNX.out trivial; have := HQE.out; have := HMM.out; omega), hide (fun i h3 h4 => by
                by_cases h5 : i = m
                · rw [h5, ← HQE.out.1, ← HQE.out.2]; exact ⟨HX.out.1.symm, HX.out.2.symm⟩
                · exact HLO.out i h3 (by have := HQE.out; omega)), HB6⟩
              case measure => have h8 := HNX.out trivial; have h9 := HQE.out; simp [intOf] <;> omega
            · have z1 : (x2 == 0) = false := by simp [h2]
              have z2 : decide (x2 = 0) = false := decide_eq_false h2
              skip
              go_wp2_with (first
                | (go_at_call 84; (with_reducible refine (HC2.out _ HF5.out.q).mono ?_); rintro e w6 ⟨rfl, hb⟩; have HB6 := hide (HF5.out.bw.trans (hb.mono HF5.out.bw.size)); clear hb)
                | (go_at_call 84; (with_reducible refine (HC1.out _ HFq.out.q).mono ?_); rintro e w5 ⟨rfl, hb⟩; have HF5 := hide (HFq.out.below hb); obtain ⟨e0, e1, e2, e3, e4, e5, e6, e7, e8, e9⟩ := HF5.out.ca; clear hb))
              refine bodyPost_ret (v := .tuple #[.int .i64 (m : Int), .int .i64 0]) (by simp [results, Try.results46, go_sem, *]) rfl ⟨m, rfl, HIS.out (.inr h2), HB6.out⟩
          · have z1 : (x1 == 0) = false := by simp [h1]
            have z2 : decide (x1 = 0) = false := decide_eq_false h1
            skip
            go_wp2_with (go_at_call 84; (with_reducible refine (HC1.out _ HFq.out.q).mono ?_); rintro e w5 ⟨rfl, hb⟩; have HF5 := hide (HFq.out.below hb); obtain ⟨e0, e1, e2, e3, e4, e5, e6, e7, e8, e9⟩ := HF5.out.ca; clear hb)
            refine bodyPost_ret (v := .tuple #[.int .i64 (m : Int), .int .i64 0]) (by simp [results, Try.results46, go_sem, *]) rfl ⟨m, rfl, HIS.out (.inl h1), HF5.out.bw⟩
      · have hlt : decide ((j : Int) < (k : Int)) = true := decide_eq_true (by omega)
        have hlt2 : (j : Int) < (k : Int) := by omega
        have hjl : j < t.length := by have := HKT.out; omega
        have hx := List.getElem?_eq_getElem hjl
        obtain ⟨x1, x2, hxx⟩ : ∃ x1 x2, t[j] = (x1, x2) := ⟨_, _, rfl⟩
        rw [hxx] at hx
        obtain ⟨y1, y2⟩ := HEL.out j (x1, x2) hx
        have i1 : wr.cell? ⟨bb, o + 2 + j * 2, none⟩ = some (.bool x1) := (HFr.out.bw.cell (by simpa using hb0)).trans y1
        have i2 : wr.cell? ⟨bb, o + 2 + j * 2 + 1, none⟩ = some (.bool x2) := (HFr.out.bw.cell (by simpa using hb0)).trans y2
        have i3 : bb < wr.heap.size := Nat.lt_of_lt_of_le hb0 HFr.out.bw.size
        have HCN2 := hide (show f + (if x1 then 1 else 0) = cntF (t.take (j + 1)) by
          rw [List.take_add_one, hx, HCN.out]
          unfold cntF
          rw [List.countP_append]
          cases x1 <;> rfl)
        have hj0 : (0 : Int) ≤ (j : Int) := by omega
        clear hx hxx y1 y2
        first
          | (exfalso; omega)
          | (cases x1
             · go_wp2_with fail
               go_roundw
               case rel => exact ⟨f, j + 1, rfl, by go_num, by omega, by omega, hide (by simpa using HCN2.out), hide (HBr.out.alloc HBr.out.size _)⟩
               case measure => simp [intOf] <;> omega
             · go_wp2_with fail
               go_roundw
               case rel => exact ⟨f + 1, j + 1, by go_num, by go_num, by omega, by omega, hide (by simpa using HCN2.out), hide (HBr.out.alloc HBr.out.size _)⟩
               case measure => simp [intOf] <;> omega)
set_option maxRecDepth 100000 in
set_option maxHeartbeats 16000000 in
theorem vleast_ok (w : World) (s : Sv) (l hh a b : Rat) (M : Nat) (A : Option Addr) (n c : Nat) (xs : List (Bool × Bool)) (hq : SQ w s) (hk : OKs s l hh a b M) (hR : Rs w none 2 atv A xs) (hl : xs.length = n) (hn : n ≤ 33) (hnc : n ≤ c) :
    Calls Try.prog 46 #[.agg #[.slice s.l.A s.l.n s.l.c, .slice s.l.B s.l.m s.l.d, .slice s.h.A s.h.n s.h.c, .slice s.h.B s.h.m s.h.d, .slice s.a.A s.a.n s.a.c, .slice s.a.B s.a.m s.a.d, .slice s.b.A s.b.n s.b.c, .slice s.b.B s.b.m s.b.d, .int .i64 s.m], .slice A n c] w fun e w' => ∃ L : Nat, e = .returned (.tuple #[.int .i64 (L : Int), .int .i64 0]) ∧ IsLv (aftQ (decQ l hh a b) M) M xs L ∧ Below w.heap.size w w' := by
  have HC := hide (show vckE s n = 0 by unfold vckE; rw [if_neg (by rw [hk.ok]; simp), if_neg (by omega)])
  have HQ := hide hq
  have HK := hide hk
  have HR := hide hR
  have HL := hide hl
  obtain ⟨G, hG⟩ : ∃ G, G = aftQ (decQ l hh a b) M := ⟨_, rfl⟩
  have hz := fun h0 => jud_zero (d := decQ l hh a b) (M := M) hk.m1 (xs := xs) h0
  rw [← hG] at hz ⊢
  obtain ⟨T, hT⟩ : ∃ T, T = jud G xs := ⟨_, rfl⟩
  rw [← hT] at hz
  have HT := hide hT
  have HG := hide hG
  clear hq hk hR hl hT hG
  obtain ⟨r, u⟩ := T
  by_cases hr : r = 0
  · subst hr
    rcases hz rfl with rfl | rfl | ⟨t, rfl, ht1, ht2, ht3, ht4⟩
    · obtain rfl : n = 0 := by have := HL.out; simpa using this.symm
      clear hz
      go_enter Try.func46, Try.ntmps46
      go_upto_region 1 with (fail)
      generalize hW : World.alloc w _ = v
      have HF := hide (show FS w v w.heap.size s by rw [← hW]; exact FS.mk0 HQ.out _)
      obtain ⟨a0, a1, a2, a3, a4, a5, a6, a7, a8, a9⟩ := HF.out.ca
      clear hW
      go_wp2_with (first | (go_at_call 81; (with_reducible refine (vcheck_any _ s _ _ _ HF.out.q).mono ?_); rintro e w1 ⟨rfl, hb⟩; rw [HC.out]; have HF1 := hide (HF.out.below hb); obtain ⟨b0, b1, b2, b3, b4, b5, b6, b7, b8, b9⟩ := HF1.out.ca; clear hb) | (go_at_call 82; (with_reducible refine (vjudge_ok _ s l hh a b M _ _ _ _ HF1.out.q HK.out (HR.out.below HF1.out.bw) HL.out hn).mono ?_); rintro e w2 ⟨rfl, hb⟩; rw [← HG.out, ← HT.out]; have HF2 := hide (HF1.out.below hb); obtain ⟨c0, c1, c2, c3, c4, c5, c6, c7, c8, c9⟩ := HF2.out.ca; clear hb))
      refine bodyPost_ret (v := .tuple #[.int .i64 1, .int .i64 0]) (by simp [results, Try.results46, go_sem, *]) rfl ⟨1, rfl, .inr (.inl ⟨by rw [← HT.out], rfl, rfl⟩), HF2.out.bw⟩
    · obtain rfl : n = 1 := by have := HL.out; simpa using this.symm
      obtain ⟨bb, o, rfl, hb0, e0, e1⟩ := atts_at HR.out (k := 0) rfl
      simp only [Nat.zero_mul, Nat.add_zero] at e0 e1
      clear hz
      go_enter Try.func46, Try.ntmps46
      go_upto_region 1 with (fail)
      generalize hW : World.alloc w _ = v
      have HF := hide (show FS w v w.heap.size s by rw [← hW]; exact FS.mk0 HQ.out _)
      obtain ⟨a0, a1, a2, a3, a4, a5, a6, a7, a8, a9⟩ := HF.out.ca
      clear hW
      go_wp2_with (first | (go_at_call 81; (with_reducible refine (vcheck_any _ s _ 1 c HF.out.q).mono ?_); rintro e w1 ⟨rfl, hb⟩; rw [HC.out]; have HF1 := hide (HF.out.below hb); obtain ⟨b0, b1, b2, b3, b4, b5, b6, b7, b8, b9⟩ := HF1.out.ca; clear hb) | (go_at_call 82; (with_reducible refine (vjudge_ok _ s l hh a b M _ 1 c _ HF1.out.q HK.out (HR.out.below HF1.out.bw) HL.out hn).mono ?_); rintro e w2 ⟨rfl, hb⟩; rw [← HG.out, ← HT.out]; have HF2 := hide (HF1.out.below hb); obtain ⟨c0, c1, c2, c3, c4, c5, c6, c7, c8, c9⟩ := HF2.out.ca; have j1 : w2.cell? ⟨bb, o + 1, none⟩ = some (.bool false) := (HF2.out.bw.cell (by simpa using hb0)).trans e1; clear hb))
      refine bodyPost_ret (v := .tuple #[.int .i64 1, .int .i64 0]) (by simp [results, Try.results46, go_sem, *]) rfl ⟨1, rfl, .inr (.inr (.inl ⟨by rw [← HT.out], rfl, rfl⟩)), HF2.out.bw⟩
    · exact vleast_run w s l hh a b M A n c t u G HC HQ.out HK.out HR.out HL.out hn hnc HG HT ht1 ht2 ht3 ht4
  · clear hz
    have z1 : (r != 0) = true := by simpa using hr
    have z2 : (r == 0) = false := by simp [hr]
    go_enter Try.func46, Try.ntmps46
    go_upto_region 1 with (fail)
    generalize hW : World.alloc w _ = v
    have HF := hide (show FS w v w.heap.size s by rw [← hW]; exact FS.mk0 HQ.out _)
    obtain ⟨a0, a1, a2, a3, a4, a5, a6, a7, a8, a9⟩ := HF.out.ca
    clear hW
    go_wp2_with (first | (go_at_call 81; (with_reducible refine (vcheck_any _ s _ _ _ HF.out.q).mono ?_); rintro e w1 ⟨rfl, hb⟩; rw [HC.out]; have HF1 := hide (HF.out.below hb); obtain ⟨b0, b1, b2, b3, b4, b5, b6, b7, b8, b9⟩ := HF1.out.ca; clear hb) | (go_at_call 82; (with_reducible refine (vjudge_ok _ s l hh a b M _ _ _ _ HF1.out.q HK.out (HR.out.below HF1.out.bw) HL.out hn).mono ?_); rintro e w2 ⟨rfl, hb⟩; rw [← HG.out, ← HT.out]; have HF2 := hide (HF1.out.below hb); obtain ⟨c0, c1, c2, c3, c4, c5, c6, c7, c8, c9⟩ := HF2.out.ca; clear hb))
    refine bodyPost_ret (v := .tuple #[.int .i64 0, .int .i64 0]) (by simp [results, Try.results46, go_sem, *]) rfl ⟨0, rfl, .inl ⟨by rw [← HT.out]; exact hr, rfl⟩, HF2.out.bw⟩
end Go.Proofs.Ytnokfhkcfebimaa

/- A drawn region whose first operations all come up before the others, one waiting for the other. -/
namespace Go.Proofs.Ytnokfhkcfebimaa
open Go.RowKit

section
variable {P : Program} {md : Region.Mode} {ops : Array Oper} {Q : Exit → Act → World → Prop}

/-- Each operation waits for earlier ones alone; those behind the first m wait for all of these, if only one by way of the other. -/
def lowB2 (md : Region.Mode) (ops : Array Oper) (m : Nat) : Bool :=
  (List.range ops.size).all fun i => match ops[i]? with
    | some o => (o.after.all fun e => !Region.binds md e || decide (e.on < i)) && (decide (i < m) || (o.after.any fun e => Region.binds md e && decide (m ≤ e.on)) || ((List.range m).all fun j => (o.after.any fun e => Region.binds md e && decide (e.on = j)) || (List.range m).any fun k => decide (j < k) && (match ops[k]? with | some o' => o'.after.any fun e => Region.binds md e && decide (e.on = j) | none => false)))
    | none => true
theorem live_low2 {m : Nat} (hm : m ≤ ops.size) (h : lowB2 md ops m = true) : liveB md ops m = true := by
  unfold liveB
  rw [List.all_eq_true]
  intro l hl
  have hlen := masks_len hl
  have hlo : l.length ≤ ops.size := by omega
  cases hall : (List.range m).all (fun i => (fun _ : Nat => false) i || l.getD i false) with
  | true => rfl
  | false =>
    rw [Bool.false_or]
    cases hcl : closedB md ops l with
    | false => rfl
    | true =>
      rw [Bool.not_true, Bool.false_or]
      have hall' : (List.range m).all (fun i => l.getD i false) = false := by simpa using hall
      obtain ⟨i, him, hif, hil⟩ := least_false hall'
      have hlow : ∀ j o, ops[j]? = some o → (∀ e ∈ o.after, Region.binds md e = true → e.on < j) ∧ (j < m ∨ (∃ e ∈ o.after, Region.binds md e = true ∧ m ≤ e.on) ∨ ∀ k, k < m → (∃ e ∈ o.after, Region.binds md e = true ∧ e.on = k) ∨ ∃ k' o', k < k' ∧ k' < m ∧ ops[k']? = some o' ∧ ∃ e ∈ o'.after, Region.binds md e = true ∧ e.on = k) := by
        intro j o ho
        have hj : j < ops.size := (Array.getElem?_eq_some_iff.1 ho).1
        have := List.all_eq_true.1 h j (by simpa using hj)
        rw [ho] at this
        simp only [Bool.and_eq_true, Bool.or_eq_true, decide_eq_true_eq, Array.all_eq_true_iff_forall_mem, Array.any_eq_true', List.all_eq_true, List.any_eq_true, List.mem_range] at this
        refine ⟨fun e he hb => ?_, by
          rcases this.2 with (h1 | h1) | h1
          · exact .inl h1
          · exact .inr (.inl h1)
          · refine .inr (.inr (fun k hk => ?_))
            rcases h1 k hk with h3 | ⟨k', h3, h4, h5⟩
            · exact .inl h3
            · cases ho' : ops[k']? with
              | none => rw [ho'] at h5; simp at h5
              | some o' =>
                rw [ho'] at h5
                simp only [Array.any_eq_true', Bool.and_eq_true, decide_eq_true_eq] at h5
                exact .inr ⟨k', o', h4, h3, ho', h5⟩⟩
        have h2 := this.1 e he
        simpa [hb] using h2
      have hr : i ∈ Region.ready md ops (lst ops l) := by
        refine mem_ready.2 ⟨?_, ops[i]'(by omega), by simp, fun e he hb => ?_⟩
        · rw [Array.getD_eq_getD_getElem?, lst_get (by omega) hlo]; exact hif
        · have h1 := (hlow i _ (by simp : ops[i]? = some (ops[i]'(by omega)))).1 e he hb
          rw [Array.getD_eq_getD_getElem?, lst_get (by omega) hlo]; exact hil _ h1
      have hne : (Region.ready md ops (lst ops l)).isEmpty = false := by
        cases he : Region.ready md ops (lst ops l) with
        | nil => rw [he] at hr; simp at hr
        | cons a b => rfl
      rw [hne]
      simp only [Bool.not_false, Bool.true_and, List.all_eq_true, decide_eq_true_eq]
      intro j hj
      obtain ⟨hun, o, ho, hdep⟩ := mem_ready.1 hj
      rcases (hlow j o ho).2 with h1 | ⟨e, he, hb, hme⟩ | h1
      · exact h1
      · exfalso
        have h2 := hdep e he hb
        rw [Array.getD_eq_getD_getElem?] at h2
        by_cases hlo2 : e.on < ops.size
        · rw [lst_get hlo2 hlo, List.getD_eq_getElem?_getD, List.getElem?_eq_none (by omega)] at h2
          simp at h2
        · have : (lst ops l)[e.on]? = none := by
            unfold lst
            rw [List.getElem?_toArray, List.getElem?_eq_none (by simp; omega)]
          rw [this] at h2; simp at h2
      · exfalso
        have hcl' : ∀ k o', ops[k]? = some o' → k < m → l.getD k false = true → ∀ e ∈ o'.after, Region.binds md e = true → l.getD e.on false = true := by
          intro k o' ho' hk hlk e he hb
          have h5 := List.all_eq_true.1 hcl k (by simpa [hlen] using hk)
          rw [ho', hlk] at h5
          simp only [Bool.not_true, Bool.false_or, Array.all_eq_true_iff_forall_mem] at h5
          have h6 := h5 e he
          simpa [hb] using h6
        have hdone : ∀ d k, m - k = d → k < m → l.getD k false = true := by
          intro d
          induction d using Nat.strongRecOn with
          | _ d ih =>
            intro k hd hk
            rcases h1 k hk with ⟨e, he, hb, hei⟩ | ⟨k', o', hkk, hk', ho', e, he, hb, hei⟩
            · have h2 := hdep e he hb
              rwa [Array.getD_eq_getD_getElem?, lst_get (by omega) hlo, hei, Option.getD_some] at h2
            · have h2 := ih (m - k') (by omega) k' rfl hk'
              have h3 := hcl' k' o' ho' hk' h2 e he hb
              rwa [hei] at h3
        have h9 := hdone (m - i) i rfl him
        rw [hif] at h9
        exact absurd h9 (by simp)

section
variable {P : Program} {md : Region.Mode} {ops : Array Oper} {Q : Exit → Act → World → Prop}
theorem region_seqt {id : Nat} (m : Nat) (ds : List Nat) (Rs : List (Value → World → Prop)) (bs : List Bool) {a0 : Act} {v : World}
    (hmo : P.follows .mixedOrders = true) (hm : m ≤ ops.size) (hds : ds.length = m) (hRs : Rs.length = m) (hbs : bs.length = m) (hnd : ds.Nodup) (hsz : (ds.all fun d => decide (d < a0.tmps.size)) = true) (hlow : lowB2 .any ops m = true)
    (hst : allStb Rs) (hstep : stepsFrom P ops Q a0 v ds Rs (fun i => bs.getD i false) m 0)
    (hfin : ∀ (w' : World), Below v.heap.size v w' → finFrom w' (fun t => wpAny P .any ops Q (ops.size - m) (lst ops (List.replicate m true)) ⟨t, a0.defers⟩ w') ds Rs bs [] a0.tmps) :
    (Code.region id ops true).wp P Q a0 v := by
  refine region_first_many m ds (getR Rs) (fun i => bs.getD i false) hmo hm hds hnd hsz (live_low2 hm hlow) (fun i x w w' h hb => (hst.get i) x w w' h hb) (fun i hi a w hb hd hoff hdep K hK => ?_) (fun x w' hb hR hne => ?_)
  · exact hstep.get i (by omega) (by omega) a w hb hd hoff (fun o ho => depAll_of (fun e he hb => hdep o ho e (by simpa using he) hb)) K hK
  · have := fin_ofL (G := fun t => wpAny P .any ops Q (ops.size - m) (lst ops (List.replicate m true)) ⟨t, a0.defers⟩ w') ((List.range m).map x) ds Rs bs [] a0.tmps (by simpa using hds) (by simpa using hRs) (by simpa using hbs) (fun j y hy => by
      obtain ⟨hj, rfl⟩ := range_map_get hy
      exact hR j hj) (fun j y _ _ p hp => by simp at hp) (fun j k y z hjk hy hz h1 h2 => by
      obtain ⟨hj, rfl⟩ := range_map_get hy
      obtain ⟨hk, rfl⟩ := range_map_get hz
      exact hne j k hj hk hjk h1 h2) (hfin w' hb)
    rwa [List.map_map] at this
end
end
end Go.Proofs.Ytnokfhkcfebimaa

/- Plain laws: no fewer further attempts than Least decide, and some of Least ones do. -/
namespace Go.Proofs.Ytnokfhkcfebimaa
open Go.RowKit

/-- Further attempts: the bits of a number. -/
def moreL (x : Nat) (r : Bool) (n : Nat) : List (Bool × Bool) := (bitL x n).map fun b => (b, r)
theorem moreL_succ (x : Nat) (r : Bool) (n : Nat) : moreL x r (n + 1) = moreL x r n ++ [(decide (x / 2 ^ n % 2 = 1), r)] := by
  unfold moreL
  rw [bitL_succ, List.map_append]
  rfl
theorem moreL_len (x : Nat) (r : Bool) (n : Nat) : (moreL x r n).length = n := by unfold moreL; rw [List.length_map, bitL_len]
theorem moreL_rnd {x : Nat} {r : Bool} {n : Nat} : ∀ y ∈ moreL x r n, y.2 = r := by
  intro y hy
  unfold moreL at hy
  obtain ⟨b, -, rfl⟩ := List.mem_map.1 hy
  rfl
/-- Whether further attempts are random. -/
def rrL (xs : List (Bool × Bool)) : Bool := match xs with
  | [] => true
  | x :: _ => x.2
theorem judL_open {g : Nat → Nat → Int} : ∀ (y : List (Bool × Bool)) (k p f : Nat), (∀ x ∈ y, x.2 = true) → (∀ i j, 1 ≤ i + j → i + j ≤ y.length → g (p + i) (f + j) = 0) → (judL g true y k p f).1 = 0
  | [], _, _, _, _, _ => rfl
  | (fl, rd) :: y, k, p, f, hr, hg => by
    obtain rfl : rd = true := hr (fl, rd) (by simp)
    rw [judL, if_neg (by simp), if_neg (by simp)]
    cases fl
    · simp only [Bool.false_eq_true, if_false]
      rw [if_pos (show g (p + 1) f = 0 from hg 1 0 (by omega) (by simp))]
      exact judL_open y _ _ _ (fun x hx => hr x (by simp [hx])) (fun i j h1 h2 => by
        have := hg (1 + i) j (by omega) (by rw [List.length_cons]; omega)
        rwa [← Nat.add_assoc] at this)
    · rw [if_pos rfl, if_pos rfl, if_pos (show g p (f + 1) = 0 from hg 0 1 (by omega) (by simp))]
      exact judL_open y _ _ _ (fun x hx => hr x (by simp [hx])) (fun i j h1 h2 => by
        have := hg i (1 + j) (by omega) (by rw [List.length_cons]; omega)
        rwa [← Nat.add_assoc] at this)
theorem judL_end {g : Nat → Nat → Int} : ∀ (y : List (Bool × Bool)) (k p f : Nat), (∀ x ∈ y, x.2 = true) → y ≠ [] → (judL g true y k p f).1 = 0 → cntF y ≤ y.length ∧ g (p + (y.length - cntF y)) (f + cntF y) = 0
  | [], _, _, _, _, h, _ => absurd rfl h
  | (fl, rd) :: y, k, p, f, hr, _, h => by
    obtain rfl : rd = true := hr (fl, rd) (by simp)
    rw [judL, if_neg (by simp), if_neg (by simp)] at h
    by_cases hy : y = []
    · subst hy
      cases fl
      · simp only [Bool.false_eq_true, if_false] at h
        by_cases h3 : g (p + 1) f = 0
        · exact ⟨by simp [cntF], by simpa [cntF] using h3⟩
        · rw [if_neg h3] at h; exact absurd h h3
      · rw [if_pos rfl, if_pos rfl] at h
        by_cases h3 : g p (f + 1) = 0
        · exact ⟨by simp [cntF], by simpa [cntF] using h3⟩
        · rw [if_neg h3] at h; exact absurd h h3
    · cases fl
      · simp only [Bool.false_eq_true, if_false] at h
        by_cases h3 : g (p + 1) f = 0
        · rw [if_pos h3] at h
          obtain ⟨h4, h5⟩ := judL_end y _ _ _ (fun x hx => hr x (by simp [hx])) hy h
          have e : cntF ((false, true) :: y) = cntF y := by simp [cntF]
          rw [e, List.length_cons]
          exact ⟨by omega, by rw [show p + (y.length + 1 - cntF y) = p + 1 + (y.length - cntF y) by omega]; exact h5⟩
        · rw [if_neg h3] at h; exact absurd h h3
      · rw [if_pos rfl, if_pos rfl] at h
        by_cases h3 : g p (f + 1) = 0
        · rw [if_pos h3] at h
          obtain ⟨h4, h5⟩ := judL_end y _ _ _ (fun x hx => hr x (by simp [hx])) hy h
          have e : cntF ((true, true) :: y) = cntF y + 1 := by simp [cntF]
          rw [e, List.length_cons]
          exact ⟨by omega, by rw [show y.length + 1 - (cntF y + 1) = y.length - cntF y by omega, show f + (cntF y + 1) = f + 1 + cntF y by omega]; exact h5⟩
        · rw [if_neg h3] at h; exact absurd h h3
theorem cntF_more0 (r : Bool) (n : Nat) : cntF (moreL 0 r n) = 0 := by
  induction n with
  | zero => rfl
  | succ n ih => rw [moreL_succ]; unfold cntF at ih ⊢; rw [List.countP_append, ih]; simp
theorem cntF_more1 (r : Bool) (N : Nat) : ∀ n, n ≤ N → cntF (moreL (2 ^ N - 1) r n) = n := by
  intro n
  induction n with
  | zero => intro _; rfl
  | succ n ih =>
    intro hn
    have h1 : decide ((2 ^ N - 1) / 2 ^ n % 2 = 1) = true := by
      rw [← Nat.testBit_eq_decide_div_mod_eq, Nat.testBit_two_pow_sub_one]
      exact decide_eq_true (by omega)
    rw [moreL_succ, h1]
    have := ih (by omega)
    unfold cntF at this ⊢
    rw [List.countP_append, this]
    simp
section
variable {l h a b : Rat} {M : Nat}
/-- Between all passed and all failed. -/
theorem aft_between (hl : Inn l) (hh : Inn h) (hlh : l < h) {p f i j : Nat} (h1 : aftQ (decQ l h a b) M (p + (i + j)) f = 0) (h2 : aftQ (decQ l h a b) M p (f + (i + j)) = 0) : aftQ (decQ l h a b) M (p + i) (f + j) = 0 := by
  have k0 : ∀ x y, aftQ (decQ l h a b) M x y = 0 → decQ l h a b x y ≠ 2 ∧ decQ l h a b x y ≠ 1 ∧ x + y ≠ M := fun x y h0 => by
    unfold aftQ at h0
    split at h0
    · simp at h0
    · split at h0
      · simp at h0
      · split at h0
        · simp at h0
        · exact ⟨by assumption, by assumption, by assumption⟩
  obtain ⟨a1, a2, a3⟩ := k0 _ _ h1
  obtain ⟨b1, b2, b3⟩ := k0 _ _ h2
  have c1 : decQ l h a b (p + i) (f + j) ≠ 2 := fun e => by
    have := flaky_up hl hh hlh (a := a) (b := b) (n := p + f + (i + j)) (f := f + j) (g := f + (i + j)) (by omega) (by omega) (by rw [show p + f + (i + j) - (f + j) = p + i by omega]; exact e)
    rw [show p + f + (i + j) - (f + (i + j)) = p by omega] at this
    exact b1 this
  have c2 : decQ l h a b (p + i) (f + j) ≠ 1 := fun e => by
    have := stable_down hl hh hlh (a := a) (b := b) (n := p + f + (i + j)) (f := f) (g := f + j) (by omega) (by omega) (by rw [show p + f + (i + j) - (f + j) = p + i by omega]; exact e)
    rw [show p + f + (i + j) - f = p + (i + j) by omega] at this
    exact a2 this
  unfold aftQ
  rw [if_neg c1, if_neg c2, if_neg (by omega)]
theorem soon_zero (hl : Inn l) (hh : Inn h) (hlh : l < h) {xs : List (Bool × Bool)} {L : Nat} (hv : IsLv (aftQ (decQ l h a b) M) M xs L) (x k : Nat) (hk : k < L) : (jud (aftQ (decQ l h a b) M) (xs ++ moreL x (rrL xs) k)).1 = 0 := by
  rcases hv with ⟨-, rfl⟩ | ⟨h0, rfl, rfl⟩ | ⟨h0, rfl, rfl⟩ | ⟨t, h0, rfl, h1, h2, ⟨h3, h4, h5⟩, h6, h7⟩
  · omega
  · obtain rfl : k = 0 := by omega
    exact h0
  · obtain rfl : k = 0 := by omega
    exact h0
  · rw [h7]
    refine judL_open _ _ _ _ moreL_rnd (fun i j h8 h9 => ?_)
    rw [moreL_len] at h9
    obtain ⟨h10, h11⟩ := h5 (i + j) h8 (by omega)
    exact aft_between hl hh hlh h10 h11
theorem soon_found {xs : List (Bool × Bool)} {L : Nat} (hv : IsLv (aftQ (decQ l h a b) M) M xs L) : ∃ x, x < 2 ^ L ∧ (jud (aftQ (decQ l h a b) M) (xs ++ moreL x (rrL xs) L)).1 ≠ 0 := by
  rcases hv with ⟨h0, rfl⟩ | ⟨h0, rfl, rfl⟩ | ⟨h0, rfl, rfl⟩ | ⟨t, h0, rfl, h1, h2, ⟨h3, h4, h5⟩, h6, h7⟩
  · exact ⟨0, by simp, by rw [show moreL 0 (rrL xs) 0 = [] from rfl, List.append_nil]; exact h0⟩
  · exact ⟨0, by simp, by simp [moreL_succ, show ∀ x r, moreL x r 0 = [] from fun _ _ => rfl, rrL, jud]⟩
  · exact ⟨0, by simp, by simp [moreL_succ, show ∀ x r, moreL x r 0 = [] from fun _ _ => rfl, rrL, jud, judL]⟩
  · have hpos : 0 < 2 ^ L := Nat.two_pow_pos L
    have hne : ∀ x r, moreL x r L ≠ [] := fun x r e => by
      have := moreL_len x r L
      rw [e] at this
      simp at this
      omega
    rcases h4 with h4 | h4
    · refine ⟨0, hpos, fun h8 => ?_⟩
      rw [h7] at h8
      obtain ⟨-, h9⟩ := judL_end _ _ _ _ moreL_rnd (hne _ _) h8
      rw [cntF_more0, moreL_len] at h9
      exact h4 h9
    · refine ⟨2 ^ L - 1, by omega, fun h8 => ?_⟩
      rw [h7] at h8
      obtain ⟨-, h9⟩ := judL_end _ _ _ _ moreL_rnd (hne _ _) h8
      rw [cntF_more1 true L L (Nat.le_refl _), moreL_len, Nat.sub_self] at h9
      exact h4 h9
end
end Go.Proofs.Ytnokfhkcfebimaa

/- The walk of the law RerunSoon. -/
namespace Go.Proofs.Ytnokfhkcfebimaa
open Go.RowKit
theorem OA.bwS {w0 w : World} {A : Option Addr} {m c : Nat} {l : List (Bool × Bool)} (h : OA w0 w w0.heap.size A m c l) : Below w0.heap.size w0 w :=
  (h.fr.mono (T := fun _ => False) (fun k hk e => by omega)).below (Nat.le_refl _) (fun _ _ h => h)

theorem wp_app_atts {w0 w : World} {o : Oper} {a : Act} {K : Act → World → Prop} {Q : Exit → Act → World → Prop} (s x : Operand) (t : TypeId) (ht : Try.prog.underlying t = some (.slice 70))
    (ho : o.op = .call { callee := .builtin .append, args := #[s, x], argTypes := #[t, t] })
    (T : Nat) (A : Option Addr) (m c : Nat) (l : List (Bool × Bool)) (B : Option Addr) (k d : Nat) (M : List (Bool × Bool)) (hs : a.eval s = .slice A m c) (hx : a.eval x = .slice B k d) (hO : OA w0 w T A m c l) (hR : Rs w none 2 atv B M) (hM : M.length = k) (h63 : m + k ≤ 4294967296)
    (h : ∀ A' c' w', OA w0 w' T A' (m + k) c' (l ++ M) → K (a.put o.dst (.slice A' (m + k) c')) w') : Oper.wp Try.prog o a w K Q := by
  obtain ⟨A', c', w', hr, h3, h4, h5⟩ := run_append_rs (P := Try.prog) w w0.heap.size t o.type 70 _ 2 2 ht info70 rfl (by omega) (.slice A m c) m l hO.own B k d M hR hM atv_len atv_one h63 (by omega) hO.fr.size
  unfold Oper.wp
  simp only [execOp, ho, resolve, invoke, builtin, hs, hx, hr, Result.andThen, Sem.run_bind, Sem.run_pure, List.map_toArray, List.map_cons, List.map_nil, Oper.upon]
  exact h A' c' w' ⟨h3, by simp [hO.len, hM], hO.fr.grown h4 (fun g hg => .inl (hO.lo hg).1)⟩
set_option maxRecDepth 100000 in
set_option maxHeartbeats 16000000 in
theorem rsoon_walk (w : World) (A : Option Addr) (n c : Nat) (l : List Int) (hA : Rs w none 1 iv A l) (hl : l.length = n) :
    Calls Try.prog 14 #[.slice A n c] w fun e w' => e = .returned (.bool true) ∧ Below w.heap.size w w' := by
  have HP := hide (tp_new (w := w) (c := c) hA hl 32)
  clear hA hl
  go_enter Try.func14, Try.ntmps14
  go_upto_region 3 with (go_at_call 41; refine (vspec_any _ w.heap.size A n c l 0 8 HP.out (by omega) (by omega) (by omega)).mono ?_; rintro e w1 ⟨s, lo, hi, al, be, M, b, rfl, hq, hk, hM, htp, hb12, hf⟩; have HB1 := hide (fr_new rfl hf); have HQ1 := hide hq; have HK := hide hk; have HP1 := hide htp; clear hq hk hf htp)
  generalize hW : World.alloc w1 _ = v
  have hT : w.heap.size < w1.heap.size := HP1.out.t.1
  have HF := hide (show FS w v w1.heap.size s by rw [← hW]; exact ⟨HB1.out.trans (((Below.refl _ _).alloc (Nat.le_refl _) _ : Below w1.heap.size w1 _).mono HB1.out.size), (FS.mk0 HQ1.out _).cb, HQ1.out.alloc _⟩)
  have HP2 := hide (show Tp v w.heap.size A n c l b by rw [← hW]; exact HP1.out.alloc _)
  obtain ⟨g, hg⟩ : ∃ g, g = w1.heap.size := ⟨_, rfl⟩
  rw [← hg] at HF hT ⊢
  clear hW hg
  go_upto_region 4 with (go_at_call 42; refine (vattempts_any _ w.heap.size A n c l b 6 HP2.out (by omega) (by omega)).mono ?_; rintro e w2 ⟨B, m, d, xs, p, rfl, ho, hm6, hp, hpb⟩; have HO := hide ho; have HP3 := hide hp; have HF2 := hide (HF.out.tape ho.fr (Nat.le_refl _) (by omega) HP2.out.nb); clear ho hp)
  obtain ⟨a0, a1, a2, a3, a4, a5, a6, a7, a8, a9⟩ := HF2.out.ca
  obtain ⟨G, hG⟩ : ∃ G, G = aftQ (decQ lo hi al be) M := ⟨_, rfl⟩
  have HG := hide hG
  have HIN := hide (And.intro HK.out.il (And.intro HK.out.ih HK.out.lt))
  clear hG
  go_upto_region 5 with (go_at_call 46; (with_reducible refine (vleast_ok _ s lo hi al be M B m d xs HF2.out.q HK.out HO.out.rs HO.out.len (by omega) HO.out.cap).mono ?_); rintro e w3 ⟨L, rfl, hv, hb⟩; have HV := hide hv; have HF3 := hide (HF2.out.below hb); have HR3 := hide (HO.out.rs.below hb); clear hv hb)
  clear a0 a1 a2 a3 a4 a5 a6 a7 a8 a9
  have HLM := hide HO.out.len
  by_cases hL : L ≤ 7
  · have z1 : decide ((7 : Int) < (L : Int)) = false := decide_eq_false (by omega)
    have z2 : (L : Int) ≤ 7 := by omega
    have z3 : decide (7 < L) = false := decide_eq_false (by omega)
    obtain ⟨S, hS⟩ : ∃ S : Nat, S = 2 ^ L := ⟨_, rfl⟩
    have hS128 : S ≤ 128 := by rw [hS]; exact Nat.pow_le_pow_right (n := 2) (by omega) hL
    have hwS : wrap64 ((2 : Int) ^ L) = (S : Int) := by
      have e : ((2 : Int) ^ L) = (S : Int) := by rw [hS]; push_cast; rfl
      rw [e]
      exact IntWalk.wrap64_in _ ⟨by omega, by omega⟩
    have HSS := hide hS
    have hL63 : (L : Int) < 64 := by omega
    have hL0 : (0 : Int) ≤ (L : Int) := by omega
    have HZ := hide (show ∀ x k, k < L → (jud G (xs ++ moreL x (rrL xs) k)).1 = 0 from fun x k hk => by rw [HG.out]; exact soon_zero HIN.out.1 HIN.out.2.1 HIN.out.2.2 HV.out x k hk)
    have HFO := hide (show ∃ x, x < S ∧ (jud G (xs ++ moreL x (rrL xs) L)).1 ≠ 0 from by rw [HG.out, HSS.out]; exact soon_found HV.out)
    clear hS
    go_wp2_with fail
    go_loopw [8, 9] (fun fv xv wr => ∃ (x : Nat) (fo : Bool), fv = .bool fo ∧ xv = .int .i64 (x : Int) ∧ x ≤ S ∧ Hid (fo = true ↔ ∃ y, y < x ∧ (jud G (xs ++ moreL y (rrL xs) L)).1 ≠ 0) ∧ Hid (Below w3.heap.size w3 wr)) (fun _ xv _ => S - (intOf xv).toNat)
    case atStart => exact ⟨0, false, rfl, rfl, by omega, hide (by simp), hide (Below.refl _ _)⟩
    case round =>
      obtain ⟨x, fo, rfl, rfl, hxS, HFD, HBr⟩ := hrel
      obtain ⟨wo, hwo⟩ : ∃ wo, wo = wr := ⟨wr, rfl⟩
      subst hwo
      have HFo := hide (HF3.out.below HBr.out)
      have HRo := hide (HR3.out.below HBr.out)
      by_cases hxq : x = S
      · have hle : decide ((x : Int) < (S : Int)) = false := decide_eq_false (by omega)
        have hle2 : (S : Int) ≤ (x : Int) := by omega
        obtain rfl : fo = true := HFD.out.2 (by rw [hxq]; exact HFO.out)
        clear hxq
        go_wp2_with (go_at_call 44; (with_reducible refine (vknown_any _).mono ?_); rintro e w9 ⟨rfl, hb⟩; have HB9 := hide (HFo.out.bw.trans (hb.mono HFo.out.bw.size)); clear hb)
        go_ret
        exact ⟨rfl, HB9.out⟩
      · have hlt : decide ((x : Int) < (S : Int)) = true := decide_eq_true (by omega)
        have hlt2 : (x : Int) < (S : Int) := by omega
        go_wp2_with (at_builtin; refine wl_app_atts (w0 := wo) rfl _ _ _ Try.underlying66 rfl wo.heap.size none 0 0 [] B m d xs rfl rfl (OA.nil (Fr.refl _ _)) HRo.out HLM.out (by omega) ?_; intro A1 cc1 w4 ho1 hf1; rw [Nat.zero_add, List.nil_append] at ho1; have HO1 := hide ho1; rw [Nat.zero_add]; clear ho1 hf1)
        go_loopw [10, 11] (fun yv kv wr => ∃ (k : Nat) (A2 : Option Addr) (c2 : Nat), yv = .slice A2 (m + k) c2 ∧ kv = .int .i64 (k : Int) ∧ k ≤ L ∧ Hid (OA wo wr wo.heap.size A2 (m + k) c2 (xs ++ moreL x (rrL xs) k))) (fun _ kv _ => L - (intOf kv).toNat)
        case atStart => exact ⟨0, A1, cc1, rfl, rfl, by omega, hide (by rw [show moreL x (rrL xs) 0 = [] from rfl, List.append_nil]; exact HO1.out)⟩
        case round =>
          obtain ⟨k, A2, c2, rfl, rfl, hkL, HOk⟩ := hrel
          have HBk := hide (HBr.out.trans (HOk.out.bwS.mono HBr.out.size))
          have HFk := hide (HF3.out.below HBk.out)
          have HRk := hide (HR3.out.below HBk.out)
          obtain ⟨b0, b1, b2, b3, b4, b5, b6, b7, b8, b9⟩ := HFk.out.ca
          by_cases hkq : k = L
          · have hle : decide ((k : Int) < (L : Int)) = false := decide_eq_false (by omega)
            have hle2 : (L : Int) ≤ (k : Int) := by omega
            have hle3 : decide (k < L) = false := decide_eq_false (by omega)
            obtain ⟨X, hX⟩ : ∃ X, X = jud G (xs ++ moreL x (rrL xs) k) := ⟨_, rfl⟩
            have HJ := hide hX
            clear hX
            obtain ⟨r, u⟩ := X
            have HKL := hide hkq
            clear hkq
            by_cases hr : r = 0
            · subst hr
              go_wp2_with (go_at_call 43; (with_reducible refine (vjudgex_ok _ s lo hi al be M A2 (m + k) c2 _ HFk.out.q HK.out HOk.out.rs HOk.out.len (by omega)).mono ?_); rintro e w7 ⟨rfl, hb⟩; rw [← HG.out, ← HJ.out]; have HB7 := hide (HBk.out.trans (hb.mono HBk.out.size)); clear hb)
              all_goals
                go_roundw
                case rel => exact ⟨x + 1, fo, by first | rfl | (simp; done) | simp [*], by go_num, by omega, hide (by
                  rw [HFD.out]
                  constructor
                  · rintro ⟨y, h1, h2⟩; exact ⟨y, by omega, h2⟩
                  · rintro ⟨y, h1, h2⟩
                    refine ⟨y, ?_, h2⟩
                    rcases Nat.lt_succ_iff_lt_or_eq.1 h1 with h3 | h3
                    · exact h3
                    · subst h3
                      rw [← HKL.out, ← HJ.out] at h2
                      exact absurd rfl h2), HB7⟩
                case measure => simp [intOf] <;> omega
            · have z4 : (r != 0) = true := by simpa using hr
              have z5 : ¬ r = 0 := hr
              go_wp2_with (go_at_call 43; (with_reducible refine (vjudgex_ok _ s lo hi al be M A2 (m + k) c2 _ HFk.out.q HK.out HOk.out.rs HOk.out.len (by omega)).mono ?_); rintro e w7 ⟨rfl, hb⟩; rw [← HG.out, ← HJ.out]; have HB7 := hide (HBk.out.trans (hb.mono HBk.out.size)); clear hb)
              all_goals
                go_roundw
                case rel => exact ⟨x + 1, true, by first | rfl | (simp; done) | simp [*], by go_num, by omega, hide (by
                  refine ⟨fun _ => ⟨x, by omega, ?_⟩, fun _ => rfl⟩
                  rw [← HKL.out, ← HJ.out]
                  exact hr), HB7⟩
                case measure => simp [intOf] <;> omega
          · have hlt : decide ((k : Int) < (L : Int)) = true := decide_eq_true (by omega)
            have hlt2 : (k : Int) < (L : Int) := by omega
            have hk0 : (0 : Int) ≤ (k : Int) := by omega
            have hk40 : (k : Int) < 64 := by omega
            obtain ⟨X, hX⟩ : ∃ X, X = jud G (xs ++ moreL x (rrL xs) k) := ⟨_, rfl⟩
            have HJ := hide hX
            obtain ⟨r, u⟩ := X
            obtain rfl : r = 0 := by have := HZ.out x k (by omega); rw [← hX] at this; exact this
            clear hX
            have hand : bits BinOp.and IntKind.i64 ((x : Int) / 2 ^ k) 1 = ((x / 2 ^ k % 2 : Nat) : Int) := by
              rw [← natCast_div2]; exact i64_and_one _ (by have := Nat.div_le_self x (2 ^ k); omega)
            obtain ⟨bt, hbt⟩ : ∃ bt : Nat, bt = x / 2 ^ k % 2 := ⟨_, rfl⟩
            obtain ⟨rd, hrd⟩ : ∃ rd, rd = rrL xs := ⟨_, rfl⟩
            have HML := hide (show moreL x (rrL xs) (k + 1) = moreL x (rrL xs) k ++ [(((bt : Int) == 1), rd)] by
              rw [moreL_succ, ← hbt, hrd]
              have e : decide (bt = 1) = ((bt : Int) == 1) := by
                rw [Bool.eq_iff_iff, decide_eq_true_eq, beq_iff_eq]
                omega
              rw [e])
            rw [← hbt] at hand
            clear hbt
            have HRD := hide hrd
            clear hrd
            go_upto_region 18 with (go_at_call 43; (with_reducible refine (vjudgex_ok _ s lo hi al be M A2 (m + k) c2 _ HFk.out.q HK.out HOk.out.rs HOk.out.len (by omega)).mono ?_); rintro e w7 ⟨rfl, hb⟩; rw [← HG.out, ← HJ.out]; have HO7 := hide (HOk.out.below hb); have HB7 := hide (HBk.out.trans (hb.mono HBk.out.size)); have HR7 := hide (HR3.out.below HB7.out); clear hb)
            clear b0 b1 b2 b3 b4 b5 b6 b7 b8 b9
            cases xs with
            | nil =>
              obtain rfl : m = 0 := by have := HLM.out; simpa using this.symm
              obtain rfl : rd = true := HRD.out
              have HO70 := hide (show OA wo w7 wo.heap.size A2 k c2 _ from by have := HO7.out; rwa [Nat.zero_add] at this)
              apply region_seqt 17 (68 :: 69 :: 70 :: 71 :: 72 :: 73 :: 74 :: 75 :: 76 :: 77 :: 78 :: 79 :: 80 :: 81 :: 82 :: 83 :: 84 :: []) (eqV _ :: eqV _ :: eqV _ :: eqV _ :: eqV _ :: eqV _ :: eqV _ :: eqV _ :: eqV _ :: eqV _ :: eqV _ :: eqV _ :: eqV _ :: eqV _ :: eqV _ :: eqV _ :: (fun x w => ∃ b : Nat, x = .slice (some ⟨b, 0, none⟩) 1 1 ∧ Rs w none 2 atv (some ⟨b, 0, none⟩) [(((bt : Int) == 1), true)]) :: []) (false :: false :: false :: false :: false :: false :: false :: false :: false :: false :: false :: false :: false :: false :: false :: false :: false :: []) (by kernel_rfl) (by decide) rfl rfl rfl (by decide) (by kernel_rfl) (by kernel_rfl) ?stb3 ?steps3 ?fin3
              case stb3 => repeat' (first | exact trivial | apply stb_eq | (exact fun x w w' ⟨b, h1, h2⟩ hb => ⟨b, h1, h2.below hb⟩) | apply And.intro)
              case steps3 =>
                repeat' (first | exact trivial | apply And.intro)
                all_goals
                  intro a' w' hbw hdf hoff hdep K hK
                  (have o1 := hoff 10 rfl; have o2 := hoff 9 rfl; have o3 := hoff 11 rfl; have o4 := hoff 5 rfl)
                  (skip)
                  replace hdep := hdep _ rfl
                  simp only [List.getElem_toArray, List.getElem_cons_succ, List.getElem_cons_zero, List.toList_toArray, depAll, binds_data, binds_chain, binds_guard, binds_phase, binds_text, binds_gc, cond_true, cond_false, true_and, getR, eqV, List.getD_cons_succ, List.getD_cons_zero, and_true] at hdep
                  simp only [Nat.zero_add, Nat.reduceAdd, getR, eqV, List.getD_cons_succ, List.getD_cons_zero] at hK
                  clear hoff hdf
                  (try (simp only [Array.getD_eq_getD_getElem?] at hdep))
                  first
                    | (refine rg_unwanted rfl rfl rfl (b' := false) (by first | (simp [hdep]; done) | assumption) (by decide) ?_; exact hK _ _ rfl (Below.refl _ _) (by simp))
                    | (refine rg_unwanted rfl rfl rfl (b' := true) (by first | (simp [hdep]; done) | assumption) (by decide) ?_; exact hK _ _ rfl (Below.refl _ _) (by simp))
                    | (refine rg_wanted rfl rfl rfl (b' := true) (by first | (simp [hdep]; done) | assumption) rfl (fun K' hKK => ?_); go_wp2_with (fail); first | exact hK _ _ rfl (Below.refl _ _) (by simp) | exact hK _ _ ⟨_, rfl, rs_newf atv_len [(((bt : Int) == 1), true)] _ _ rfl⟩ ((Below.refl _ _).alloc (Nat.le_refl _) _) (by simp))
                    | (refine rg_wanted rfl rfl rfl (b' := false) (by first | (simp [hdep]; done) | assumption) rfl (fun K' hKK => ?_); go_wp2_with (fail); first | exact hK _ _ rfl (Below.refl _ _) (by simp) | exact hK _ _ ⟨_, rfl, rs_newf atv_len [(((bt : Int) == 1), true)] _ _ rfl⟩ ((Below.refl _ _).alloc (Nat.le_refl _) _) (by simp))
                    | (refine rg_free rfl rfl (fun K' hKK => ?_); fail)
                    | (refine rg_free rfl rfl (fun K' hKK => ?_); go_wp2_with (fail); first | exact hK _ _ rfl (Below.refl _ _) (by simp) | exact hK _ _ ⟨_, rfl, rs_newf atv_len [(((bt : Int) == 1), true)] _ _ rfl⟩ ((Below.refl _ _).alloc (Nat.le_refl _) _) (by simp))
              intro w' hbw
              repeat (refine fin_eq ?_)
              refine fin_any (fun x9 hx9 => ?_)
              obtain ⟨b9, rfl, hr9⟩ := hx9
              have HO9 := hide (HO70.out.below hbw)
              have HR9 := hide hr9
              clear hr9
              refine fin_nil ?_
              simp only [List.setIfInBounds_toArray, List.set_cons_succ, List.set_cons_zero]
              refine wpAny_one (i := 17) (by kernel_rfl) ?_
              refine rg_free rfl rfl (fun K' hKK => ?_)
              refine wp_app_atts (w0 := wo) _ _ 66 Try.underlying66 rfl wo.heap.size A2 k c2 _ (some ⟨b9, 0, none⟩) 1 1 [(((bt : Int) == 1), true)] rfl rfl HO9.out HR9.out rfl (by omega) ?_
              intro A4 cc4 w8 ho4
              have HO8 := hide ho4
              clear ho4
              refine hKK _ _ ?_
              refine wpAny_one (i := 18) (by kernel_rfl) ?_
              refine rg_free rfl rfl (fun K'' hKK2 => ?_)
              go_wp2_with fail
              refine wpAny_done (by kernel_rfl) ?_ _
              go_wp2_with fail
              go_roundw
              case rel => exact ⟨k + 1, A4, cc4, by rw [Nat.zero_add], by go_num, by omega, hide (by rw [HML.out, ← List.append_assoc, Nat.zero_add]; exact HO8.out)⟩
              case measure => simp [intOf] <;> omega
            | cons y ys =>
              obtain ⟨bb, o, rfl, hb0, -, e1⟩ := atts_at HR7.out (k := 0) rfl
              simp only [Nat.zero_mul, Nat.add_zero] at e1
              have hm1 : 0 < m := by have := HLM.out; rw [List.length_cons] at this; omega
              have hm2 : (0 : Int) < (m : Int) := by omega
              have hm3 : ¬ (m : Int) = 0 := by omega
              have hm4 : ((m : Int) == 0) = false := by simp; omega
              have hm5 : decide ((m : Int) = 0) = false := decide_eq_false hm3
              have hrd2 : y.2 = rd := HRD.out.symm
              rw [hrd2] at e1
              apply region_seqt 17 (68 :: 69 :: 70 :: 71 :: 72 :: 73 :: 74 :: 75 :: 76 :: 77 :: 78 :: 79 :: 80 :: 81 :: 82 :: 83 :: 84 :: []) (eqV _ :: eqV _ :: eqV _ :: eqV _ :: eqV _ :: eqV _ :: eqV _ :: eqV _ :: eqV _ :: eqV _ :: eqV _ :: eqV _ :: eqV _ :: eqV _ :: eqV _ :: eqV _ :: (fun x w => ∃ b : Nat, x = .slice (some ⟨b, 0, none⟩) 1 1 ∧ Rs w none 2 atv (some ⟨b, 0, none⟩) [(((bt : Int) == 1), rd)]) :: []) (false :: false :: false :: false :: false :: false :: false :: false :: false :: false :: false :: false :: false :: false :: false :: false :: false :: []) (by kernel_rfl) (by decide) rfl rfl rfl (by decide) (by kernel_rfl) (by kernel_rfl) ?stb4 ?steps4 ?fin4
              case stb4 => repeat' (first | exact trivial | apply stb_eq | (exact fun x w w' ⟨b, h1, h2⟩ hb => ⟨b, h1, h2.below hb⟩) | apply And.intro)
              case steps4 =>
                repeat' (first | exact trivial | apply And.intro)
                all_goals
                  intro a' w' hbw hdf hoff hdep K hK
                  (have o1 := hoff 10 rfl; have o2 := hoff 9 rfl; have o3 := hoff 11 rfl; have o4 := hoff 5 rfl)
                  (have e2 := (hbw.cell (by simpa using hb0)).trans e1)
                  replace hdep := hdep _ rfl
                  simp only [List.getElem_toArray, List.getElem_cons_succ, List.getElem_cons_zero, List.toList_toArray, depAll, binds_data, binds_chain, binds_guard, binds_phase, binds_text, binds_gc, cond_true, cond_false, true_and, getR, eqV, List.getD_cons_succ, List.getD_cons_zero, and_true] at hdep
                  simp only [Nat.zero_add, Nat.reduceAdd, getR, eqV, List.getD_cons_succ, List.getD_cons_zero] at hK
                  clear hoff hdf
                  (try (simp only [Array.getD_eq_getD_getElem?] at hdep))
                  first
                    | (refine rg_unwanted rfl rfl rfl (b' := false) (by first | (simp [hdep]; done) | assumption) (by decide) ?_; exact hK _ _ rfl (Below.refl _ _) (by simp))
                    | (refine rg_unwanted rfl rfl rfl (b' := true) (by first | (simp [hdep]; done) | assumption) (by decide) ?_; exact hK _ _ rfl (Below.refl _ _) (by simp))
                    | (refine rg_wanted rfl rfl rfl (b' := true) (by first | (simp [hdep]; done) | assumption) rfl (fun K' hKK => ?_); go_wp2_with (fail); first | exact hK _ _ rfl (Below.refl _ _) (by simp) | exact hK _ _ ⟨_, rfl, rs_newf atv_len [(((bt : Int) == 1), rd)] _ _ rfl⟩ ((Below.refl _ _).alloc (Nat.le_refl _) _) (by simp))
                    | (refine rg_wanted rfl rfl rfl (b' := false) (by first | (simp [hdep]; done) | assumption) rfl (fun K' hKK => ?_); go_wp2_with (fail); first | exact hK _ _ rfl (Below.refl _ _) (by simp) | exact hK _ _ ⟨_, rfl, rs_newf atv_len [(((bt : Int) == 1), rd)] _ _ rfl⟩ ((Below.refl _ _).alloc (Nat.le_refl _) _) (by simp))
                    | (refine rg_free rfl rfl (fun K' hKK => ?_); fail)
                    | (refine rg_free rfl rfl (fun K' hKK => ?_); go_wp2_with (fail); first | exact hK _ _ rfl (Below.refl _ _) (by simp) | exact hK _ _ ⟨_, rfl, rs_newf atv_len [(((bt : Int) == 1), rd)] _ _ rfl⟩ ((Below.refl _ _).alloc (Nat.le_refl _) _) (by simp))
              intro w' hbw
              repeat (refine fin_eq ?_)
              refine fin_any (fun x9 hx9 => ?_)
              obtain ⟨b9, rfl, hr9⟩ := hx9
              have HO9 := hide (HO7.out.below hbw)
              have HR9 := hide hr9
              clear hr9
              refine fin_nil ?_
              simp only [List.setIfInBounds_toArray, List.set_cons_succ, List.set_cons_zero]
              refine wpAny_one (i := 17) (by kernel_rfl) ?_
              refine rg_free rfl rfl (fun K' hKK => ?_)
              refine wp_app_atts (w0 := wo) _ _ 66 Try.underlying66 rfl wo.heap.size A2 (m + k) c2 _ (some ⟨b9, 0, none⟩) 1 1 [(((bt : Int) == 1), rd)] rfl rfl HO9.out HR9.out rfl (by omega) ?_
              intro A4 cc4 w8 ho4
              have HO8 := hide ho4
              clear ho4
              refine hKK _ _ ?_
              refine wpAny_one (i := 18) (by kernel_rfl) ?_
              refine rg_free rfl rfl (fun K'' hKK2 => ?_)
              go_wp2_with fail
              refine wpAny_done (by kernel_rfl) ?_ _
              go_wp2_with fail
              go_roundw
              case rel => exact ⟨k + 1, A4, cc4, rfl, by go_num, by omega, hide (by rw [HML.out, ← List.append_assoc]; exact HO8.out)⟩
              case measure => simp [intOf] <;> omega
  · have z1 : decide ((7 : Int) < (L : Int)) = true := decide_eq_true (by omega)
    have z2 : (7 : Int) < (L : Int) := by omega
    have z3 : decide (7 < L) = true := decide_eq_true (by omega)
    go_wp2_with (go_at_call 44; (with_reducible refine (vknown_any _).mono ?_); rintro e w9 ⟨rfl, hb⟩; have HB9 := hide (HF3.out.bw.trans (hb.mono HF3.out.bw.size)); clear hb)
    go_ret
    exact ⟨rfl, HB9.out⟩
end Go.Proofs.Ytnokfhkcfebimaa
