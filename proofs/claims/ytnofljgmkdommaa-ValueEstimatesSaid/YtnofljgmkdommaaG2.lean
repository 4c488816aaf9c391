/- Contracts of the functions that these laws reach: part 2: Seven stores into one block, and what a world that has grown reads; Blocks of seven cells, known whole; Plain laws of natural numbers as lists of limbs of 32 bits, the least significant one first; Plain laws of the steps of the schoolbook methods on limbs; Plain laws of greatest common divisors. -/
import Derived.Test.YtnofljgmkdommaaG1
set_option linter.unusedVariables false
set_option linter.unusedSimpArgs false

/- Seven stores into one block, and what a world that has grown reads. -/
namespace Go.Proofs.Ytnofljgmkdommaa
open Go.RowKit

def put7 (w : World) (B : Nat) (v0 v1 v2 v3 v4 v5 v6 : Value) : World :=
  ((((((w.setCell ⟨B, 0, none⟩ v0).setCell ⟨B, 1, none⟩ v1).setCell ⟨B, 2, none⟩ v2).setCell ⟨B, 3, none⟩ v3).setCell ⟨B, 4, none⟩ v4).setCell ⟨B, 5, none⟩ v5).setCell ⟨B, 6, none⟩ v6
theorem put7_cells {w : World} {B : Nat} {x0 x1 x2 x3 x4 x5 x6 v0 v1 v2 v3 v4 v5 v6 : Value} (h0 : w.cell? ⟨B, 0, none⟩ = some x0) (h1 : w.cell? ⟨B, 1, none⟩ = some x1) (h2 : w.cell? ⟨B, 2, none⟩ = some x2) (h3 : w.cell? ⟨B, 3, none⟩ = some x3) (h4 : w.cell? ⟨B, 4, none⟩ = some x4) (h5 : w.cell? ⟨B, 5, none⟩ = some x5) (h6 : w.cell? ⟨B, 6, none⟩ = some x6) :
    (put7 w B v0 v1 v2 v3 v4 v5 v6).cell? ⟨B, 0, none⟩ = some v0 ∧ (put7 w B v0 v1 v2 v3 v4 v5 v6).cell? ⟨B, 1, none⟩ = some v1 ∧ (put7 w B v0 v1 v2 v3 v4 v5 v6).cell? ⟨B, 2, none⟩ = some v2 ∧ (put7 w B v0 v1 v2 v3 v4 v5 v6).cell? ⟨B, 3, none⟩ = some v3 ∧
    (put7 w B v0 v1 v2 v3 v4 v5 v6).cell? ⟨B, 4, none⟩ = some v4 ∧ (put7 w B v0 v1 v2 v3 v4 v5 v6).cell? ⟨B, 5, none⟩ = some v5 ∧ (put7 w B v0 v1 v2 v3 v4 v5 v6).cell? ⟨B, 6, none⟩ = some v6 := by
  unfold put7
  refine ⟨?_, ?_, ?_, ?_, ?_, ?_, ?_⟩ <;> go_simp
theorem put7_other {w : World} {B : Nat} {v0 v1 v2 v3 v4 v5 v6 : Value} (b o : Nat) (h : B ≠ b) : (put7 w B v0 v1 v2 v3 v4 v5 v6).cell? ⟨b, o, none⟩ = w.cell? ⟨b, o, none⟩ := by
  unfold put7
  have h' : ∀ j, (⟨B, j, none⟩ : Addr) ≠ ⟨b, o, none⟩ := fun j e => h (by injection e)
  rw [World.cell?_setCell_other _ _ _ _ (h' _), World.cell?_setCell_other _ _ _ _ (h' _), World.cell?_setCell_other _ _ _ _ (h' _), World.cell?_setCell_other _ _ _ _ (h' _), World.cell?_setCell_other _ _ _ _ (h' _), World.cell?_setCell_other _ _ _ _ (h' _), World.cell?_setCell_other _ _ _ _ (h' _)]
theorem put7_frozen {w : World} {B : Nat} {v0 v1 v2 v3 v4 v5 v6 : Value} (b o : Nat) : (put7 w B v0 v1 v2 v3 v4 v5 v6).frozen? ⟨b, o, none⟩ = w.frozen? ⟨b, o, none⟩ := by
  unfold put7
  simp only [World.frozen?_setCell]

end Go.Proofs.Ytnofljgmkdommaa

/- Blocks of seven cells, known whole. -/
namespace Go.Proofs.Ytnofljgmkdommaa
open Go.RowKit

structure V7 where
  v0 : Value
  v1 : Value
  v2 : Value
  v3 : Value
  v4 : Value
  v5 : Value
  v6 : Value

/-- The seven cells of block b, which may be written. -/
def B7 (w : World) (b : Nat) (v : V7) : Prop :=
  b < w.heap.size ∧ (w.cell? ⟨b, 0, none⟩ = some v.v0 ∧ w.cell? ⟨b, 1, none⟩ = some v.v1 ∧ w.cell? ⟨b, 2, none⟩ = some v.v2 ∧ w.cell? ⟨b, 3, none⟩ = some v.v3 ∧ w.cell? ⟨b, 4, none⟩ = some v.v4 ∧ w.cell? ⟨b, 5, none⟩ = some v.v5 ∧ w.cell? ⟨b, 6, none⟩ = some v.v6) ∧ (∀ j, w.frozen? ⟨b, j, none⟩ = false) ∧ ∀ j, w.cell? ⟨b, j + 7, none⟩ = none

theorem put7_some {w : World} {B : Nat} {v0 v1 v2 v3 v4 v5 v6 : Value} (q : Addr) : ((put7 w B v0 v1 v2 v3 v4 v5 v6).cell? q).isSome = (w.cell? q).isSome := by
  unfold put7
  simp only [isSome_setCell]
theorem B7.fr {w w' : World} {b : Nat} {v : V7} {S : Nat → Prop} (h : B7 w b v) (hf : Fr w w' S) (hS : ¬ S b) : B7 w' b v := by
  obtain ⟨h0, ⟨h1, h2, h3, h4, h5, h6, h7⟩, h8, h9⟩ := h
  have hk := hf.block b h0 hS
  have tr : ∀ {o : Nat} {u : Value}, w.cell? ⟨b, o, none⟩ = some u → w'.cell? ⟨b, o, none⟩ = some u := fun hu => (World.cell?_of_block (w := w) hk).trans hu
  exact ⟨Nat.lt_of_lt_of_le h0 hf.size, ⟨tr h1, tr h2, tr h3, tr h4, tr h5, tr h6, tr h7⟩, fun j => (World.frozen?_of_block (w := w) hk).trans (h8 j), fun j => (World.cell?_of_block (w := w) hk).trans (h9 j)⟩
theorem B7.put {w : World} {b : Nat} {v : V7} (u : V7) (h : B7 w b v) : B7 (put7 w b u.v0 u.v1 u.v2 u.v3 u.v4 u.v5 u.v6) b u := by
  obtain ⟨h0, ⟨h1, h2, h3, h4, h5, h6, h7⟩, h8, h9⟩ := h
  exact ⟨by simpa [put7, World.setCell] using h0, put7_cells h1 h2 h3 h4 h5 h6 h7, fun j => (put7_frozen _ _).trans (h8 j), fun j => by
    have h := put7_some (w := w) (B := b) (v0 := u.v0) (v1 := u.v1) (v2 := u.v2) (v3 := u.v3) (v4 := u.v4) (v5 := u.v5) (v6 := u.v6) ⟨b, j + 7, none⟩
    rw [h9 j] at h
    exact Option.isSome_eq_false_iff.1 h |> Option.isNone_iff_eq_none.1⟩
theorem fr_put7 {w : World} {b : Nat} {v0 v1 v2 v3 v4 v5 v6 : Value} : Fr w (put7 w b v0 v1 v2 v3 v4 v5 v6) (fun i => i = b) := by
  unfold put7
  iterate 7 (refine Fr.setCell ?_ (Or.inr (by rfl)) _)
  exact Fr.refl _ _

/-- Six such blocks in a row. -/
def S6 (w : World) (H : Nat) (x0 x1 x2 x3 x4 x5 : V7) : Prop := B7 w H x0 ∧ B7 w (H + 1) x1 ∧ B7 w (H + 2) x2 ∧ B7 w (H + 3) x3 ∧ B7 w (H + 4) x4 ∧ B7 w (H + 5) x5
theorem S6.fr {w w' : World} {H : Nat} {x0 x1 x2 x3 x4 x5 : V7} {S : Nat → Prop} (h : S6 w H x0 x1 x2 x3 x4 x5) (hf : Fr w w' S) (hS : ∀ i, H ≤ i → i < H + 6 → ¬ S i) : S6 w' H x0 x1 x2 x3 x4 x5 := by
  obtain ⟨h0, h1, h2, h3, h4, h5⟩ := h
  exact ⟨h0.fr hf (hS _ (by omega) (by omega)), h1.fr hf (hS _ (by omega) (by omega)), h2.fr hf (hS _ (by omega) (by omega)), h3.fr hf (hS _ (by omega) (by omega)), h4.fr hf (hS _ (by omega) (by omega)), h5.fr hf (hS _ (by omega) (by omega))⟩
theorem S6.put4 {w : World} {H : Nat} {x0 x1 x2 x3 x4 x5 : V7} (u : V7) (h : S6 w H x0 x1 x2 x3 x4 x5) : S6 (put7 w (H + 4) u.v0 u.v1 u.v2 u.v3 u.v4 u.v5 u.v6) H x0 x1 x2 x3 u x5 := by
  obtain ⟨h0, h1, h2, h3, h4, h5⟩ := h
  exact ⟨h0.fr fr_put7 (by omega), h1.fr fr_put7 (by omega), h2.fr fr_put7 (by omega), h3.fr fr_put7 (by omega), h4.put u, h5.fr fr_put7 (by omega)⟩
theorem S6.put5 {w : World} {H : Nat} {x0 x1 x2 x3 x4 x5 : V7} (u : V7) (h : S6 w H x0 x1 x2 x3 x4 x5) : S6 (put7 w (H + 5) u.v0 u.v1 u.v2 u.v3 u.v4 u.v5 u.v6) H x0 x1 x2 x3 x4 u := by
  obtain ⟨h0, h1, h2, h3, h4, h5⟩ := h
  exact ⟨h0.fr fr_put7 (by omega), h1.fr fr_put7 (by omega), h2.fr fr_put7 (by omega), h3.fr fr_put7 (by omega), h4.fr fr_put7 (by omega), h5.put u⟩

/-- A slice that reads as a list, where other blocks were written. -/
theorem Rs.fr {w w' : World} {av : Option Nat} {α : Type} {s : Nat} {f : α → List Value} {A : Option Addr} {l : List α} {S : Nat → Prop} (h : Rs w av s f A l) (hf : Fr w w' S) (hS : l ≠ [] → ∀ b o, A = some ⟨b, o, none⟩ → some b ≠ av → ¬ S b) : Rs w' av s f A l := by
  intro hl
  obtain ⟨b, o, hA, hn, hb, hc⟩ := h hl
  refine ⟨b, o, hA, hn, Nat.lt_of_lt_of_le hb hf.size, fun k a hk j u hu => ?_⟩
  rw [World.cell?_of_block (w := w) (hf.block b hb (hS hl b o hA hn))]
  exact hc k a hk j u hu
theorem Rs.tape {w w' : World} {T : Nat} {α : Type} {s : Nat} {f : α → List Value} {A : Option Addr} {l : List α} (h : Rs w (some T) s f A l) (hf : Fr w w' (fun i => i = T)) : Rs w' (some T) s f A l :=
  h.fr hf (fun _ _ _ _ hn e => hn (by rw [e]))

/-- A value that is no string. -/
def noStr : Value → Prop
  | .string _ => False
  | _ => True
/-- A list of elements whose first cell is a string does not lie in such a block without strings. -/
theorem rs_not_b7 {w : World} {av : Option Nat} {α : Type} {s : Nat} {f : α → List Value} {A : Option Addr} {l : List α} {b : Nat} {v : V7} (h : Rs w av s f A l) (hf : ∀ a, ∃ p, (f a)[0]? = some (.string p)) (hb : B7 w b v)
    (hv : noStr v.v0 ∧ noStr v.v1 ∧ noStr v.v2 ∧ noStr v.v3 ∧ noStr v.v4 ∧ noStr v.v5 ∧ noStr v.v6) : l ≠ [] → ∀ b' o, A = some ⟨b', o, none⟩ → b' ≠ b := by
  intro hl b' o hA he
  subst he
  obtain ⟨b2, o2, hA2, _, _, hc⟩ := h hl
  rw [hA] at hA2
  injection hA2 with hA2
  injection hA2 with h1 h2
  subst h1 h2
  obtain ⟨a, l', rfl⟩ := List.exists_cons_of_ne_nil hl
  obtain ⟨p, hp⟩ := hf a
  have hc0 := hc 0 a rfl 0 _ hp
  simp only [Nat.zero_mul, Nat.add_zero] at hc0
  obtain ⟨_, ⟨h1, h2, h3, h4, h5, h6, h7⟩, _, h9⟩ := hb
  obtain ⟨n1, n2, n3, n4, n5, n6, n7⟩ := hv
  have key : ∀ u, w.cell? ⟨b', o, none⟩ = some u → noStr u → False := by
    intro u hu hn
    rw [hc0] at hu
    injection hu with hu
    subst hu
    exact hn
  match o with
  | 0 => exact key _ h1 n1
  | 1 => exact key _ h2 n2
  | 2 => exact key _ h3 n3
  | 3 => exact key _ h4 n4
  | 4 => exact key _ h5 n5
  | 5 => exact key _ h6 n6
  | 6 => exact key _ h7 n7
  | j + 7 => rw [h9 j] at hc0; cases hc0

end Go.Proofs.Ytnofljgmkdommaa

/- Plain laws of natural numbers as lists of limbs of 32 bits, the least significant one first. -/
namespace Go.Proofs.Ytnofljgmkdommaa

/-- The value of limbs. -/
def lv : List Nat → Nat
  | [] => 0
  | x :: l => x + 4294967296 * lv l
/-- The limbs of a number, without zeros at the end. -/
def lm (n : Nat) : List Nat := if h : n = 0 then [] else n % 4294967296 :: lm (n / 4294967296)
termination_by n
decreasing_by omega
def okL (l : List Nat) : Prop := ∀ x ∈ l, x < 4294967296

theorem lm_zero : lm 0 = [] := by rw [lm]; rfl
theorem lm_pos {n : Nat} (h : n ≠ 0) : lm n = n % 4294967296 :: lm (n / 4294967296) := by rw [lm]; simp [h]
theorem lv_lm (n : Nat) : lv (lm n) = n := by
  by_cases h : n = 0
  · subst h; rw [lm_zero]; rfl
  · rw [lm_pos h, lv, lv_lm (n / 4294967296)]; omega
termination_by n
decreasing_by omega
theorem okL_lm (n : Nat) : okL (lm n) := by
  by_cases h : n = 0
  · subst h; rw [lm_zero]; intro x hx; simp at hx
  · rw [lm_pos h]
    intro x hx
    rcases List.mem_cons.1 hx with rfl | hx
    · omega
    · exact okL_lm (n / 4294967296) x hx
termination_by n
decreasing_by omega
theorem okL_nil : okL [] := fun x hx => by simp at hx
theorem okL_cons {x : Nat} {l : List Nat} : okL (x :: l) ↔ x < 4294967296 ∧ okL l := by simp [okL]
theorem okL.get {l : List Nat} (h : okL l) {i x : Nat} (hx : l[i]? = some x) : x < 4294967296 := h x (List.mem_of_getElem? hx)
theorem okL.take {l : List Nat} (h : okL l) (k : Nat) : okL (l.take k) := fun x hx => h x (List.mem_of_mem_take hx)
theorem okL.drop {l : List Nat} (h : okL l) (k : Nat) : okL (l.drop k) := fun x hx => h x (List.mem_of_mem_drop hx)
theorem okL.append {a b : List Nat} (h : okL a) (k : okL b) : okL (a ++ b) := fun x hx => by
  rcases List.mem_append.1 hx with hx | hx
  · exact h x hx
  · exact k x hx
theorem okL.set {l : List Nat} (h : okL l) {i x : Nat} (hx : x < 4294967296) : okL (l.set i x) := fun y hy => by
  rcases List.mem_or_eq_of_mem_set hy with hy | rfl
  · exact h y hy
  · exact hx
theorem lm_eq_nil {n : Nat} : lm n = [] ↔ n = 0 := by
  constructor
  · intro h
    have := lv_lm n
    rw [h] at this
    exact this.symm
  · rintro rfl; exact lm_zero
/-- Limbs without zeros at the end are those of their value. -/
theorem lm_lv : ∀ {l : List Nat}, okL l → (∀ h : l ≠ [], l.getLast h ≠ 0) → lm (lv l) = l
  | [], _, _ => by rw [lv, lm_zero]
  | x :: l, h, k => by
    have hx := (okL_cons.1 h).1
    have hl := (okL_cons.1 h).2
    have k' : ∀ h : l ≠ [], l.getLast h ≠ 0 := fun h' => by
      have := k (by simp)
      rwa [List.getLast_cons h'] at this
    have ih := lm_lv hl k'
    have hne : lv (x :: l) ≠ 0 := by
      rw [lv]
      by_cases hl0 : l = []
      · subst hl0
        have := k (by simp)
        simp at this
        omega
      · have : lv l ≠ 0 := fun e => by rw [e, lm_zero] at ih; exact hl0 ih.symm
        omega
    rw [lm_pos hne, lv]
    have e1 : (x + 4294967296 * lv l) % 4294967296 = x := by omega
    have e2 : (x + 4294967296 * lv l) / 4294967296 = lv l := by omega
    rw [e1, e2, ih]
theorem lm_getLast {n : Nat} (h : lm n ≠ []) : (lm n).getLast h ≠ 0 := by
  have hn : n ≠ 0 := fun e => h (lm_eq_nil.2 e)
  by_cases h1 : n / 4294967296 = 0
  · simp only [lm_pos hn, h1, lm_zero, List.getLast_singleton]
    omega
  · have h2 : lm (n / 4294967296) ≠ [] := fun e => h1 (lm_eq_nil.1 e)
    have e : (lm n).getLast h = (lm (n / 4294967296)).getLast h2 := by
      simp only [lm_pos hn]
      rw [List.getLast_cons h2]
    rw [e]
    exact lm_getLast h2
termination_by n
decreasing_by omega
theorem lv_append : ∀ (a b : List Nat), lv (a ++ b) = lv a + 4294967296 ^ a.length * lv b
  | [], b => by simp [lv]
  | x :: a, b => by
    rw [List.cons_append, lv, lv, lv_append a b, List.length_cons, Nat.pow_succ, Nat.mul_add]
    rw [Nat.mul_comm (4294967296 ^ a.length) 4294967296, Nat.mul_assoc]
    omega
theorem lv_lt : ∀ {l : List Nat}, okL l → lv l < 4294967296 ^ l.length
  | [], _ => by simp [lv]
  | x :: l, h => by
    have hx := (okL_cons.1 h).1
    have ih := lv_lt (okL_cons.1 h).2
    rw [lv, List.length_cons, Nat.pow_succ]
    omega
theorem lv_take_succ {l : List Nat} {k x : Nat} (h : l[k]? = some x) : lv (l.take (k + 1)) = lv (l.take k) + 4294967296 ^ k * x := by
  have hk : k < l.length := (List.getElem?_eq_some_iff.1 h).1
  have hx : l[k] = x := (List.getElem?_eq_some_iff.1 h).2
  rw [List.take_succ_eq_append_getElem hk, lv_append, hx]
  have : (l.take k).length = k := by rw [List.length_take]; omega
  rw [this]
  simp [lv]
theorem lv_take_drop (l : List Nat) (k : Nat) (hk : k ≤ l.length) : lv l = lv (l.take k) + 4294967296 ^ k * lv (l.drop k) := by
  conv => lhs; rw [← List.take_append_drop k l, lv_append]
  rw [List.length_take, Nat.min_eq_left hk]
theorem lv_drop {l : List Nat} {k x : Nat} (h : l[k]? = some x) : lv (l.drop k) = x + 4294967296 * lv (l.drop (k + 1)) := by
  have hk : k < l.length := (List.getElem?_eq_some_iff.1 h).1
  have hx : l[k] = x := (List.getElem?_eq_some_iff.1 h).2
  rw [List.drop_eq_getElem_cons hk, lv, hx]
theorem lv_snoc (l : List Nat) (x : Nat) : lv (l ++ [x]) = lv l + 4294967296 ^ l.length * x := by rw [lv_append]; simp [lv]
theorem lv_replicate (n : Nat) : lv (List.replicate n 0) = 0 := by
  induction n with
  | zero => rfl
  | succ n ih => rw [List.replicate_succ, lv, ih]
theorem okL_replicate (n : Nat) : okL (List.replicate n 0) := fun x hx => by
  have := (List.mem_replicate.1 hx).2
  omega
/-- One limb is set. -/
theorem lv_set : ∀ {l : List Nat} {k x y : Nat}, l[k]? = some x → lv (l.set k y) + 4294967296 ^ k * x = lv l + 4294967296 ^ k * y
  | [], k, x, y, h => by simp at h
  | a :: l, 0, x, y, h => by
    simp at h
    subst h
    simp [lv]
    omega
  | a :: l, k + 1, x, y, h => by
    have ih := lv_set (l := l) (k := k) (x := x) (y := y) (by simpa using h)
    rw [List.set_cons_succ, lv, lv, Nat.pow_succ, Nat.mul_comm (4294967296 ^ k) 4294967296, Nat.mul_assoc, Nat.mul_assoc]
    omega
/-- A number's limbs are few. -/
theorem lm_length_le {n k : Nat} : (lm n).length ≤ k ↔ n < 4294967296 ^ k := by
  constructor
  · intro h
    have h1 := lv_lt (okL_lm n)
    rw [lv_lm] at h1
    exact Nat.lt_of_lt_of_le h1 (Nat.pow_le_pow_right (by omega) h)
  · intro h
    by_cases h0 : lm n = []
    · rw [h0]; simp
    · have hl := lm_getLast h0
      have e := lv_lm n
      rw [← List.dropLast_concat_getLast h0, lv_snoc, List.length_dropLast] at e
      have h1 : 4294967296 ^ ((lm n).length - 1) ≤ n := by
        have h2 : 4294967296 ^ ((lm n).length - 1) * 1 ≤ 4294967296 ^ ((lm n).length - 1) * (lm n).getLast h0 := Nat.mul_le_mul_left _ (by omega)
        omega
      have h3 : 4294967296 ^ ((lm n).length - 1) < 4294967296 ^ k := by omega
      have h4 := (Nat.pow_lt_pow_iff_right (by omega : 1 < 4294967296)).1 h3
      omega
theorem lm_lt_pow (n : Nat) : n < 4294967296 ^ (lm n).length := lm_length_le.1 (Nat.le_refl _)
theorem lm_length_lt {n k : Nat} : k < (lm n).length ↔ 4294967296 ^ k ≤ n := by
  have := lm_length_le (n := n) (k := k)
  omega
theorem lm_length_mono {a b : Nat} (h : a ≤ b) : (lm a).length ≤ (lm b).length := lm_length_le.2 (Nat.lt_of_le_of_lt h (lm_lt_pow b))
theorem lm_length_mul (a b : Nat) : (lm (a * b)).length ≤ (lm a).length + (lm b).length := by
  rw [lm_length_le, Nat.pow_add]
  have h1 := lm_lt_pow a
  have h2 := lm_lt_pow b
  exact Nat.lt_of_le_of_lt (Nat.mul_le_mul_left _ (Nat.le_of_lt h2)) (Nat.mul_lt_mul_of_pos_right h1 (Nat.pow_pos (by omega)))
theorem lm_length_add (a b : Nat) : (lm (a + b)).length ≤ max (lm a).length (lm b).length + 1 := by
  rw [lm_length_le, Nat.pow_succ]
  have h1 := lm_length_le.1 (Nat.le_max_left (lm a).length (lm b).length)
  have h2 := lm_length_le.1 (Nat.le_max_right (lm a).length (lm b).length)
  omega
theorem lm_inj {a b : Nat} (h : lm a = lm b) : a = b := by rw [← lv_lm a, ← lv_lm b, h]
theorem lm_small {x : Nat} (h : x < 4294967296) (h0 : x ≠ 0) : lm x = [x] := by
  rw [lm_pos h0, Nat.mod_eq_of_lt h, Nat.div_eq_of_lt h, lm_zero]
theorem lm_one : lm 1 = [1] := lm_small (by omega) (by omega)
theorem lm_ten : lm 10 = [10] := lm_small (by omega) (by omega)
/-- Cutting a zero off the end. -/
theorem lv_take_zero {l : List Nat} {k : Nat} (h : l[k]? = some 0) : lv (l.take (k + 1)) = lv (l.take k) := by rw [lv_take_succ h]; omega
/-- What Trim leaves. -/
theorem take_eq_lm {l : List Nat} {k : Nat} (hl : okL l) (hk : k ≤ l.length) (hv : lv (l.take k) = lv l) (he : k = 0 ∨ ∃ x, l[k - 1]? = some x ∧ x ≠ 0) : l.take k = lm (lv l) := by
  rw [← hv]
  refine (lm_lv (hl.take k) fun hne => ?_).symm
  rcases he with rfl | ⟨x, hx, h0⟩
  · simp at hne
  · have hk0 : k ≠ 0 := by rintro rfl; simp at hne
    have hlen : (l.take k).length = k := by rw [List.length_take]; omega
    rw [List.getLast_eq_getElem]
    have hx' : (l.take k)[k - 1]? = some x := by rw [List.getElem?_take, if_pos (by omega)]; exact hx
    have := (List.getElem?_eq_some_iff.1 hx').2
    simp only [hlen]
    rw [this]
    exact h0
/-- -1, 0 or 1. -/
def cmpN (a b : Nat) : Int := if a < b then -1 else if a = b then 0 else 1
theorem cmpN_lt {a b : Nat} (h : a < b) : cmpN a b = -1 := by simp [cmpN, h]
theorem cmpN_gt {a b : Nat} (h : b < a) : cmpN a b = 1 := by unfold cmpN; rw [if_neg (by omega), if_neg (by omega)]
theorem cmpN_eq (a : Nat) : cmpN a a = 0 := by simp [cmpN]
theorem cmpN_neg {a b : Nat} : cmpN a b < 0 ↔ a < b := by unfold cmpN; split <;> (try split) <;> omega
theorem cmpN_zero {a b : Nat} : cmpN a b = 0 ↔ a = b := by unfold cmpN; split <;> (try split) <;> omega
theorem cmpN_le {a b : Nat} : cmpN a b ≤ 0 ↔ a ≤ b := by unfold cmpN; split <;> (try split) <;> omega
theorem lt_of_length {a b : Nat} (h : (lm a).length < (lm b).length) : a < b := by
  rw [lm_length_lt] at h
  exact Nat.lt_of_lt_of_le (lm_lt_pow a) h
/-- Two lists that agree from a limb on. -/
theorem lt_of_limb {a b : List Nat} {k x y : Nat} (ha : okL a) (hx : a[k]? = some x) (hy : b[k]? = some y) (hd : a.drop (k + 1) = b.drop (k + 1)) (h : x < y) : lv a < lv b := by
  have h1 : k < a.length := (List.getElem?_eq_some_iff.1 hx).1
  have h2 : k < b.length := (List.getElem?_eq_some_iff.1 hy).1
  rw [lv_take_drop a k (by omega), lv_take_drop b k (by omega), lv_drop hx, lv_drop hy, hd]
  have h3 := lv_lt (ha.take k)
  rw [List.length_take, Nat.min_eq_left (by omega)] at h3
  have h4 : 4294967296 ^ k * (x + 1 + 4294967296 * lv (b.drop (k + 1))) ≤ 4294967296 ^ k * (y + 4294967296 * lv (b.drop (k + 1))) := Nat.mul_le_mul_left _ (by omega)
  rw [Nat.mul_add, Nat.mul_add, Nat.mul_one] at h4
  rw [Nat.mul_add]
  omega

end Go.Proofs.Ytnofljgmkdommaa

/- Plain laws of the steps of the schoolbook methods on limbs. -/
namespace Go.Proofs.Ytnofljgmkdommaa

theorem lv_take_succ' (l : List Nat) (k : Nat) : lv (l.take (k + 1)) = lv (l.take k) + 4294967296 ^ k * (l[k]?.getD 0) := by
  by_cases hk : k < l.length
  · rw [lv_take_succ (List.getElem?_eq_getElem hk), List.getElem?_eq_getElem hk]; rfl
  · rw [List.getElem?_eq_none (by omega), List.take_of_length_le (by omega), List.take_of_length_le (by omega)]
    simp
theorem pow_succ_mul (k c : Nat) : 4294967296 ^ (k + 1) * c = 4294967296 ^ k * (4294967296 * c) := by rw [Nat.pow_succ, Nat.mul_assoc]
theorem pow_pos' (k : Nat) : 0 < 4294967296 ^ k := Nat.pow_pos (by omega)

/-- A round of an addition: out gets the low limb of s, the rest is carried. -/
theorem add_step {o a b : List Nat} {k c s : Nat} (ho : o.length = k) (h : lv o + 4294967296 ^ k * c = lv (a.take k) + lv (b.take k)) (hs : s = a[k]?.getD 0 + c + b[k]?.getD 0) :
    lv (o ++ [s % 4294967296]) + 4294967296 ^ (k + 1) * (s / 4294967296) = lv (a.take (k + 1)) + lv (b.take (k + 1)) := by
  rw [lv_snoc, ho, lv_take_succ', lv_take_succ', pow_succ_mul, Nat.add_assoc, ← Nat.mul_add]
  have e : s % 4294967296 + 4294967296 * (s / 4294967296) = s := by omega
  rw [e, hs, Nat.mul_add, Nat.mul_add]
  omega
/-- A round of a subtraction. -/
theorem sub_step {o a b : List Nat} {k w d w' : Nat} (ho : o.length = k) (h : lv o + lv (b.take k) = lv (a.take k) + 4294967296 ^ k * w)
    (hd : d + w + b[k]?.getD 0 = a[k]?.getD 0 + 4294967296 * w') : lv (o ++ [d]) + lv (b.take (k + 1)) = lv (a.take (k + 1)) + 4294967296 ^ (k + 1) * w' := by
  rw [lv_snoc, ho, lv_take_succ', lv_take_succ', pow_succ_mul]
  have e : 4294967296 ^ k * (d + w + b[k]?.getD 0) = 4294967296 ^ k * (a[k]?.getD 0 + 4294967296 * w') := by rw [hd]
  rw [Nat.mul_add, Nat.mul_add, Nat.mul_add] at e
  omega
theorem sub_end {o a b : List Nat} {n w : Nat} (hb : okL o) (ho : o.length = n) (h : lv o + lv b = lv a + 4294967296 ^ n * w) (hba : lv b ≤ lv a) : lv o = lv a - lv b := by
  have h1 := lv_lt hb
  rw [ho] at h1
  have : w = 0 := by
    rcases Nat.eq_zero_or_pos w with h0 | h0
    · exact h0
    · have : 4294967296 ^ n * 1 ≤ 4294967296 ^ n * w := Nat.mul_le_mul_left _ h0
      omega
  subst this
  omega

/-- The value when position p is set from x to y. -/
theorem lv_set' {l : List Nat} {p y : Nat} (hp : p < l.length) : lv (l.set p y) + 4294967296 ^ p * (l[p]?.getD 0) = lv l + 4294967296 ^ p * y := by
  rw [List.getElem?_eq_getElem hp]
  exact lv_set (List.getElem?_eq_getElem hp)
/-- A round of the inner loop of a multiplication: s = x * y + the old limb + c. -/
theorem mul_step {o0 o b : List Nat} {i k c x s : Nat} (hp : i + k < o.length) (h : lv o + 4294967296 ^ (i + k) * c = lv o0 + 4294967296 ^ i * (x * lv (b.take k)))
    (hs : s = x * b[k]?.getD 0 + o[i + k]?.getD 0 + c) : lv (o.set (i + k) (s % 4294967296)) + 4294967296 ^ (i + (k + 1)) * (s / 4294967296) = lv o0 + 4294967296 ^ i * (x * lv (b.take (k + 1))) := by
  have h1 := lv_set' (y := s % 4294967296) hp
  rw [← Nat.add_assoc, pow_succ_mul, lv_take_succ', Nat.mul_add x, Nat.mul_add]
  have e2 : 4294967296 ^ i * (x * (4294967296 ^ k * b[k]?.getD 0)) = 4294967296 ^ (i + k) * (x * b[k]?.getD 0) := by
    rw [Nat.pow_add, Nat.mul_assoc, ← Nat.mul_assoc x, Nat.mul_comm x, Nat.mul_assoc]
  rw [e2]
  have e3 : 4294967296 ^ (i + k) * (s % 4294967296 + 4294967296 * (s / 4294967296)) = 4294967296 ^ (i + k) * (x * b[k]?.getD 0 + o[i + k]?.getD 0 + c) := by
    rw [← hs]; congr 1; omega
  rw [Nat.mul_add, Nat.mul_add, Nat.mul_add] at e3
  omega
theorem mul_lt {x y z c : Nat} (hx : x < 4294967296) (hy : y < 4294967296) (hz : z < 4294967296) (hc : c < 4294967296) : x * y + z + c < 18446744073709551616 := by
  have : x * y ≤ 4294967295 * 4294967295 := Nat.mul_le_mul (by omega) (by omega)
  omega
/-- The last limb of a row is laid. -/
theorem mul_last {o0 o b : List Nat} {i c x : Nat} (hp : i + b.length < o.length) (h : lv o + 4294967296 ^ (i + b.length) * c = lv o0 + 4294967296 ^ i * (x * lv b)) (hz : o[i + b.length]?.getD 0 = 0) :
    lv (o.set (i + b.length) c) = lv o0 + 4294967296 ^ i * (x * lv b) := by
  have h1 := lv_set' (y := c) hp
  rw [hz] at h1
  omega
theorem mul_row {a b : List Nat} {i : Nat} : lv (a.take i) * lv b + 4294967296 ^ i * (a[i]?.getD 0 * lv b) = lv (a.take (i + 1)) * lv b := by
  rw [lv_take_succ', Nat.add_mul, Nat.mul_assoc]

/-- A round of a division by a limb, from the top down. -/
theorem small_step {a o : List Nat} {i r d x s : Nat} (hl : a.length = o.length) (hi : i < a.length) (hx : a[i]? = some x) (h : lv (a.drop (i + 1)) = lv (o.drop (i + 1)) * d + r) (hs : s = r * 4294967296 + x) :
    lv (a.drop i) = lv ((o.set i (s / d)).drop i) * d + s % d := by
  have h1 : (o.set i (s / d))[i]? = some (s / d) := by rw [List.getElem?_set_self (by omega)]
  rw [lv_drop hx, lv_drop h1, List.drop_set_of_lt (by omega), h]
  have e : s / d * d + s % d = s := by rw [Nat.mul_comm]; exact Nat.div_add_mod s d
  rw [Nat.add_mul, Nat.mul_add]
  rw [Nat.mul_assoc]
  omega
theorem small_lt {r d x s : Nat} (hr : r < d) (hx : x < 4294967296) (hs : s = r * 4294967296 + x) : s / d < 4294967296 := by
  rw [Nat.div_lt_iff_lt_mul (by omega)]
  have : (r + 1) * 4294967296 ≤ d * 4294967296 := Nat.mul_le_mul_right _ hr
  rw [Nat.add_mul] at this
  rw [Nat.mul_comm 4294967296 d]
  omega

/-- A round of a shift to the left. -/
theorem shl_step {a o : List Nat} {k c x s m : Nat} (ho : o.length = k) (hx : a[k]? = some x) (h : lv o + 4294967296 ^ k * c = lv (a.take k) * m) (hs : s = x * m + c) :
    lv (o ++ [s % 4294967296]) + 4294967296 ^ (k + 1) * (s / 4294967296) = lv (a.take (k + 1)) * m := by
  rw [lv_snoc, ho, lv_take_succ hx, pow_succ_mul, Nat.add_assoc, ← Nat.mul_add]
  have e : s % 4294967296 + 4294967296 * (s / 4294967296) = s := by omega
  rw [e, hs, Nat.mul_add, Nat.add_mul, Nat.mul_assoc]
  omega
/-- A round of a shift to the right. -/
theorem shr_dig {x y Y n : Nat} (hn : n ≤ 32) (hx : x < 4294967296) (hy : Y % 4294967296 = y) :
    (x + 4294967296 * Y) / 2 ^ n = (x + 4294967296 * y) / 2 ^ n % 4294967296 + 4294967296 * (Y / 2 ^ n) := by
  have hB : 4294967296 = 2 ^ n * 2 ^ (32 - n) := by rw [← Nat.pow_add, show n + (32 - n) = 32 by omega]
  have e1 : (x + 4294967296 * Y) / 2 ^ n = x / 2 ^ n + 2 ^ (32 - n) * Y := by
    conv => lhs; rw [hB, Nat.mul_assoc]
    rw [Nat.add_mul_div_left _ _ (Nat.pow_pos (by omega))]
  have e2 : (x + 4294967296 * y) / 2 ^ n = x / 2 ^ n + 2 ^ (32 - n) * y := by
    conv => lhs; rw [hB, Nat.mul_assoc]
    rw [Nat.add_mul_div_left _ _ (Nat.pow_pos (by omega))]
  rw [e1, e2]
  have hd : x / 2 ^ n < 2 ^ (32 - n) := by
    rw [Nat.div_lt_iff_lt_mul (Nat.pow_pos (by omega)), Nat.mul_comm, ← hB]; exact hx
  have hP : 0 < 2 ^ n := Nat.pow_pos (by omega)
  generalize hD : x / 2 ^ n = D at *
  generalize hR : 2 ^ (32 - n) = R at *
  generalize hPP : 2 ^ n = P at *
  -- Y = P * Q + S ; y ≡ Y
  have hQ : Y = P * (Y / P) + Y % P := (Nat.div_add_mod Y P).symm
  have hS : Y % P < P := Nat.mod_lt _ hP
  generalize Y / P = Q at *
  generalize Y % P = S at *
  have hyS : y % P = S := by
    rw [← hy, hB, Nat.mod_mul_right_mod, hQ, Nat.mul_add_mod, Nat.mod_eq_of_lt hS]
  have hyQ : y = P * (y / P) + S := by rw [← hyS]; exact (Nat.div_add_mod y P).symm
  generalize y / P = T at *
  rw [hQ, hyQ, Nat.mul_add, Nat.mul_add, ← Nat.mul_assoc, ← Nat.mul_assoc, Nat.mul_comm R P, ← hB]
  have hlt : D + R * S < 4294967296 := by
    have : R * (S + 1) ≤ R * P := Nat.mul_le_mul_left _ hS
    rw [Nat.mul_add, Nat.mul_comm R P, ← hB] at this
    omega
  omega
theorem shr_step {a o : List Nat} {k x n d V : Nat} (ho : o.length = k) (hn : n ≤ 32) (ha : okL a) (hx : a[k]? = some x) (hd : d = (x + 4294967296 * a[k + 1]?.getD 0) / 2 ^ n % 4294967296)
    (h : lv o + 4294967296 ^ k * (lv (a.drop k) / 2 ^ n) = V) : lv (o ++ [d]) + 4294967296 ^ (k + 1) * (lv (a.drop (k + 1)) / 2 ^ n) = V := by
  have hxl := ha.get hx
  have hy : lv (a.drop (k + 1)) % 4294967296 = a[k + 1]?.getD 0 := by
    by_cases hk : k + 1 < a.length
    · rw [lv_drop (List.getElem?_eq_getElem hk), List.getElem?_eq_getElem hk]
      have := ha.get (List.getElem?_eq_getElem hk)
      show _ = a[k+1]
      omega
    · rw [List.drop_eq_nil_of_le (by omega), List.getElem?_eq_none (by omega)]; rfl
  rw [← h, lv_snoc, ho, lv_drop hx, shr_dig hn hxl hy, ← hd, pow_succ_mul, Nat.mul_add]
  omega

/-- The trial digit: v1 and v2 are the highest limbs of V, t the two highest limbs of U, u2 the next one. -/
theorem guess_ge {U V t v1 v2 u2 W v' u' : Nat} (hW : 0 < W) (hV : V = (v1 * 4294967296 + v2) * W + v') (hU : U = (t * 4294967296 + u2) * W + u') (hu : u' < W) (hu2 : u2 < 4294967296) (hv1 : 0 < v1) : U / V ≤ t / v1 := by
  have hVp : 0 < V := by
    have : 1 * 4294967296 ≤ v1 * 4294967296 := Nat.mul_le_mul_right _ hv1
    have : 0 < (v1 * 4294967296 + v2) * W := Nat.mul_pos (by omega) hW
    omega
  rw [Nat.le_div_iff_mul_le hv1]
  have h1 : U / V * V ≤ U := Nat.div_mul_le_self U V
  generalize U / V = Q at *
  have h2 : Q * (v1 * 4294967296 * W) ≤ Q * V := Nat.mul_le_mul_left _ (by rw [hV, Nat.add_mul]; omega)
  have h3 : U < (t + 1) * 4294967296 * W := by
    have : (t * 4294967296 + u2 + 1) * W ≤ (t + 1) * 4294967296 * W := Nat.mul_le_mul_right _ (by omega)
    rw [Nat.add_mul _ 1] at this
    omega
  have h4 : Q * v1 * (4294967296 * W) < (t + 1) * (4294967296 * W) := by
    rw [Nat.mul_assoc, ← Nat.mul_assoc v1, ← Nat.mul_assoc (t + 1)]
    omega
  have := Nat.lt_of_mul_lt_mul_right h4
  omega
theorem guess_dec {U V t v1 v2 u2 W v' u' q r : Nat} (hV : V = (v1 * 4294967296 + v2) * W + v') (hU : U = (t * 4294967296 + u2) * W + u') (hu : u' < W) (hr : q * v1 + r = t) (hlt : r * 4294967296 + u2 < q * v2) (hVp : 0 < V) : U / V < q := by
  rw [Nat.div_lt_iff_lt_mul hVp]
  have h1 : t * 4294967296 + u2 + 1 ≤ q * (v1 * 4294967296 + v2) := by
    rw [Nat.mul_add, ← Nat.mul_assoc]
    have : (q * v1 + r) * 4294967296 = t * 4294967296 := by rw [hr]
    rw [Nat.add_mul] at this
    omega
  have h2 : (t * 4294967296 + u2 + 1) * W ≤ q * (v1 * 4294967296 + v2) * W := Nat.mul_le_mul_right _ h1
  rw [Nat.add_mul _ 1] at h2
  rw [hV, Nat.mul_add, ← Nat.mul_assoc]
  omega
theorem guess_le {U V t v1 v2 u2 W v' u' q r : Nat} (hV : V = (v1 * 4294967296 + v2) * W + v') (hU : U = (t * 4294967296 + u2) * W + u') (hr : q * v1 + r = t) (hle : q * v2 ≤ r * 4294967296 + u2) (hv : v' < W) (hq : q < 4294967296) (hv1 : 0 < v1) : q ≤ U / V + 1 := by
  have hW : 0 < W := by omega
  have hVp : 0 < V := by
    have : 1 * 4294967296 ≤ v1 * 4294967296 := Nat.mul_le_mul_right _ hv1
    have : 0 < (v1 * 4294967296 + v2) * W := Nat.mul_pos (by omega) hW
    omega
  rcases Nat.eq_zero_or_pos q with h0 | h0
  · subst h0; exact Nat.zero_le _
  · have : q - 1 ≤ U / V := by
      rw [Nat.le_div_iff_mul_le hVp, Nat.sub_mul, Nat.one_mul]
      have h1 : q * (v1 * 4294967296 + v2) ≤ t * 4294967296 + u2 := by
        rw [Nat.mul_add, ← Nat.mul_assoc]
        have : (q * v1 + r) * 4294967296 = t * 4294967296 := by rw [hr]
        rw [Nat.add_mul] at this
        omega
      have h2 : q * (v1 * 4294967296 + v2) * W ≤ (t * 4294967296 + u2) * W := Nat.mul_le_mul_right _ h1
      have h3 : q * v' ≤ 4294967296 * W := Nat.mul_le_mul (by omega) (by omega)
      have h4 : 4294967296 * W ≤ V := by
        rw [hV]
        have : (1 * 4294967296) * W ≤ (v1 * 4294967296) * W := Nat.mul_le_mul_right _ (Nat.mul_le_mul_right _ hv1)
        rw [Nat.add_mul]
        omega
      have h5 : q * V = q * (v1 * 4294967296 + v2) * W + q * v' := by rw [hV, Nat.mul_add, ← Nat.mul_assoc]
      omega
    generalize U / V = Z at *
    omega

/-- A round of q times v off u: d is the new limb. -/
theorem red_step {n u v : List Nat} {i q c w d w' p x y : Nat} (hn : n.length = i) (hx : v[i]? = some x) (hy : u[i]? = some y) (h : lv n + q * lv (v.take i) = lv (u.take i) + 4294967296 ^ i * (c + w))
    (hp : p = q * x + c) (hd : d + w + p % 4294967296 = y + 4294967296 * w') : lv (n ++ [d]) + q * lv (v.take (i + 1)) = lv (u.take (i + 1)) + 4294967296 ^ (i + 1) * (p / 4294967296 + w') := by
  rw [lv_snoc, hn, lv_take_succ hx, lv_take_succ hy, pow_succ_mul, Nat.mul_add q]
  have e : q * (4294967296 ^ i * x) = 4294967296 ^ i * (q * x) := by rw [← Nat.mul_assoc, Nat.mul_comm q, Nat.mul_assoc]
  have e2 : 4294967296 ^ i * (d + (q * x) + w + c) = 4294967296 ^ i * (y + 4294967296 * (p / 4294967296 + w') ) := by congr 1; omega
  rw [Nat.mul_add, Nat.mul_add, Nat.mul_add, Nat.mul_add (4294967296 ^ i) y] at e2
  rw [Nat.mul_add] at h
  rw [e]
  omega

/-- The end of reduce: no borrow. -/
theorem red_no {n u v : List Nat} {m q c w y V U : Nat} (hnl : n.length = m) (hul : u.length = m + 1) (hv : v.length = m) (hy : u[m]? = some y) (hV : lv v = V) (hU : lv u = U) (h : lv n + q * lv (v.take m) = lv (u.take m) + 4294967296 ^ m * (c + w)) (hle : c + w ≤ y) :
    lv (n ++ [y - w - c]) + q * V = U := by
  have e1 : lv u = lv (u.take m) + 4294967296 ^ m * y := by rw [← lv_take_succ hy, List.take_of_length_le (by omega)]
  rw [lv_snoc, hnl]
  rw [List.take_of_length_le (by omega)] at h
  rw [← hU, ← hV, e1]
  have : 4294967296 ^ m * (y - w - c) + 4294967296 ^ m * (c + w) = 4294967296 ^ m * y := by rw [← Nat.mul_add]; congr 1; omega
  omega
/-- The digit is right if nothing was borrowed, one too much if something was. -/
theorem red_q {U V q R : Nat} (hV : 0 < V) (hle : U / V ≤ q) (h : R + q * V = U) : q = U / V ∧ R = U % V := by
  have h1 : q ≤ U / V := by rw [Nat.le_div_iff_mul_le hV]; omega
  have e : q = U / V := by omega
  refine ⟨e, ?_⟩
  have := Nat.div_add_mod U V
  rw [← e, Nat.mul_comm] at this
  omega
theorem red_lt {n u v : List Nat} {m q c w y V U : Nat} (hn : okL n) (hnl : n.length = m) (hul : u.length = m + 1) (hv : v.length = m) (hy : u[m]? = some y) (hV : lv v = V) (hU : lv u = U) (h : lv n + q * lv (v.take m) = lv (u.take m) + 4294967296 ^ m * (c + w)) (hlt : y < c + w) : U < q * V := by
  have e1 : lv u = lv (u.take m) + 4294967296 ^ m * y := by rw [← lv_take_succ hy, List.take_of_length_le (by omega)]
  rw [List.take_of_length_le (by omega)] at h
  rw [← hU, ← hV, e1]
  have h1 := lv_lt hn
  rw [hnl] at h1
  have h2 : 4294967296 ^ m * (y + 1) ≤ 4294967296 ^ m * (c + w) := Nat.mul_le_mul_left _ hlt
  rw [Nat.mul_add] at h2
  omega
/-- A round of adding v back. -/
theorem back_step {n r v : List Nat} {i c t x y : Nat} (hn : n.length = i) (hx : v[i]? = some x) (hy : r[i]? = some y) (h : lv n + 4294967296 ^ i * c = lv (r.take i) + lv (v.take i)) (ht : t = y + x + c) :
    lv (n ++ [t % 4294967296]) + 4294967296 ^ (i + 1) * (t / 4294967296) = lv (r.take (i + 1)) + lv (v.take (i + 1)) := by
  rw [lv_snoc, hn, lv_take_succ hx, lv_take_succ hy, pow_succ_mul]
  have e2 : 4294967296 ^ i * (t % 4294967296 + 4294967296 * (t / 4294967296)) = 4294967296 ^ i * (y + x + c) := by rw [← ht]; congr 1; omega
  rw [Nat.mul_add, Nat.mul_add, Nat.mul_add] at e2
  omega
/-- The end of adding back: z is the top limb with the carry, cut to a limb. -/
theorem back_end {n n' u v : List Nat} {m q c w c' y V U z : Nat} (hn : okL n) (hn' : okL n') (hnl : n.length = m) (hnl' : n'.length = m) (hul : u.length = m + 1) (hv : v.length = m) (hy : u[m]? = some y) (hV : lv v = V) (hU : lv u = U)
    (h : lv n + q * lv (v.take m) = lv (u.take m) + 4294967296 ^ m * (c + w)) (hb : lv n' + 4294967296 ^ m * c' = lv n + lv v) (hlt : y < c + w) (hz : z < 4294967296) (hzz : ∃ k, z + 4294967296 * k + c + w = y + c' + 4294967296) (hq : q ≤ U / V + 1) (hVp : 0 < V) (hVm : V < 4294967296 ^ m) :
    q = U / V + 1 ∧ lv (n' ++ [z]) = U % V := by
  have hlt' := red_lt hn hnl hul hv hy hV hU h hlt
  have e1 : lv u = lv (u.take m) + 4294967296 ^ m * y := by rw [← lv_take_succ hy, List.take_of_length_le (by omega)]
  rw [List.take_of_length_le (by omega)] at h
  have hq1 : U / V < q := by rw [Nat.div_lt_iff_lt_mul hVp]; exact hlt'
  have hqe : q = U / V + 1 := by generalize U / V = Z at *; omega
  refine ⟨hqe, ?_⟩
  have hdm := Nat.div_add_mod U V
  have hml := Nat.mod_lt U hVp
  rw [hqe, Nat.add_mul, Nat.one_mul, Nat.mul_comm (U / V) V] at hlt'
  have hqV : q * V = V * (U / V) + V := by rw [hqe, Nat.add_mul, Nat.one_mul, Nat.mul_comm]
  have hvl := lv_lt (l := n') hn'
  rw [hnl'] at hvl
  -- R = U % V; lv n' + B^m c' = lv n + V ; lv n + q V = lv utake + B^m (c+w)
  have hR : lv n' + 4294967296 ^ m * (c' + y) = U % V + 4294967296 ^ m * (c + w) := by
    rw [hV] at h hb
    rw [hU] at e1
    rw [hqV] at h
    rw [Nat.mul_add]
    omega
  obtain ⟨k, hk⟩ := hzz
  have hRV : U % V < 4294967296 ^ m := Nat.lt_trans hml hVm
  have hcy : c' + y = c + w := by
    rcases Nat.lt_trichotomy (c' + y) (c + w) with h1 | h1 | h1
    · have h3 : 4294967296 ^ m * (c' + y + 1) ≤ 4294967296 ^ m * (c + w) := Nat.mul_le_mul_left _ h1
      rw [Nat.mul_add _ (c' + y)] at h3
      omega
    · exact h1
    · have h3 : 4294967296 ^ m * (c + w + 1) ≤ 4294967296 ^ m * (c' + y) := Nat.mul_le_mul_left _ h1
      rw [Nat.mul_add _ (c + w)] at h3
      omega
  have hz0 : z = 0 := by omega
  rw [hcy] at hR
  rw [lv_snoc, hz0]
  omega

/-- A round of the long division, from the top down; S is the part of u that the round works on. -/
theorem div_step {U V T j : Nat} {q : List Nat} {d : Nat} (hj : j < q.length) (h : U = T + V * (4294967296 ^ (j + 1) * lv (q.drop (j + 1)))) (lo S : Nat) (hT : T = lo + 4294967296 ^ j * S) (hd : d = S / V) :
    U = lo + 4294967296 ^ j * (S % V) + V * (4294967296 ^ j * lv ((q.set j d).drop j)) := by
  have h1 : (q.set j d)[j]? = some d := by rw [List.getElem?_set_self (by omega)]
  rw [lv_drop h1, List.drop_set_of_lt (by omega), h, hT]
  have e := Nat.div_add_mod S V
  rw [← hd] at e
  have e2 : 4294967296 ^ j * (V * d + S % V) = 4294967296 ^ j * S := by rw [e]
  have e3 : V * (4294967296 ^ j * (d + 4294967296 * lv (q.drop (j + 1)))) = 4294967296 ^ j * (V * d) + V * (4294967296 ^ (j + 1) * lv (q.drop (j + 1))) := by
    rw [pow_succ_mul, Nat.mul_add, Nat.mul_add]
    congr 1
    rw [← Nat.mul_assoc, Nat.mul_comm V, Nat.mul_assoc]
  rw [e3]
  rw [Nat.mul_add] at e2
  omega
theorem drop_seg {u : List Nat} {j m : Nat} (hu : okL u) (h : lv (u.drop j) < 4294967296 ^ m) (hm : j + m ≤ u.length) : lv ((u.drop j).take m) = lv (u.drop j) := by
  have e := lv_take_drop (u.drop j) m (by rw [List.length_drop]; omega)
  rcases Nat.eq_zero_or_pos (lv ((u.drop j).drop m)) with h0 | h0
  · rw [h0] at e; omega
  · have : 4294967296 ^ m * 1 ≤ 4294967296 ^ m * lv ((u.drop j).drop m) := Nat.mul_le_mul_left _ h0
    omega
end Go.Proofs.Ytnofljgmkdommaa

/- Plain laws of greatest common divisors. -/
namespace Go.Proofs.Ytnofljgmkdommaa

theorem gcd_step (a b : Nat) : Nat.gcd b (a % b) = Nat.gcd a b := by rw [Nat.gcd_comm a b, Nat.gcd_rec b a, Nat.gcd_comm]
/-- A power of two is prime to an odd number. -/
theorem cop_two {y : Nat} (t : Nat) (hy : y % 2 = 1) : Nat.Coprime (2 ^ t) y := by
  refine Nat.Coprime.pow_left t ?_
  rw [Nat.coprime_iff_gcd_eq_one, Nat.gcd_rec, hy]
  rfl
theorem gcd_odd {x y t : Nat} (hy : y % 2 = 1) : Nat.gcd (2 ^ t * x) y = Nat.gcd x y := Nat.Coprime.gcd_mul_left_cancel x (cop_two t hy)
/-- The two numbers without their twos. -/
theorem gcd_twos {x y i k : Nat} (hx : x % 2 = 1) (hy : y % 2 = 1) : Nat.gcd (2 ^ i * x) (2 ^ k * y) = 2 ^ min i k * Nat.gcd x y := by
  rcases Nat.le_total i k with h | h
  · obtain ⟨d, rfl⟩ := Nat.exists_eq_add_of_le h
    rw [Nat.min_eq_left h, Nat.pow_add, Nat.mul_assoc, Nat.gcd_mul_left, Nat.gcd_comm x, gcd_odd hx, Nat.gcd_comm]
  · obtain ⟨d, rfl⟩ := Nat.exists_eq_add_of_le h
    rw [Nat.min_eq_right h, Nat.pow_add, Nat.mul_assoc, Nat.gcd_mul_left, gcd_odd hy]
theorem gcd_sub {x y : Nat} (h : y ≤ x) : Nat.gcd (x - y) y = Nat.gcd x y := by
  obtain ⟨d, rfl⟩ := Nat.exists_eq_add_of_le h
  rw [Nat.add_sub_cancel_left, Nat.gcd_add_left_left_of_dvd _ (Nat.dvd_refl y)]

/-- The highest limb. -/
theorem lm_top {y m : Nat} (h : (lm y).length = m) (hm : 0 < m) : ∃ t, (lm y)[m - 1]? = some t ∧ t ≠ 0 ∧ t < 4294967296 ∧ y < (t + 1) * 4294967296 ^ (m - 1) := by
  have hne : lm y ≠ [] := by intro e; rw [e] at h; simp at h; omega
  have hg := List.getElem?_eq_getElem (l := lm y) (i := m - 1) (by omega)
  refine ⟨_, hg, ?_, (okL_lm y).get hg, ?_⟩
  · have := lm_getLast hne
    rw [List.getLast_eq_getElem] at this
    simpa [h] using this
  · have e := lv_take_succ hg
    rw [List.take_of_length_le (by omega), lv_lm] at e
    have h1 := lv_lt ((okL_lm y).take (m - 1))
    rw [List.length_take, Nat.min_eq_left (by omega)] at h1
    generalize (lm y)[m - 1]'(by omega) = t at e ⊢
    rw [Nat.add_mul, Nat.mul_comm t]
    omega
/-- A shifted number has as many limbs. -/
theorem shl_len {y m s t : Nat} (h : (lm y).length = m) (hm : 0 < m) (ht : (lm y)[m - 1]? = some t) (hs : s ≤ 31) (hts : t * 2 ^ s < 4294967296) (hy : 0 < y) : (lm (y * 2 ^ s)).length = m := by
  obtain ⟨t', ht', -, -, hlt⟩ := lm_top h hm
  rw [ht] at ht'
  injection ht' with ht'
  subst ht'
  have h1 : (t + 1) * 2 ^ s ≤ 4294967296 := by
    have hB : 4294967296 = 2 ^ (32 - s) * 2 ^ s := by rw [← Nat.pow_add, show 32 - s + s = 32 by omega]
    rw [hB] at hts ⊢
    exact Nat.mul_le_mul_right _ (Nat.lt_of_mul_lt_mul_right hts)
  have h2 : y * 2 ^ s < 4294967296 ^ m := by
    have a1 : y * 2 ^ s < (t + 1) * 4294967296 ^ (m - 1) * 2 ^ s := Nat.mul_lt_mul_of_pos_right hlt (Nat.pow_pos (by omega))
    have a2 : (t + 1) * 4294967296 ^ (m - 1) * 2 ^ s = (t + 1) * 2 ^ s * 4294967296 ^ (m - 1) := Nat.mul_right_comm _ _ _
    have a3 : (t + 1) * 2 ^ s * 4294967296 ^ (m - 1) ≤ 4294967296 * 4294967296 ^ (m - 1) := Nat.mul_le_mul_right _ h1
    have a4 : 4294967296 ^ m = 4294967296 * 4294967296 ^ (m - 1) := by
      obtain ⟨k, rfl⟩ : ∃ k, m = k + 1 := ⟨m - 1, by omega⟩
      rw [Nat.pow_succ, Nat.add_sub_cancel, Nat.mul_comm]
    omega
  have h3 := lm_length_le.2 h2
  have h4 : (lm y).length ≤ (lm (y * 2 ^ s)).length := lm_length_mono (Nat.le_mul_of_pos_right _ (Nat.pow_pos (by omega)))
  omega
/-- The start of the long division. -/
theorem div_start {x y n m s : Nat} {us : List Nat} (hx : (lm x).length = n) (hy : (lm y).length = m) (hmn : m ≤ n) (hm : 0 < m) (hl : us.length = n + 1) (hu : lv us = x * 2 ^ s) : lv (us.drop (n - m + 1)) < y * 2 ^ s := by
  have e := lv_take_drop us (n - m + 1) (by omega)
  rcases Nat.lt_or_ge (lv (us.drop (n - m + 1))) (y * 2 ^ s) with h | h
  · exact h
  · exfalso
    have h1 : 4294967296 ^ (n - m + 1) * (y * 2 ^ s) ≤ 4294967296 ^ (n - m + 1) * lv (us.drop (n - m + 1)) := Nat.mul_le_mul_left _ h
    have h2 : 4294967296 ^ (m - 1) ≤ y := lm_length_lt.1 (by omega)
    have h3 : 4294967296 ^ (n - m + 1) * (4294967296 ^ (m - 1) * 2 ^ s) ≤ 4294967296 ^ (n - m + 1) * (y * 2 ^ s) := Nat.mul_le_mul_left _ (Nat.mul_le_mul_right _ h2)
    rw [← Nat.mul_assoc, ← Nat.pow_add, show n - m + 1 + (m - 1) = n by omega] at h3
    have h4 := lm_lt_pow x
    rw [hx] at h4
    have h5 : x * 2 ^ s < 4294967296 ^ n * 2 ^ s := Nat.mul_lt_mul_of_pos_right h4 (Nat.pow_pos (by omega))
    omega
end Go.Proofs.Ytnofljgmkdommaa
