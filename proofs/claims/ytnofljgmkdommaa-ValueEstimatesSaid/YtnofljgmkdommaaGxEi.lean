/- The law ValueEstimates. -/
import Derived.Test.YtnofljgmkdommaaG17
import Derived.Laws.BitsLemmas
import Derived.Test.YtnofljgmkdommaaG24
import Derived.Deep.RegionLaw
import Derived.WalkKit
import Derived.WalkMore
import Derived.ScopeJumps
import Derived.BigRegion
import Derived.Test.YtnofljgmkdommaaG25
import Derived.SizedLaws
import Derived.Test.YtnofljgmkdommaaG16
set_option linter.unusedVariables false
set_option linter.unusedSimpArgs false

/- Plain: the joining of buckets, and histories that are right. -/
namespace Go.Proofs.Ytnofljgmkdommaa
open Go.RowKit

/-- Too many buckets of the size of the one at i. -/
def okJ (l : List Bk) (k i : Nat) : Prop := ∃ x y, l[i]? = some x ∧ l[i + k]? = some y ∧ x.c = y.c
def mB (x y : Bk) : Bk := ⟨x.f, y.l, 2 * x.c⟩
def mergeB (l : List Bk) (i : Nat) : List Bk :=
  match l[i]?, l[i + 1]? with
  | some x, some y => (l.set i (mB x y)).eraseIdx (i + 1)
  | _, _ => l
inductive Joins (k : Nat) : List Bk → List Bk → Prop
  | done {l : List Bk} : (∀ i, ¬ okJ l k i) → Joins k l l
  | step {l l' : List Bk} {i : Nat} : (∀ j, j < i → ¬ okJ l k j) → okJ l k i → Joins k (mergeB l i) l' → Joins k l l'
theorem mergeB_eq {l : List Bk} {i : Nat} {x y : Bk} (hx : l[i]? = some x) (hy : l[i + 1]? = some y) : mergeB l i = (l.set i (mB x y)).eraseIdx (i + 1) := by
  unfold mergeB
  rw [hx, hy]
theorem mergeB_len {l : List Bk} {i : Nat} {x y : Bk} (hx : l[i]? = some x) (hy : l[i + 1]? = some y) : (mergeB l i).length = l.length - 1 := by
  have hi : i + 1 < l.length := (List.getElem?_eq_some_iff.1 hy).1
  rw [mergeB_eq hx hy, List.length_eraseIdx, List.length_set, if_pos hi]
theorem split2 : ∀ {l : List Bk} {i : Nat} {x y : Bk}, l[i]? = some x → l[i + 1]? = some y → ∃ p t, l = p ++ x :: y :: t ∧ p.length = i
  | [], i, x, y, hx, _ => by simp at hx
  | b :: l, 0, x, y, hx, hy => by
    simp at hx hy
    subst hx
    cases l with
    | nil => simp at hy
    | cons z t => simp at hy; subst hy; exact ⟨[], t, rfl, rfl⟩
  | b :: l, i + 1, x, y, hx, hy => by
    simp only [List.getElem?_cons_succ] at hx hy
    obtain ⟨p, t, rfl, hp⟩ := split2 hx hy
    exact ⟨b :: p, t, rfl, by simp [hp]⟩
theorem mergeB_app (p t : List Bk) (x y : Bk) : mergeB (p ++ x :: y :: t) p.length = p ++ mB x y :: t := by
  rw [mergeB_eq (x := x) (y := y) (by simp) (by simp [List.getElem?_append])]
  simp [List.set_append, List.eraseIdx_append]
  omega
def P2 (e : Nat) : Int := ((2 ^ e : Nat) : Int)
theorem P2_succ (e : Nat) : P2 (e + 1) = 2 * P2 e := by unfold P2; rw [Nat.pow_succ]; omega
theorem P2_pos (e : Nat) : 1 ≤ P2 e := by have : 0 < 2 ^ e := Nat.pow_pos (by omega); unfold P2; omega
theorem P2_lt {a b : Nat} : P2 a < P2 b ↔ a < b := by
  unfold P2
  rw [Int.ofNat_lt]
  exact Nat.pow_lt_pow_iff_right (by omega)
theorem P2_inj {a b : Nat} (h : P2 a = P2 b) : a = b := by
  rcases Nat.lt_trichotomy a b with h1 | h1 | h1
  · have := P2_lt.2 h1; omega
  · exact h1
  · have := P2_lt.2 h1; omega
theorem P2_double {a b : Nat} (h : P2 a < P2 b) : 2 * P2 a ≤ P2 b := by
  have h1 := P2_lt.1 h
  rw [← P2_succ]
  rcases Nat.lt_or_eq_of_le (show a + 1 ≤ b from h1) with h2 | h2
  · have := P2_lt.2 h2; omega
  · rw [h2]; omega
def isPow (c : Int) : Prop := ∃ e : Nat, c = P2 e
def sumC (l : List Bk) : Int := (l.map Bk.c).sum
def num (l : List Bk) (c : Int) : Nat := l.countP (fun b => b.c == c)
def Srt (l : List Bk) : Prop := l.Pairwise (fun a b => b.c ≤ a.c)
def hdF (last : Int) : List Bk → Int
  | [] => last
  | b :: _ => b.f
def hdC : List Bk → Int
  | [] => 0
  | b :: _ => b.c
def ordL (last : Int) : List Bk → Prop
  | [] => True
  | b :: t => (1 ≤ b.f ∧ b.f ≤ b.l ∧ b.l ≤ hdF last t ∧ (b.c = 1 → b.f = b.l)) ∧ ordL last t
theorem sumC_app (a b : List Bk) : sumC (a ++ b) = sumC a + sumC b := by simp [sumC]
theorem sumC_cons (x : Bk) (b : List Bk) : sumC (x :: b) = x.c + sumC b := by simp [sumC]
theorem num_app (a b : List Bk) (c : Int) : num (a ++ b) c = num a c + num b c := by simp [num]
theorem num_cons (x : Bk) (b : List Bk) (c : Int) : num (x :: b) c = (if x.c = c then 1 else 0) + num b c := by
  simp only [num, List.countP_cons, beq_iff_eq]
  omega
theorem sumC_pos {l : List Bk} (h : ∀ b ∈ l, isPow b.c) : 0 ≤ sumC l := by
  induction l with
  | nil => simp [sumC]
  | cons b t ih =>
    obtain ⟨e, he⟩ := h b (by simp)
    have := P2_pos e
    have := ih (fun b hb => h b (by simp [hb]))
    rw [sumC_cons]
    omega
theorem sumC_len {l : List Bk} (h : ∀ b ∈ l, isPow b.c) : (l.length : Int) ≤ sumC l := by
  induction l with
  | nil => simp [sumC]
  | cons b t ih =>
    obtain ⟨e, he⟩ := h b (by simp)
    have := P2_pos e
    have := ih (fun b hb => h b (by simp [hb]))
    rw [sumC_cons, List.length_cons]
    omega
theorem sumC_mem {l : List Bk} (h : ∀ b ∈ l, isPow b.c) {b : Bk} (hb : b ∈ l) : 1 ≤ b.c ∧ b.c ≤ sumC l := by
  obtain ⟨p, t, rfl⟩ := List.append_of_mem hb
  obtain ⟨e, he⟩ := h b hb
  have h1 := P2_pos e
  have h2 := sumC_pos (l := p) (fun x hx => h x (by simp [hx]))
  have h3 := sumC_pos (l := t) (fun x hx => h x (by simp [hx]))
  rw [sumC_app, sumC_cons]
  omega
structure JIB (S : Int) (l : List Bk) : Prop where
  so : Srt l
  pw : ∀ b ∈ l, isPow b.c
  su : sumC l = S
theorem JIB.le {S : Int} {l : List Bk} (h : JIB S l) {b : Bk} (hb : b ∈ l) : 1 ≤ b.c ∧ b.c ≤ S := by rw [← h.su]; exact sumC_mem h.pw hb
theorem Srt.at {l : List Bk} (h : Srt l) {i j : Nat} {x y : Bk} (hij : i ≤ j) (hx : l[i]? = some x) (hy : l[j]? = some y) : y.c ≤ x.c := by
  obtain ⟨h1, rfl⟩ := List.getElem?_eq_some_iff.1 hx
  obtain ⟨h2, rfl⟩ := List.getElem?_eq_some_iff.1 hy
  rcases Nat.lt_or_eq_of_le hij with h3 | rfl
  · exact List.pairwise_iff_getElem.1 h i j h1 h2 h3
  · exact Int.le_refl _
/-- What a first bucket of too many says of the list. -/
theorem first_split {S : Int} {l : List Bk} {k i : Nat} (h : JIB S l) (hk : 1 ≤ k) (hf : ∀ j, j < i → ¬ okJ l k j) (ho : okJ l k i) :
    ∃ p x y t, l = p ++ x :: y :: t ∧ p.length = i ∧ l[i]? = some x ∧ l[i + 1]? = some y ∧ y.c = x.c ∧ (∀ b ∈ p, 2 * x.c ≤ b.c) ∧ k + 1 ≤ num l x.c := by
  obtain ⟨x, z, hx, hz, hxz⟩ := ho
  have hlen := (List.getElem?_eq_some_iff.1 hz).1
  obtain ⟨y, hy⟩ : ∃ y, l[i + 1]? = some y := ⟨_, List.getElem?_eq_getElem (by omega)⟩
  have h1 := h.so.at (show i ≤ i + 1 by omega) hx hy
  have h2 := h.so.at (show i + 1 ≤ i + k by omega) hy hz
  obtain ⟨p, t, hl, hp⟩ := split2 hx hy
  refine ⟨p, x, y, t, hl, hp, hx, hy, by omega, fun b hb => ?_, ?_⟩
  · obtain ⟨j, hj, hbj⟩ := List.mem_iff_getElem.1 hb
    have hb2 : l[j]? = some b := by rw [hl, List.getElem?_append_left hj, List.getElem?_eq_getElem hj, hbj]
    obtain ⟨u, hu⟩ : ∃ u, l[j + k]? = some u := ⟨_, List.getElem?_eq_getElem (by omega)⟩
    have h3 := h.so.at (show j ≤ i by omega) hb2 hx
    have h4 := h.so.at (show j ≤ j + k by omega) hb2 hu
    have h5 := h.so.at (show j + k ≤ i + k by omega) hu hz
    obtain ⟨e1, he1⟩ := h.pw b (by rw [hl]; simp [hb])
    obtain ⟨e2, he2⟩ := h.pw x (by rw [hl]; simp)
    rw [he1, he2]
    refine P2_double ?_
    rw [← he1, ← he2]
    rcases Int.lt_or_eq_of_le h3 with h6 | h6
    · exact h6
    · exact absurd ⟨b, u, hb2, hu, by omega⟩ (hf j (by omega))
  · have h3 : num (l.drop i) x.c ≤ num l x.c := by
      conv => rhs; rw [← List.take_append_drop i l, num_app]
      omega
    have h4 : num ((l.drop i).take (k + 1)) x.c ≤ num (l.drop i) x.c := by
      conv => rhs; rw [← List.take_append_drop (k + 1) (l.drop i), num_app]
      omega
    have h5 : num ((l.drop i).take (k + 1)) x.c = k + 1 := by
      unfold num
      rw [List.countP_eq_length.2, List.length_take, List.length_drop]
      · omega
      · intro b hb
        obtain ⟨j, hj, hbj⟩ := List.mem_iff_getElem.1 hb
        rw [List.length_take, List.length_drop] at hj
        have hb2 : l[i + j]? = some b := by
          rw [List.getElem?_eq_getElem (by omega), ← hbj, List.getElem_take, List.getElem_drop]
        have h6 := h.so.at (show i ≤ i + j by omega) hx hb2
        have h7 := h.so.at (show i + j ≤ i + k by omega) hb2 hz
        rw [beq_iff_eq]
        omega
    omega
theorem JIB.merge {S : Int} {l : List Bk} {k i : Nat} (h : JIB S l) (hk : 1 ≤ k) (hf : ∀ j, j < i → ¬ okJ l k j) (ho : okJ l k i) : JIB S (mergeB l i) := by
  obtain ⟨p, x, y, t, rfl, rfl, -, -, hyx, hp, -⟩ := first_split h hk hf ho
  rw [mergeB_app]
  obtain ⟨e, he⟩ := h.pw x (by simp)
  have hso := h.so
  unfold Srt at hso
  rw [List.pairwise_append, List.pairwise_cons, List.pairwise_cons] at hso
  obtain ⟨s1, ⟨s2, s3, s4⟩, s5⟩ := hso
  have hx1 := P2_pos e
  refine ⟨?_, fun b hb => ?_, ?_⟩
  · unfold Srt
    rw [List.pairwise_append, List.pairwise_cons]
    refine ⟨s1, ⟨fun b hb => ?_, s4⟩, fun a ha b hb => ?_⟩
    · have := s3 b hb
      show b.c ≤ 2 * x.c
      omega
    · rcases List.mem_cons.1 hb with rfl | hb
      · exact hp a ha
      · exact s5 a ha b (by simp [hb])
  · rcases List.mem_append.1 hb with hb | hb
    · exact h.pw b (by simp [hb])
    · rcases List.mem_cons.1 hb with rfl | hb
      · exact ⟨e + 1, by rw [P2_succ, ← he]; rfl⟩
      · exact h.pw b (by simp [hb])
  · rw [← h.su, sumC_app, sumC_app, sumC_cons, sumC_cons, sumC_cons]
    show sumC p + (2 * x.c + sumC t) = _
    omega
/-- The numbers of the sizes while there is anything to join. -/
def MI (k : Nat) (l : List Bk) : Prop := ∃ e0 : Nat, (∀ e, e ≠ e0 → num l (P2 e) ≤ k) ∧ num l (P2 e0) ≤ k + 1 ∧ ∀ e, P2 e < hdC l → k ≤ num l (P2 e) + 1
theorem MI.merge {S : Int} {l : List Bk} {k i : Nat} (h : JIB S l) (hm : MI k l) (hk : 1 ≤ k) (hf : ∀ j, j < i → ¬ okJ l k j) (ho : okJ l k i) : MI k (mergeB l i) := by
  obtain ⟨p, x, y, t, rfl, rfl, -, -, hyx, hp, hn⟩ := first_split h hk hf ho
  rw [mergeB_app]
  obtain ⟨e1, he⟩ := h.pw x (by simp)
  obtain ⟨e0, m1, m2, m3⟩ := hm
  have hx1 := P2_pos e1
  have hee : e1 = e0 := by
    by_cases hc : e1 = e0
    · exact hc
    · have := m1 e1 hc
      rw [← he] at this
      omega
  subst hee
  have hnum : ∀ c, num (p ++ x :: y :: t) c = num p c + ((if x.c = c then 1 else 0) + ((if x.c = c then 1 else 0) + num t c)) := fun c => by rw [num_app, num_cons, num_cons, hyx]
  have hnum2 : ∀ c, num (p ++ mB x y :: t) c = num p c + ((if 2 * x.c = c then 1 else 0) + num t c) := fun c => by rw [num_app, num_cons]; rfl
  have hs := P2_succ e1
  refine ⟨e1 + 1, fun e hne => ?_, ?_, fun e hlt => ?_⟩
  · have h1 : ¬ 2 * x.c = P2 e := fun hc => hne (P2_inj (by rw [hs, ← he, hc]))
    rw [hnum2, if_neg h1]
    by_cases h2 : e = e1
    · subst h2
      have := hnum (P2 e)
      rw [if_pos he] at this
      omega
    · have := m1 e h2
      rw [hnum, if_neg (fun hc => h2 (P2_inj (by rw [← hc, he])))] at this
      omega
  · rw [hnum2, if_pos (by rw [hs, he])]
    have := m1 (e1 + 1) (by omega)
    rw [hnum, if_neg (by rw [hs, he]; omega)] at this
    omega
  · rw [hnum2]
    by_cases h2 : e = e1
    · subst h2
      have := hnum (P2 e)
      rw [if_pos he] at this
      rw [he] at hn
      omega
    · have h3 : P2 e < hdC (p ++ x :: y :: t) ∨ e = e1 + 1 ∧ p ≠ [] ∧ P2 e < hdC (p ++ x :: y :: t) := by
        cases p with
        | nil =>
          have hlt : P2 e < 2 * x.c := hlt
          rw [he, ← hs] at hlt
          have := P2_lt.1 hlt
          exact .inl (show P2 e < x.c by rw [he]; exact P2_lt.2 (by omega))
        | cons b p => exact .inl hlt
      have h4 : P2 e < hdC (p ++ x :: y :: t) := by rcases h3 with h | ⟨_, _, h⟩ <;> exact h
      have := m3 e h4
      rw [hnum, if_neg (fun hc => h2 (P2_inj (by rw [← hc, he])))] at this
      omega
theorem num_zero {l : List Bk} {c : Int} (h : ∀ b ∈ l, b.c < c) : num l c = 0 := by
  unfold num
  rw [List.countP_eq_zero]
  intro b hb
  have := h b hb
  rw [beq_iff_eq]
  omega
theorem num_at : ∀ {l : List Bk} {m : Nat} {s : Int}, Srt l → (∀ b ∈ l, b.c ≤ s) → m + 1 ≤ num l s → ∃ y, l[m]? = some y ∧ y.c = s
  | [], m, s, _, _, h => by simp [num] at h
  | b :: t, m, s, hs, ha, h => by
    unfold Srt at hs
    rw [List.pairwise_cons] at hs
    have hb := ha b (by simp)
    by_cases hc : b.c = s
    · cases m with
      | zero => exact ⟨b, rfl, hc⟩
      | succ m =>
        rw [num_cons, if_pos hc] at h
        obtain ⟨y, h1, h2⟩ := num_at (m := m) hs.2 (fun x hx => ha x (by simp [hx])) (by omega)
        exact ⟨y, by simpa using h1, h2⟩
    · rw [num_cons, if_neg hc, num_zero (fun x hx => by have := hs.1 x hx; omega)] at h
      omega
theorem okJ_of_num : ∀ {l : List Bk} {k : Nat} {s : Int}, Srt l → k + 1 ≤ num l s → ∃ i, okJ l k i
  | [], k, s, _, h => by simp [num] at h
  | b :: t, k, s, hs, h => by
    have hs0 := hs
    unfold Srt at hs
    rw [List.pairwise_cons] at hs
    by_cases hc : b.c = s
    · obtain ⟨y, h1, h2⟩ := num_at (m := k) hs0 (fun x hx => by
        rcases List.mem_cons.1 hx with rfl | hx
        · omega
        · have := hs.1 x hx; omega) h
      exact ⟨0, b, y, rfl, by simpa using h1, by omega⟩
    · rw [num_cons, if_neg hc] at h
      obtain ⟨i, x, y, h1, h2, h3⟩ := okJ_of_num (k := k) (s := s) hs.2 (by omega)
      exact ⟨i + 1, x, y, by simpa using h1, by rw [show i + 1 + k = (i + k) + 1 by omega]; simpa using h2, h3⟩
theorem hdF_app (last : Int) : ∀ (p t : List Bk), hdF last (p ++ t) = hdF (hdF last t) p
  | [], t => rfl
  | b :: p, t => rfl
theorem ordL_app (last : Int) : ∀ (p t : List Bk), ordL last (p ++ t) ↔ ordL (hdF last t) p ∧ ordL last t
  | [], t => by simp [ordL]
  | b :: p, t => by
    have h1 := ordL_app last p t
    have h2 := hdF_app last p t
    show ((1 ≤ b.f ∧ b.f ≤ b.l ∧ b.l ≤ hdF last (p ++ t) ∧ (b.c = 1 → b.f = b.l)) ∧ ordL last (p ++ t)) ↔ ((1 ≤ b.f ∧ b.f ≤ b.l ∧ b.l ≤ hdF (hdF last t) p ∧ (b.c = 1 → b.f = b.l)) ∧ ordL (hdF last t) p) ∧ ordL last t
    rw [h1, h2]
    exact ⟨fun ⟨a, b, c⟩ => ⟨⟨a, b⟩, c⟩, fun ⟨⟨a, b⟩, c⟩ => ⟨a, b, c⟩⟩
theorem ordL_merge {last : Int} {p t : List Bk} {x y : Bk} (hx : 1 ≤ x.c) (h : ordL last (p ++ x :: y :: t)) : ordL last (p ++ mB x y :: t) := by
  rw [ordL_app] at h ⊢
  obtain ⟨h1, ⟨⟨a1, a2, a3, a4⟩, ⟨b1, b2, b3, b4⟩, h2⟩⟩ := h
  refine ⟨h1, ⟨a1, ?_, b3, fun hc => ?_⟩, h2⟩
  · have a3 : x.l ≤ y.f := a3
    show x.f ≤ y.l
    omega
  · have hc : 2 * x.c = 1 := hc
    omega
theorem ordL_mono {a b : Int} (hab : a ≤ b) : ∀ {l : List Bk}, ordL a l → ordL b l
  | [], _ => trivial
  | [x], ⟨⟨h1, h2, h3, h4⟩, _⟩ => ⟨⟨h1, h2, by have h3 : x.l ≤ a := h3; show x.l ≤ b; omega, h4⟩, trivial⟩
  | x :: y :: t, ⟨h1, h2⟩ => ⟨h1, ordL_mono hab h2⟩
/-- A list of buckets is right. -/
structure HL (k : Nat) (F last : Int) (l : List Bk) : Prop where
  ord : ordL last l
  ji : JIB F l
  up : ∀ c, num l c ≤ k
  lo : ∀ e, P2 e < hdC l → k ≤ num l (P2 e) + 1
theorem num_pow {l : List Bk} {k : Nat} (h : ∀ b ∈ l, isPow b.c) (hn : ∀ e, num l (P2 e) ≤ k) (c : Int) : num l c ≤ k := by
  by_cases hc : num l c = 0
  · omega
  · have : 0 < l.countP (fun b => b.c == c) := by unfold num at hc; omega
    obtain ⟨b, hb, hbc⟩ := List.countP_pos_iff.1 this
    obtain ⟨e, he⟩ := h b hb
    rw [beq_iff_eq] at hbc
    rw [← hbc, he]
    exact hn e
theorem joins_ok {k : Nat} {F last : Int} (hk : 1 ≤ k) {l l' : List Bk} (h : Joins k l l') : ordL last l → JIB F l → MI k l → HL k F last l' := by
  induction h with
  | done hn =>
    rename_i L
    intro ho hj hm
    obtain ⟨e0, m1, m2, m3⟩ := hm
    refine ⟨ho, hj, num_pow hj.pw fun e => ?_, m3⟩
    by_cases hc : k + 1 ≤ num L (P2 e)
    · obtain ⟨i, hi⟩ := okJ_of_num hj.so hc
      exact absurd hi (hn i)
    · omega
  | step hf ho' _ ih =>
    intro ho hj hm
    refine ih ?_ (hj.merge hk hf ho') (hm.merge hj hk hf ho')
    obtain ⟨p, x, y, t, rfl, rfl, -, -, -⟩ := first_split hj hk hf ho'
    rw [mergeB_app]
    exact ordL_merge (hj.le (b := x) (by simp)).1 ho
theorem HL.app {k : Nat} {F last rev : Int} {l : List Bk} (h : HL k F last l) (hk : 1 ≤ k) (h1 : 1 ≤ rev) (h2 : last ≤ rev) : ordL rev (l ++ [⟨rev, rev, 1⟩]) ∧ JIB (F + 1) (l ++ [⟨rev, rev, 1⟩]) ∧ MI k (l ++ [⟨rev, rev, 1⟩]) := by
  have hp0 : P2 0 = 1 := rfl
  refine ⟨?_, ⟨?_, fun b hb => ?_, ?_⟩, 0, fun e he => ?_, ?_, fun e he => ?_⟩
  · rw [ordL_app]
    exact ⟨ordL_mono h2 h.ord, ⟨h1, Int.le_refl _, Int.le_refl _, fun _ => rfl⟩, trivial⟩
  · unfold Srt
    rw [List.pairwise_append]
    refine ⟨h.ji.so, by simp, fun a ha b hb => ?_⟩
    simp at hb
    subst hb
    exact (h.ji.le ha).1
  · rcases List.mem_append.1 hb with hb | hb
    · exact h.ji.pw b hb
    · simp at hb
      subst hb
      exact ⟨0, rfl⟩
  · rw [sumC_app, h.ji.su]
    rfl
  · rw [num_app, num_cons, if_neg (show ¬ (1 : Int) = P2 e from fun hc => he (P2_inj (by rw [hp0, hc])))]
    have := h.up (P2 e)
    show num l (P2 e) + (0 + 0) ≤ k
    omega
  · rw [num_app, num_cons, if_pos (show (1 : Int) = P2 0 from rfl)]
    have := h.up (P2 0)
    show num l (P2 0) + (1 + 0) ≤ k + 1
    omega
  · rw [num_app]
    cases l with
    | nil =>
      have he : P2 e < 1 := he
      have := P2_pos e
      omega
    | cons b t =>
      have := h.lo e he
      omega
theorem HL.next {k : Nat} {F last rev : Int} {l l' : List Bk} (h : HL k F last l) (hk : 1 ≤ k) (h1 : 1 ≤ rev) (h2 : last ≤ rev) (hj : Joins k (l ++ [⟨rev, rev, 1⟩]) l') : HL k (F + 1) rev l' :=
  joins_ok hk hj (h.app hk h1 h2).1 (h.app hk h1 h2).2.1 (h.app hk h1 h2).2.2
theorem HL.stay {k : Nat} {F last rev : Int} {l : List Bk} (h : HL k F last l) (h2 : last ≤ rev) : HL k F rev l := ⟨ordL_mono h2 h.ord, h.ji, h.up, h.lo⟩
theorem HL.nil (k : Nat) (last : Int) : HL k 0 last [] := by
  refine ⟨trivial, ⟨List.Pairwise.nil, by simp, rfl⟩, fun c => by simp [num], fun e he => ?_⟩
  have := P2_pos e
  have he : P2 e < 0 := he
  omega
end Go.Proofs.Ytnofljgmkdommaa

/- Contract: history.ordered of any history. -/
namespace Go.Proofs.Ytnofljgmkdommaa
open Go.RowKit

/-- A bool that tells whether P holds. -/
def RetB (w : World) (P : Prop) (e : Ending) (w' : World) : Prop := ∃ b, e = .returned (.bool b) ∧ (b = true ↔ P) ∧ Below w.heap.size w w'
theorem RetB.yes {w w' : World} {P : Prop} (h : P) (hb : Below w.heap.size w w') : RetB w P (.returned (.bool true)) w' := ⟨true, rfl, ⟨fun _ => h, fun _ => rfl⟩, hb⟩
theorem RetB.no {w w' : World} {P : Prop} (h : ¬ P) (hb : Below w.heap.size w w') : RetB w P (.returned (.bool false)) w' := ⟨false, rfl, ⟨fun e => (by cases e), fun e => absurd e h⟩, hb⟩
theorem bk_get {w : World} {A : Option Addr} {l : List Bk} {i : Nat} {x : Bk} (hR : Rs w none 3 Bk.vals A l) (hx : l[i]? = some x) : ∃ g o, A = some ⟨g, o, none⟩ ∧ g < w.heap.size ∧ w.cell? ⟨g, o + i * 3, none⟩ = some (.int .i64 x.f) ∧ w.cell? ⟨g, o + i * 3 + 1, none⟩ = some (.int .i64 x.l) ∧ w.cell? ⟨g, o + i * 3 + 2, none⟩ = some (.int .i64 x.c) := by
  obtain ⟨g, o, h1, -, h3, h4⟩ := hR.at hx
  exact ⟨g, o, h1, h3, by simpa using h4 0 _ rfl, by simpa using h4 1 _ rfl, by simpa using h4 2 _ rfl⟩
theorem drop_bk {l : List Bk} {i : Nat} {x : Bk} (hx : l[i]? = some x) : l.drop i = x :: l.drop (i + 1) := by
  obtain ⟨h, rfl⟩ := List.getElem?_eq_some_iff.1 hx
  exact List.drop_eq_getElem_cons h
theorem hdF_drop {l : List Bk} {i : Nat} {x : Bk} (last : Int) (hx : l[i]? = some x) : hdF last (l.drop i) = x.f := by rw [drop_bk hx]; rfl
/-- What is asked of one bucket. -/
def ordT (nx : Int) (x : Bk) : Prop := 1 ≤ x.f ∧ x.f ≤ x.l ∧ x.l ≤ nx ∧ (x.c = 1 → x.f = x.l)
theorem ordL_drop {l : List Bk} {i : Nat} {x : Bk} (last : Int) (hx : l[i]? = some x) : ordL last (l.drop i) ↔ ordT (hdF last (l.drop (i + 1))) x ∧ ordL last (l.drop (i + 1)) := by
  rw [drop_bk hx]; rfl
theorem ord_stepI {last nx : Int} {l : List Bk} {i : Nat} {x : Bk} (HT : ordL last (l.drop i) ↔ ordT nx x ∧ ordL last (l.drop (i + 1))) (HI : ordL last (l.drop i) ↔ ordL last l) (h1 : 1 ≤ x.f) (h2 : x.f ≤ x.l) (h3 : x.l ≤ nx) (h4 : x.c = 1 → x.f = x.l) : ordL last (l.drop (i + 1)) ↔ ordL last l :=
  ⟨fun h => HI.1 (HT.2 ⟨⟨h1, h2, h3, h4⟩, h⟩), fun h => (HT.1 (HI.2 h)).2⟩
set_option maxRecDepth 100000 in
set_option maxHeartbeats 8000000 in
theorem hord_any (w : World) (h : Hist) (A : Option Addr) (n c : Nat) (l : List Bk) (hR : Rs w none 3 Bk.vals A l) (hn : l.length = n) (hn2 : n ≤ 1000000) :
    Calls Try.prog 51 #[.agg #[.string h.pk, .string h.ts, .int .i64 h.env, .int .i64 h.k, .int .i64 h.runs, .int .i64 h.fail, .int .i64 h.last, .slice A n c]] w fun e w' => RetB w (ordL h.last l) e w' := by
  have HR := hide hR
  have HN := hide hn
  clear hR hn
  go_enter Try.func51, Try.ntmps51
  go_upto_region 1 with (fail)
  generalize hW : World.alloc w _ = v
  have HC := hide (show Cb v w.heap.size (h.cs A n c) by rw [← hW]; exact Cb.mk0 (h.cs A n c) (h.cs_nb A n c) _ rfl)
  have HB := hide (show Below w.heap.size w v by rw [← hW]; exact (Below.refl _ _).alloc (Nat.le_refl _) _)
  clear hW
  obtain ⟨a0, a1, a2, a3, a4, a5, a6, a7⟩ : _ ∧ _ ∧ _ ∧ _ ∧ _ ∧ _ ∧ _ ∧ _ := ⟨HC.out.cell 0 _ rfl, HC.out.cell 1 _ rfl, HC.out.cell 2 _ rfl, HC.out.cell 3 _ rfl, HC.out.cell 4 _ rfl, HC.out.cell 5 _ rfl, HC.out.cell 6 _ rfl, HC.out.cell 7 _ rfl⟩; have az := HC.out.sz
  go_upto_region 2 with (fail)
  clear a0 a1 a2 a3 a4 a5 a6 a7 az
  go_loopw [9] (fun iv wr => ∃ i : Nat, iv = .int .i64 (i : Int) ∧ i ≤ n ∧ Hid (Cb wr w.heap.size (h.cs A n c)) ∧ Hid (Below w.heap.size w wr) ∧ Hid (ordL h.last (l.drop i) ↔ ordL h.last l)) (fun iv _ => n - (intOf iv).toNat)
  case atStart => exact ⟨0, rfl, Nat.zero_le _, HC, HB, hide (by simp)⟩
  case round =>
    obtain ⟨i, rfl, hi, HCr, HBr, HI⟩ := hrel
    clear HC HB
    obtain ⟨a0, a1, a2, a3, a4, a5, a6, a7⟩ : _ ∧ _ ∧ _ ∧ _ ∧ _ ∧ _ ∧ _ ∧ _ := ⟨HCr.out.cell 0 _ rfl, HCr.out.cell 1 _ rfl, HCr.out.cell 2 _ rfl, HCr.out.cell 3 _ rfl, HCr.out.cell 4 _ rfl, HCr.out.cell 5 _ rfl, HCr.out.cell 6 _ rfl, HCr.out.cell 7 _ rfl⟩; have az := HCr.out.sz
    by_cases hin : i = n
    · subst hin
      go_wp2_with fail
      refine bodyPost_ret (v := .bool true) (by simp [results, Try.results51, go_sem, *]) rfl (RetB.yes (HI.out.1 ?_) HBr.out)
      rw [List.drop_eq_nil_of_le (by rw [HN.out]; omega)]
      trivial
    · have hi2 : i < n := by omega
      obtain ⟨x, hx⟩ : ∃ x, l[i]? = some x := ⟨_, List.getElem?_eq_getElem (by have := HN.out; omega)⟩
      obtain ⟨g, o, rfl, hg, e0, e1, e2⟩ := bk_get (HR.out.below HBr.out) hx
      have HX := hide hx
      clear hx
      have hi3 : (i : Int) < (n : Int) := by omega
      have hi0 : (0 : Int) ≤ (i : Int) := by omega
      have hiw : IntKind.i64.wrap ((i : Int) + 1) = (i : Int) + 1 := IntWalk.i64_in _ (by omega)
      go_upto_region 4 with (fail)
      generalize hW : World.alloc wr _ = v2
      have HX2 := hide (show Cb v2 wr.heap.size x.vals by rw [← hW]; exact Cb.mk0 x.vals (by simp [Bk.vals]) _ rfl)
      have HC2 := hide (show Cb v2 w.heap.size (h.cs (some ⟨g, o, none⟩) n c) by rw [← hW]; exact HCr.out.alloc _)
      have HB2 := hide (show Below w.heap.size w v2 by rw [← hW]; exact HBr.out.alloc HBr.out.size _)
      obtain ⟨X, hX⟩ : ∃ X, X = wr.heap.size := ⟨_, rfl⟩
      rw [← hX] at HX2 ⊢
      clear a0 a1 a2 a3 a4 a5 a6 a7 az
      clear hW hX e0 e1 e2 hg
      obtain ⟨a0, a1, a2, a3, a4, a5, a6, a7⟩ : _ ∧ _ ∧ _ ∧ _ ∧ _ ∧ _ ∧ _ ∧ _ := ⟨HC2.out.cell 0 _ rfl, HC2.out.cell 1 _ rfl, HC2.out.cell 2 _ rfl, HC2.out.cell 3 _ rfl, HC2.out.cell 4 _ rfl, HC2.out.cell 5 _ rfl, HC2.out.cell 6 _ rfl, HC2.out.cell 7 _ rfl⟩; have az := HC2.out.sz
      have x0 := HX2.out.cell 0 _ rfl
      have x1 := HX2.out.cell 1 _ rfl
      have x2 := HX2.out.cell 2 _ rfl
      obtain ⟨nx, hnx⟩ : ∃ nx, nx = hdF h.last (l.drop (i + 1)) := ⟨_, rfl⟩
      have HNX := hide hnx
      go_upto_if 21 with (fail)
      go_cut [5] from 13 to 28 (fun s5 wx => s5 = .int .i64 nx ∧ wx = v2)
      case first =>
        by_cases hlast : i + 1 = n
        · rw [List.drop_eq_nil_of_le (by rw [HN.out]; omega)] at hnx
          subst hnx
          have q0 : decide ((i : Int) + 1 < (n : Int)) = false := decide_eq_false (by omega)
          have q1 : ¬ (i : Int) + 1 < (n : Int) := by omega
          go_wp2_with fail
          go_meet
          case rel => exact ⟨rfl, rfl⟩
        · obtain ⟨y, hy⟩ : ∃ y, l[i + 1]? = some y := ⟨_, List.getElem?_eq_getElem (by have := HN.out; omega)⟩
          obtain ⟨g', o', hA, -, f0, -, -⟩ := bk_get (HR.out.below HB2.out) hy
          injection hA with hA
          injection hA with h1 h2
          subst h1 h2
          rw [hdF_drop h.last hy] at hnx
          subst hnx
          have q0 : decide ((i : Int) + 1 < (n : Int)) = true := decide_eq_true (by omega)
          have q1 : (i : Int) + 1 < (n : Int) := by omega
          have q2 : (0 : Int) ≤ (i : Int) + 1 := by omega
          have q4 : ((i : Int) + 1).toNat = i + 1 := by omega
          have q3 : i + 1 < n := by omega
          go_wp2_with fail
          go_meet
          case rel => exact ⟨rfl, rfl⟩
      case rest =>
        obtain ⟨rfl, rfl⟩ := hcut
        have HT := ordL_drop h.last HX.out
        rw [← HNX.out] at HT
        replace HT := hide HT
        clear hnx
        go_wp2_with fail
        all_goals first
          | (refine bodyPost_ret (v := .bool false) (by simp [results, Try.results51, go_sem, *]) rfl (RetB.no (fun h => ?_) HB2.out)
             obtain ⟨⟨t1, t2, t3, t4⟩, -⟩ := HT.out.1 (HI.out.2 h)
             first | omega | (simp_all; done) | (simp_all; omega))
          | (go_roundw
             case rel => exact ⟨i + 1, by go_num, by omega, HC2, HB2, hide (ord_stepI HT.out HI.out (by omega) (by omega) (by omega) (by first | (intro; omega) | simp_all))⟩
             case measure => simp [intOf]; omega)
end Go.Proofs.Ytnofljgmkdommaa

/- Plain: sizes of buckets that are right, and the map of their numbers. -/
namespace Go.Proofs.Ytnofljgmkdommaa
open Go.RowKit Go.Maps

def GP (k : Int) (L : List Bk) : Prop := (∀ b ∈ L, isPow b.c ∧ b.c ≤ 1073741824) ∧ Srt L ∧ ∀ c, (num L c : Int) ≤ k
def szP (k fail : Int) (l : List Bk) : Prop := GP k l ∧ (∀ e, P2 e < hdC l → k - 1 ≤ (num l (P2 e) : Int)) ∧ sumC l = fail
theorem take_snoc {l : List Bk} {i : Nat} {x : Bk} (hx : l[i]? = some x) : l.take (i + 1) = l.take i ++ [x] := by rw [List.take_add_one, hx]; rfl
theorem GP.take {k : Int} {l : List Bk} (h : GP k l) (j : Nat) : GP k (l.take j) := by
  refine ⟨fun b hb => h.1 b (List.mem_of_mem_take hb), List.Pairwise.sublist (List.take_sublist j l) h.2.1, fun c => ?_⟩
  have h1 : num l c = num (l.take j) c + num (l.drop j) c := by rw [← num_app, List.take_append_drop]
  have := h.2.2 c
  omega
theorem pow_iff {c : Int} (h1 : 1 ≤ c) (h2 : c ≤ 1073741824) : bits .and .i64 c (c - 1) = 0 ↔ isPow c := by
  obtain ⟨n, rfl⟩ : ∃ n : Nat, c = (n : Int) := ⟨c.toNat, by omega⟩
  have e : (n : Int) - 1 = ((n - 1 : Nat) : Int) := by omega
  have hb := (bits_nat .i64 62 (by decide) (fun m h h' => by rw [IntKind.wrap_i64]; omega) n (n - 1) (by omega) (by omega)).1
  rw [e, hb]
  constructor
  · intro h
    have h3 : n &&& n - 1 = 0 := by exact_mod_cast h
    obtain ⟨k, hk⟩ := (Nat.and_sub_one_eq_zero_iff_isPowerOfTwo (by omega)).1 h3
    exact ⟨k, by unfold P2; rw [hk]⟩
  · rintro ⟨k, hk⟩
    have h3 : n = 2 ^ k := by unfold P2 at hk; omega
    have h4 := (Nat.and_sub_one_eq_zero_iff_isPowerOfTwo (n := n) (by omega)).2 ⟨k, h3⟩
    rw [h4]
    rfl
theorem isPow.pos {c : Int} (h : isPow c) : 1 ≤ c := by obtain ⟨e, he⟩ := h; have := P2_pos e; omega
/-- What is asked of one bucket. -/
def szT (k : Int) (l : List Bk) (i : Nat) (x : Bk) : Prop := 1 ≤ x.c ∧ x.c ≤ 1073741824 ∧ bits .and .i64 x.c (x.c - 1) = 0 ∧ (∀ y, 0 < i → l[i - 1]? = some y → x.c ≤ y.c) ∧ (num (l.take i) x.c : Int) ≠ k
theorem gp_test {k : Int} {l : List Bk} {i : Nat} {x : Bk} (hx : l[i]? = some x) (h : GP k l) : szT k l i x := by
  have h1 := h.1 x (List.mem_of_getElem? hx)
  refine ⟨h1.1.pos, h1.2, (pow_iff h1.1.pos h1.2).2 h1.1, fun y hi hy => h.2.1.at (by omega) hy hx, fun hc => ?_⟩
  have h2 := (h.take (i + 1)).2.2 x.c
  rw [take_snoc hx, num_app, num_cons, if_pos rfl] at h2
  have : num ([] : List Bk) x.c = 0 := rfl
  omega
theorem gp_step {k : Int} {l : List Bk} {i : Nat} {x : Bk} (hx : l[i]? = some x) (h : GP k (l.take i)) (t : szT k l i x) : GP k (l.take (i + 1)) := by
  obtain ⟨t1, t2, t3, t4, t5⟩ := t
  have hi : i < l.length := (List.getElem?_eq_some_iff.1 hx).1
  rw [take_snoc hx]
  refine ⟨fun b hb => ?_, ?_, fun c => ?_⟩
  · rcases List.mem_append.1 hb with hb | hb
    · exact h.1 b hb
    · simp at hb
      subst hb
      exact ⟨(pow_iff t1 t2).1 t3, t2⟩
  · unfold Srt
    rw [List.pairwise_append]
    refine ⟨h.2.1, by simp, fun a ha b hb => ?_⟩
    simp at hb
    subst hb
    obtain ⟨j, hj, haj⟩ := List.mem_iff_getElem.1 ha
    rw [List.length_take] at hj
    obtain ⟨y, hy⟩ : ∃ y, l[i - 1]? = some y := ⟨_, List.getElem?_eq_getElem (by omega)⟩
    have h1 := t4 y (by omega) hy
    have h2 : (l.take i)[j]? = some a := by rw [List.getElem?_eq_getElem (by rw [List.length_take]; omega), haj]
    have h3 : (l.take i)[i - 1]? = some y := by rw [List.getElem?_take, if_pos (by omega)]; exact hy
    have := h.2.1.at (show j ≤ i - 1 by omega) h2 h3
    omega
  · rw [num_app, num_cons]
    have h1 := h.2.2 c
    have h2 : num ([] : List Bk) c = 0 := rfl
    by_cases hc : x.c = c
    · subst hc
      rw [if_pos rfl]
      omega
    · rw [if_neg hc]
      omega
theorem sumC_bound {l : List Bk} (h : ∀ b ∈ l, isPow b.c ∧ b.c ≤ 1073741824) : 0 ≤ sumC l ∧ sumC l ≤ l.length * 1073741824 := by
  induction l with
  | nil => simp [sumC]
  | cons b t ih =>
    have h1 := h b (by simp)
    have h2 := ih (fun b hb => h b (by simp [hb]))
    have h3 := h1.1.pos
    rw [sumC_cons, List.length_cons]
    omega
theorem sumC_snoc {l : List Bk} {i : Nat} {x : Bk} (hx : l[i]? = some x) : sumC (l.take (i + 1)) = sumC (l.take i) + x.c := by
  rw [take_snoc hx, sumC_app, sumC_cons]
  have : sumC [] = 0 := rfl
  omega
theorem num_snoc {l : List Bk} {i : Nat} {x : Bk} (hx : l[i]? = some x) (c : Int) : num (l.take (i + 1)) c = num (l.take i) c + if x.c = c then 1 else 0 := by
  rw [take_snoc hx, num_app, num_cons]
  have : num ([] : List Bk) c = 0 := rfl
  omega
theorem num_len (l : List Bk) (c : Int) : num l c ≤ l.length := List.countP_le_length
/-- Block M is the map of the numbers of sizes in L. -/
def MapN (w : World) (M : Nat) (L : List Bk) : Prop := ∃ D : DataW Unit, IsMap D ∧ (∀ c : Int, D.atKey (.int .i64 c) (.lit (.int .i64 0)) = .lit (.int .i64 (num L c))) ∧ w.ownsMap Try.prog 3 (plainElem Try.prog 3) M L.length D
theorem MapN.made (w : World) : MapN (w.alloc (.map #[] 0)) w.heap.size [] := ⟨.map [], isMap_empty, fun c => rfl, World.ownsMap_made _ _ _ _⟩
theorem MapN.kept {w w' : World} {M : Nat} {L : List Bk} {row : Option Nat} (h : MapN w M L) (hg : w.grownBy w' row) (hne : some M ≠ row) : MapN w' M L := by
  obtain ⟨D, h1, h2, h3⟩ := h
  exact ⟨D, h1, h2, h3.kept hg hne⟩
theorem MapN.alloc {w : World} {M : Nat} {L : List Bk} (h : MapN w M L) (o : Obj) : MapN (w.alloc o) M L := by
  obtain ⟨D, h1, h2, h3⟩ := h
  exact ⟨D, h1, h2, h3.alloc o⟩
theorem MapN.lt {w : World} {M : Nat} {L : List Bk} (h : MapN w M L) : M < w.heap.size := by
  obtain ⟨D, h1, h2, h3⟩ := h
  exact h3.lt
theorem MapN.drewN {w : World} {M : Nat} {L : List Bk} (h : MapN w M L) (m : Nat) : MapN (w.drewN m) M L := h
theorem wf_small {c : Int} (h1 : -9223372036854775808 ≤ c) (h2 : c ≤ 9223372036854775807) : (Lit.int .i64 c).wf = true := by
  have e1 : IntKind.i64.min = -9223372036854775808 := by decide
  have e2 : IntKind.i64.max = 9223372036854775807 := by decide
  simp [Lit.wf]
  omega
set_option maxRecDepth 100000 in
theorem MapN.look {w : World} {M : Nat} {L : List Bk} (h : MapN w M L) {c : Int} (h1 : -9223372036854775808 ≤ c) (h2 : c ≤ 9223372036854775807) : (Instr.lookup 96 (.map (some M)) (.int .i64 c) false).run Try.prog w = .ok (.int .i64 (num L c)) w := by
  obtain ⟨D, -, hat, h3⟩ := h
  obtain ⟨c0, hr, hat0, -⟩ := h3.lookup_int keyInt Try.underlying96 Try.underlying3 (zeroInt _) (keyOf_int_mk Try.underlying3 (wf_small h1 h2))
  rw [hat c] at hat0
  injection hat0 with hz
  injection hz with _ hz
  rw [hr, hz]
theorem MapN.snoc {w' : World} {M n : Nat} {l : List Bk} {i : Nat} {x : Bk} {D : DataW Unit} (hD : IsMap D) (hat : ∀ c : Int, D.atKey (.int .i64 c) (.lit (.int .i64 0)) = .lit (.int .i64 (num (l.take i) c))) (hx : l[i]? = some x)
    (hn : (l.take i).length = n) (ho : w'.ownsMap Try.prog 3 (plainElem Try.prog 3) M (n + 1) (D.put (.int .i64 x.c) (.lit (.int .i64 ((num (l.take i) x.c : Int) + 1))))) : MapN w' M (l.take (i + 1)) := by
  refine ⟨D.put (.int .i64 x.c) (.lit (.int .i64 ((num (l.take i) x.c : Int) + 1))), hD.put _ _, fun c => ?_, ?_⟩
  · rw [num_snoc hx]
    by_cases hc : x.c = c
    · subst hc
      rw [atKey_put_same hD (by trivial), if_pos rfl]
      rfl
    · rw [atKey_put_other (fun e => hc (by injection e with _ e; exact e.symm)), hat c, if_neg hc]
      rfl
  · rw [take_snoc hx, List.length_append, hn]
    exact ho
end Go.Proofs.Ytnofljgmkdommaa

/- Contract: history.sized of any history. -/
namespace Go.Proofs.Ytnofljgmkdommaa
open Go.RowKit Go.Maps

/-- The test of a bucket, as the walk decides it. -/
theorem szT_no {k : Int} {l : List Bk} {i : Nat} {x : Bk} (hx : l[i]? = some x) (h : ¬ szT k l i x) (fail : Int) : ¬ szP k fail l := fun hs => h (gp_test hx hs.1)
set_option maxRecDepth 100000 in
set_option maxHeartbeats 16000000 in
theorem hsized_any (w : World) (h : Hist) (A : Option Addr) (n c : Nat) (l : List Bk) (hR : Rs w none 3 Bk.vals A l) (hn : l.length = n) (hn2 : n ≤ 1000000) (hk : 2 ≤ h.k) (hk2 : h.k ≤ 16) :
    Calls Try.prog 52 #[.agg #[.string h.pk, .string h.ts, .int .i64 h.env, .int .i64 h.k, .int .i64 h.runs, .int .i64 h.fail, .int .i64 h.last, .slice A n c]] w fun e w' => RetB w (szP h.k h.fail l) e w' := by
  have hmm := @ run_makeMap Try.prog
  have HR := hide hR
  have HN := hide hn
  clear hR hn
  go_enter Try.func52, Try.ntmps52
  go_upto_region 1 with (fail)
  generalize hW : World.alloc w _ = v
  have HC := hide (show Cb v w.heap.size (h.cs A n c) by rw [← hW]; exact Cb.mk0 (h.cs A n c) (h.cs_nb A n c) _ rfl)
  have HB := hide (show Below w.heap.size w v by rw [← hW]; exact (Below.refl _ _).alloc (Nat.le_refl _) _)
  clear hW
  obtain ⟨a0, a1, a2, a3, a4, a5, a6, a7⟩ : _ ∧ _ ∧ _ ∧ _ ∧ _ ∧ _ ∧ _ ∧ _ := ⟨HC.out.cell 0 _ rfl, HC.out.cell 1 _ rfl, HC.out.cell 2 _ rfl, HC.out.cell 3 _ rfl, HC.out.cell 4 _ rfl, HC.out.cell 5 _ rfl, HC.out.cell 6 _ rfl, HC.out.cell 7 _ rfl⟩; have az := HC.out.sz
  go_upto_region 2 with (fail)
  generalize hW : World.alloc v _ = v2
  have HM2 := hide (show MapN v2 v.heap.size [] by rw [← hW]; exact MapN.made v)
  have HC2 := hide (show Cb v2 w.heap.size (h.cs A n c) by rw [← hW]; exact HC.out.alloc _)
  have HB2 := hide (show Below w.heap.size w v2 by rw [← hW]; exact HB.out.alloc HB.out.size _)
  obtain ⟨M, hM⟩ : ∃ M, M = v.heap.size := ⟨_, rfl⟩
  have hMw : w.heap.size < M := by rw [hM]; exact az
  rw [← hM] at HM2 ⊢
  clear a0 a1 a2 a3 a4 a5 a6 a7 az
  obtain ⟨a0, a1, a2, a3, a4, a5, a6, a7⟩ : _ ∧ _ ∧ _ ∧ _ ∧ _ ∧ _ ∧ _ ∧ _ := ⟨HC2.out.cell 0 _ rfl, HC2.out.cell 1 _ rfl, HC2.out.cell 2 _ rfl, HC2.out.cell 3 _ rfl, HC2.out.cell 4 _ rfl, HC2.out.cell 5 _ rfl, HC2.out.cell 6 _ rfl, HC2.out.cell 7 _ rfl⟩; have az := HC2.out.sz
  clear hW hM hmm
  go_upto_region 3 with (fail)
  clear a0 a1 a2 a3 a4 a5 a6 a7 az
  go_loopw [3, 12] (fun sv iv wr => ∃ (i : Nat) (s : Int), sv = .int .i64 s ∧ iv = .int .i64 (i : Int) ∧ i ≤ n ∧ Hid (s = sumC (l.take i)) ∧ Hid (Cb wr w.heap.size (h.cs A n c)) ∧ Hid (Below w.heap.size w wr) ∧ Hid (MapN wr M (l.take i)) ∧ Hid (GP h.k (l.take i))) (fun _ iv _ => n - (intOf iv).toNat)
  case atStart => exact ⟨0, 0, rfl, rfl, Nat.zero_le _, hide rfl, HC2, HB2, hide (by simpa using HM2.out), hide ⟨by simp, by simp [Srt], fun c => by simp [num]; omega⟩⟩
  case round =>
    obtain ⟨i, s, rfl, rfl, hi, HS, HCr, HBr, HMr, HG⟩ := hrel
    clear HC2 HB2 HM2 HC HB
    obtain ⟨a0, a1, a2, a3, a4, a5, a6, a7⟩ : _ ∧ _ ∧ _ ∧ _ ∧ _ ∧ _ ∧ _ ∧ _ := ⟨HCr.out.cell 0 _ rfl, HCr.out.cell 1 _ rfl, HCr.out.cell 2 _ rfl, HCr.out.cell 3 _ rfl, HCr.out.cell 4 _ rfl, HCr.out.cell 5 _ rfl, HCr.out.cell 6 _ rfl, HCr.out.cell 7 _ rfl⟩; have az := HCr.out.sz
    by_cases hin : i = n
    · have hlt : l.take i = l := List.take_of_length_le (by rw [HN.out, hin]; exact Nat.le_refl _)
      rw [hlt] at HS HMr HG
      clear hlt
      subst hin
      by_cases h0 : i = 0
      · subst h0
        have HL0 := hide (show l = [] from List.length_eq_zero_iff.1 HN.out)
        have HP0 := hide (show szP h.k h.fail l ↔ (0 : Int) = h.fail from ⟨fun t => by have := t.2.2; rw [HL0.out] at this; exact this, fun t => ⟨HG.out, fun e he => by (rw [HL0.out] at he; have := P2_pos e; have he : P2 e < 0 := he; omega), by rw [HL0.out]; exact t⟩⟩)
        by_cases hf : h.fail = 0
        · have q1 : (h.fail == 0) = true := by simp [hf]
          go_wp2_with fail
          refine bodyPost_ret (v := .bool true) (by simp [results, Try.results52, go_sem, *]) rfl (RetB.yes (HP0.out.2 hf.symm) HBr.out)
        · have q1 : (h.fail == 0) = false := by simp [hf]
          have HF := hide hf
          go_wp2_with fail
          refine bodyPost_ret (v := .bool false) (by simp [results, Try.results52, go_sem, *]) rfl (RetB.no (fun t => HF.out (HP0.out.1 t).symm) HBr.out)
      · obtain ⟨x, hx⟩ : ∃ x, l[0]? = some x := ⟨_, List.getElem?_eq_getElem (by have := HN.out; omega)⟩
        have HX := hide hx
        have HHD := hide (show hdC l = x.c by cases l with | nil => simp at hx | cons b t => (simp at hx; subst hx; rfl))
        have hxb := (HG.out.1 x (List.mem_of_getElem? hx)).2
        clear hx
        have q0 : ((i : Int) == 0) = false := by simp; omega
        have q1 : (0 : Int) < (i : Int) := by omega
        have q2 : 0 < i := by omega
        have hkw : IntKind.i64.wrap (h.k - 1) = h.k - 1 := IntWalk.i64_in _ (by omega)
        go_upto_region 12 with (fail)
        clear a0 a1 a2 a3 a4 a5 a6 a7 az
        go_upto_region 13 with (fail)
        go_loopw [7] (fun zv wr => ∃ (e : Nat) (z : Int), zv = .int .i64 z ∧ 1 ≤ z ∧ z ≤ 2147483648 ∧ Hid (z = P2 e) ∧ Hid (∀ e', e' < e → P2 e' < hdC l → h.k - 1 ≤ (num l (P2 e') : Int)) ∧ Hid (Cb wr w.heap.size (h.cs A i c)) ∧ Hid (Below w.heap.size w wr) ∧ Hid (MapN wr M l)) (fun zv _ => (4294967296 - (intOf zv)).toNat)
        case atStart => exact ⟨0, 1, rfl, by omega, by omega, hide rfl, hide (fun e he => by omega), HCr, HBr, HMr⟩
        case round =>
          clear HCr HBr HMr
          obtain ⟨e, z, rfl, hz1, hz2, HZ, HLO, HCr, HBr, HMr⟩ := hrel
          obtain ⟨a0, a1, a2, a3, a4, a5, a6, a7⟩ : _ ∧ _ ∧ _ ∧ _ ∧ _ ∧ _ ∧ _ ∧ _ := ⟨HCr.out.cell 0 _ rfl, HCr.out.cell 1 _ rfl, HCr.out.cell 2 _ rfl, HCr.out.cell 3 _ rfl, HCr.out.cell 4 _ rfl, HCr.out.cell 5 _ rfl, HCr.out.cell 6 _ rfl, HCr.out.cell 7 _ rfl⟩; have az := HCr.out.sz
          obtain ⟨g, o, rfl, hg, -, -, e2⟩ := bk_get (HR.out.below HBr.out) HX.out
          simp only [Nat.zero_mul, Nat.add_zero] at e2
          by_cases hzx : z < x.c
          · have r1 : decide (z < x.c) = true := decide_eq_true hzx
            have hr := HMr.out.look (c := z) (by omega) (by omega)
            obtain ⟨N5, hN5⟩ : ∃ N5 : Nat, N5 = num l z := ⟨_, rfl⟩
            rw [← hN5] at hr
            have HN5 := hide hN5
            clear hN5
            have hzw : IntKind.i64.wrap (z * 2) = z * 2 := IntWalk.i64_in _ (by omega)
            by_cases hlo : (N5 : Int) < h.k - 1
            · have r2 : decide ((N5 : Int) < h.k - 1) = true := decide_eq_true hlo
              have HLO2 := hide hlo
              go_wp2_with fail
              refine bodyPost_ret (v := .bool false) (by simp [results, Try.results52, go_sem, *]) rfl (RetB.no (fun t => by have := t.2.1 e (by rw [← HZ.out, HHD.out]; exact hzx); rw [← HZ.out, ← HN5.out] at this; have := HLO2.out; omega) HBr.out)
            · have r2 : decide ((N5 : Int) < h.k - 1) = false := decide_eq_false hlo
              have HLO2 := hide hlo
              go_wp2_with fail
              go_roundw
              case rel => exact ⟨e + 1, z * 2, by go_num, by omega, by omega, hide (by rw [P2_succ, ← HZ.out]; omega), hide (fun e' he' hp => by
                rcases Nat.lt_or_eq_of_le (Nat.le_of_lt_succ he') with h1 | h1
                · exact HLO.out e' h1 hp
                · rw [h1, ← HZ.out, ← HN5.out]
                  have := HLO2.out
                  omega), HCr, HBr, HMr⟩
              case measure => simp [intOf]; omega
          · have r1 : decide (z < x.c) = false := decide_eq_false hzx
            have HP0 := hide (show szP h.k h.fail l ↔ s = h.fail from ⟨fun t => by rw [HS.out]; exact t.2.2, fun t => ⟨HG.out, fun e' he' => HLO.out e' (P2_lt.1 (by rw [HHD.out] at he'; rw [← HZ.out]; omega)) he', by rw [← HS.out]; exact t⟩⟩)
            by_cases hf : s = h.fail
            · have r2 : (s == h.fail) = true := by simp [hf]
              have HF := hide hf
              clear hf
              go_wp2_with fail
              refine bodyPost_ret (v := .bool true) (by simp [results, Try.results52, go_sem, *]) rfl (RetB.yes (HP0.out.2 HF.out) HBr.out)
            · have r2 : (s == h.fail) = false := by simp [hf]
              have HF := hide hf
              clear hf
              go_wp2_with fail
              refine bodyPost_ret (v := .bool false) (by simp [results, Try.results52, go_sem, *]) rfl (RetB.no (fun t => HF.out (HP0.out.1 t)) HBr.out)
    · have hi2 : i < n := by omega
      obtain ⟨x, hx⟩ : ∃ x, l[i]? = some x := ⟨_, List.getElem?_eq_getElem (by have := HN.out; omega)⟩
      obtain ⟨g, o, rfl, hg, e0, e1, e2⟩ := bk_get (HR.out.below HBr.out) hx
      have HX := hide hx
      clear hx
      have hi3 : (i : Int) < (n : Int) := by omega
      have hi0 : (0 : Int) ≤ (i : Int) := by omega
      have hiw : IntKind.i64.wrap ((i : Int) + 1) = (i : Int) + 1 := IntWalk.i64_in _ (by omega)
      go_upto_region 5 with (fail)
      generalize hW : World.alloc wr _ = v3
      have HX3 := hide (show Cb v3 wr.heap.size x.vals by rw [← hW]; exact Cb.mk0 x.vals (by simp [Bk.vals]) _ rfl)
      have HC3 := hide (show Cb v3 w.heap.size (h.cs (some ⟨g, o, none⟩) n c) by rw [← hW]; exact HCr.out.alloc _)
      have HM3 := hide (show MapN v3 M (l.take i) by rw [← hW]; exact HMr.out.alloc _)
      have HB3 := hide (show Below w.heap.size w v3 by rw [← hW]; exact HBr.out.alloc HBr.out.size _)
      obtain ⟨X, hX⟩ : ∃ X, X = wr.heap.size := ⟨_, rfl⟩
      have hXM : M < X := by rw [hX]; exact HMr.out.lt
      rw [← hX] at HX3 ⊢
      clear hW hX e0 e1 e2 hg
      clear a0 a1 a2 a3 a4 a5 a6 a7 az
      obtain ⟨a0, a1, a2, a3, a4, a5, a6, a7⟩ : _ ∧ _ ∧ _ ∧ _ ∧ _ ∧ _ ∧ _ ∧ _ := ⟨HC3.out.cell 0 _ rfl, HC3.out.cell 1 _ rfl, HC3.out.cell 2 _ rfl, HC3.out.cell 3 _ rfl, HC3.out.cell 4 _ rfl, HC3.out.cell 5 _ rfl, HC3.out.cell 6 _ rfl, HC3.out.cell 7 _ rfl⟩; have az := HC3.out.sz
      have x2 := HX3.out.cell 2 _ rfl
      obtain ⟨d, hd⟩ : ∃ d, bits .and .i64 x.c (x.c - 1) = d := ⟨_, rfl⟩
      obtain ⟨N5, hN5⟩ : ∃ N5 : Nat, N5 = num (l.take i) x.c := ⟨_, rfl⟩
      have HN5 := hide hN5
      have HD := hide hd
      clear hN5 hd
      go_cut [58] from 17 to 58 (fun s58 wx => ∃ z, s58 = .bool z ∧ Hid (∃ d, wx = v3.drewN d) ∧ Hid (z = true ↔ ¬ szT h.k l i x))
      case first =>
        by_cases c1 : x.c < 1
        · have q1 : decide (x.c < 1) = true := decide_eq_true c1
          go_quiet (fail)
          go_wp2_with fail
          go_meet
          case rel => exact ⟨true, rfl, hide ⟨_, rfl⟩, hide ⟨fun _ t => by have := t.1; omega, fun _ => rfl⟩⟩
        · have q1 : decide (x.c < 1) = false := decide_eq_false c1
          by_cases c2 : 1073741824 < x.c
          · have q2 : decide (1073741824 < x.c) = true := decide_eq_true c2
            go_quiet (fail)
            go_wp2_with fail
            go_meet
            case rel => exact ⟨true, rfl, hide ⟨_, rfl⟩, hide ⟨fun _ t => by have := t.2.1; omega, fun _ => rfl⟩⟩
          · have q2 : decide (1073741824 < x.c) = false := decide_eq_false c2
            have hxw : IntKind.i64.wrap (x.c - 1) = x.c - 1 := IntWalk.i64_in _ (by omega)
            have hd : bits .and .i64 x.c (x.c - 1) = d := HD.out
            by_cases c3 : d = 0
            · have q3 : (d != 0) = false := by simp [c3]
              have hr : ∀ m, (Instr.lookup 96 (.map (some M)) (.int .i64 x.c) false).run Try.prog (v3.drewN m) = .ok (.int .i64 (N5 : Int)) (v3.drewN m) := fun m => by rw [HN5.out]; exact (HM3.out.drewN m).look (by omega) (by omega)
              have HT := hide (show (∀ y, 0 < i → l[i - 1]? = some y → x.c ≤ y.c) → ¬ (N5 : Int) = h.k → szT h.k l i x from fun a b => ⟨by omega, by omega, by rw [HD.out]; exact c3, a, by rw [← HN5.out]; exact b⟩)
              by_cases c4 : i = 0
              · have q4 : decide (0 < (i : Int)) = false := decide_eq_false (by omega)
                have q4n : decide (0 < i) = false := decide_eq_false (by omega)
                have C4 := hide c4
                clear c4
                by_cases c5 : (N5 : Int) = h.k
                · have q5 : ((N5 : Int) == h.k) = true := by simp [c5]
                  have q6 : decide ((N5 : Int) = h.k) = true := decide_eq_true c5
                  go_quiet (fail)
                  go_wp2_with fail
                  go_meet
                  case rel => exact ⟨true, rfl, hide ⟨_, rfl⟩, hide ⟨fun _ t => t.2.2.2.2 (by rw [← HN5.out]; exact c5), fun _ => rfl⟩⟩
                · have q5 : ((N5 : Int) == h.k) = false := by simp [c5]
                  have q6 : decide ((N5 : Int) = h.k) = false := decide_eq_false c5
                  go_quiet (fail)
                  go_wp2_with fail
                  go_meet
                  case rel => exact ⟨false, rfl, hide ⟨_, rfl⟩, hide ⟨fun e => (by cases e), fun t => absurd (HT.out (fun y hy => by have := C4.out; omega) c5) t⟩⟩
              · have q4 : decide (0 < (i : Int)) = true := decide_eq_true (by omega)
                have q4n : decide (0 < i) = true := decide_eq_true (by omega)
                have q4m : 0 < i := by omega
                obtain ⟨p, hp⟩ : ∃ p, i = p + 1 := ⟨i - 1, by omega⟩
                obtain ⟨y, hy⟩ : ∃ y, l[p]? = some y := ⟨_, List.getElem?_eq_getElem (by have := HN.out; omega)⟩
                obtain ⟨g', o', hA, hg, -, -, f2⟩ := bk_get (HR.out.below HB3.out) hy
                injection hA with hA
                injection hA with h1 h2
                subst h1 h2
                have hpw : IntKind.i64.wrap ((i : Int) - 1) = (p : Int) := by rw [IntWalk.i64_in _ (by omega)]; omega
                have hp0 : (0 : Int) ≤ (p : Int) := by omega
                have hp1 : (p : Int) < (n : Int) := by omega
                have hp2 : p < n := by omega
                have HP := hide hp
                have HY := hide hy
                clear hp hy
                by_cases c6 : y.c < x.c
                · have q7 : decide (y.c < x.c) = true := decide_eq_true c6
                  go_quiet (fail)
                  go_wp2_with fail
                  go_meet
                  case rel => exact ⟨true, rfl, hide ⟨_, rfl⟩, hide ⟨fun _ t => by have := t.2.2.2.1 y (by omega) (by rw [show i - 1 = p by have := HP.out; omega]; exact HY.out); omega, fun _ => rfl⟩⟩
                · have q7 : decide (y.c < x.c) = false := decide_eq_false c6
                  have HT2 := hide (show ∀ y, 0 < i → l[i - 1]? = some y → x.c ≤ y.c from fun z _ hz => by rw [show i - 1 = p by have := HP.out; omega, HY.out] at hz; injection hz with hz; subst hz; omega)
                  by_cases c5 : (N5 : Int) = h.k
                  · have q5 : ((N5 : Int) == h.k) = true := by simp [c5]
                    have q6 : decide ((N5 : Int) = h.k) = true := decide_eq_true c5
                    go_quiet (fail)
                    go_wp2_with fail
                    go_meet
                    case rel => exact ⟨true, rfl, hide ⟨_, rfl⟩, hide ⟨fun _ t => t.2.2.2.2 (by rw [← HN5.out]; exact c5), fun _ => rfl⟩⟩
                  · have q5 : ((N5 : Int) == h.k) = false := by simp [c5]
                    have q6 : decide ((N5 : Int) = h.k) = false := decide_eq_false c5
                    go_quiet (fail)
                    go_wp2_with fail
                    go_meet
                    case rel => exact ⟨false, rfl, hide ⟨_, rfl⟩, hide ⟨fun e => (by cases e), fun t => absurd (HT.out HT2.out c5) t⟩⟩
            · have q3 : (d != 0) = true := by simp [c3]
              go_quiet (fail)
              go_wp2_with fail
              go_meet
              case rel => exact ⟨true, rfl, hide ⟨_, rfl⟩, hide ⟨fun _ t => by have := t.2.2.1; rw [HD.out] at this; exact c3 this, fun _ => rfl⟩⟩
      case rest =>
        obtain ⟨z, rfl, HW, HZ⟩ := hcut
        have HBX := hide (show Below v3.heap.size v3 wc by obtain ⟨d, hd⟩ := HW.out; rw [hd]; exact Dr.below ⟨d, rfl⟩)
        have HC4 := hide (HC3.out.below HBX.out)
        have HX4 := hide (HX3.out.below HBX.out)
        have HM4 := hide (HM3.out.kept (grown_of_below HBX.out none) (by simp))
        have HB4 := hide (HB3.out.trans (HBX.out.mono HB3.out.size))
        clear x2
        clear a0 a1 a2 a3 a4 a5 a6 a7 az
        clear HW HD HC3 HX3 HM3 HCr HMr HBr HB3
        cases z with
        | true =>
          go_wp2_with fail
          refine bodyPost_ret (v := .bool false) (by simp [results, Try.results52, go_sem, *]) rfl (RetB.no (szT_no HX.out (HZ.out.1 (by simp)) _) HB4.out)
        | false =>
          have HT := hide (show szT h.k l i x from Classical.byContradiction fun t => by have := HZ.out.2 t; cases this)
          obtain ⟨t1, t2, -, -, -⟩ : 1 ≤ x.c ∧ x.c ≤ 1073741824 ∧ _ ∧ _ ∧ _ := HT.out
          obtain ⟨s1, s2⟩ : 0 ≤ s ∧ s ≤ (n : Int) * 1073741824 := by
            have h1 := sumC_bound HG.out.1
            rw [List.length_take, HN.out, Nat.min_eq_left hi] at h1
            rw [HS.out]
            omega
          have hsw : IntKind.i64.wrap (s + x.c) = s + x.c := IntWalk.i64_in _ (by omega)
          have hN5 : N5 ≤ n := by
            have h1 := num_len (l.take i) x.c
            rw [List.length_take, HN.out] at h1
            have := HN5.out
            omega
          have hN5w : IntKind.i64.wrap ((N5 : Int) + 1) = (N5 : Int) + 1 := IntWalk.i64_in _ (by omega)
          have hr := HM4.out.look (c := x.c) (by omega) (by omega)
          rw [← HN5.out] at hr
          obtain ⟨D, hD, hat, hown⟩ := HM4.out
          have HLT := hide (show (l.take i).length = i by rw [List.length_take, HN.out, Nat.min_eq_left hi])
          rw [HLT.out] at hown
          have HDD := hide hD
          have HAT := hide hat
          have HOW := hide hown
          clear hD hat hown
          have HK := hide (show keyOf Try.prog 3 (.int .i64 x.c) = some (.int .i64 x.c) from keyOf_int_mk Try.underlying3 (wf_small (by omega) (by omega)))
          have HV := hide (show (Lit.int .i64 ((N5 : Int) + 1)).wf = true from wf_small (by omega) (by omega))
          have x2 := HX4.out.cell 2 _ rfl
          clear s1 s2 hN5
          go_wp2_with (at_mapUpdate; refine wpList_mapUpdate_own _ rfl _ _ _ 96 rfl 3 3 keyInt Try.underlying96 _ M i _ rfl HOW.out (by unfold maxLen; omega) _ _ _ rfl rfl HK.out _ [] (plainElem_int Try.underlying3 HV.out) ?_; intro w1 hown1 hgrow1; have HG1 := hide hgrow1; have HO1 := hide hown1; clear hown1 hgrow1)
          have HFR := hide (show Fr wc w1 (fun b => b = M) from ⟨HG1.out.os, HG1.out.tape, HG1.out.output, HG1.out.size, fun k _ hne => HG1.out.block k (by assumption) (fun e => hne (by injection e with e))⟩)
          have HC5 := hide (HC4.out.one HFR.out (by omega))
          have HB5 := hide (bw_one' HB4.out HFR.out (by omega))
          have HM5 := hide (show MapN w1 M (l.take (i + 1)) from MapN.snoc HDD.out HAT.out HX.out HLT.out (by rw [← HN5.out]; exact HO1.out))
          go_roundw
          case rel => exact ⟨i + 1, s + x.c, by go_num, by go_num, by omega, hide (by rw [sumC_snoc HX.out, HS.out]), HC5, HB5, HM5, hide (gp_step HX.out HG.out HT.out)⟩
          case measure => simp [intOf]; omega
end Go.Proofs.Ytnofljgmkdommaa

/- Contract: history.Check of any history. -/
namespace Go.Proofs.Ytnofljgmkdommaa
open Go.RowKit

/-- A history is right. -/
structure HP (h : Hist) (l : List Bk) : Prop where
  us : usableB h.pk h.ts = true
  e0 : 0 ≤ h.env
  e1 : h.env ≤ 63
  k0 : 2 ≤ h.k
  k1 : h.k ≤ 16
  f0 : 0 ≤ h.fail
  fr : h.fail ≤ h.runs
  rm : h.runs ≤ 1073741824
  l0 : 0 ≤ h.last
  lm : h.last ≤ 1073741824
  lz : h.last = 0 ↔ h.runs = 0
  ord : ordL h.last l
  sz : szP h.k h.fail l
set_option maxRecDepth 100000 in
set_option maxHeartbeats 16000000 in
theorem hcheck_any (w : World) (h : Hist) (A : Option Addr) (n c : Nat) (l : List Bk) (hR : Rs w none 3 Bk.vals A l) (hn : l.length = n) (hn2 : n ≤ 1000000) :
    Calls Try.prog 30 #[.agg #[.string h.pk, .string h.ts, .int .i64 h.env, .int .i64 h.k, .int .i64 h.runs, .int .i64 h.fail, .int .i64 h.last, .slice A n c]] w fun e w' => RetB w (HP h l) e w' := by
  have HR := hide hR
  have HN := hide hn
  clear hR hn
  obtain ⟨us, hus⟩ : ∃ us, usableB h.pk h.ts = us := ⟨_, rfl⟩
  have HUS := hide hus
  clear hus
  obtain ⟨z1, hz1⟩ : ∃ z, (h.last == 0) = z := ⟨_, rfl⟩
  obtain ⟨z2, hz2⟩ : ∃ z, (h.runs == 0) = z := ⟨_, rfl⟩
  have HZ := hide (show (h.last = 0 ↔ h.runs = 0) ↔ z1 = z2 by rw [← hz1, ← hz2, Bool.eq_iff_iff, beq_iff_eq, beq_iff_eq])
  cases us with
  | false =>
    go_enter Try.func30, Try.ntmps30
    go_upto_region 1 with (fail)
    generalize hW : World.alloc w _ = v
    have HC := hide (show Cb v w.heap.size (h.cs A n c) by rw [← hW]; exact Cb.mk0 (h.cs A n c) (h.cs_nb A n c) _ rfl)
    have HB := hide (show Below w.heap.size w v by rw [← hW]; exact (Below.refl _ _).alloc (Nat.le_refl _) _)
    clear hW
    obtain ⟨a0, a1, a2, a3, a4, a5, a6, a7⟩ : _ ∧ _ ∧ _ ∧ _ ∧ _ ∧ _ ∧ _ ∧ _ := ⟨HC.out.cell 0 _ rfl, HC.out.cell 1 _ rfl, HC.out.cell 2 _ rfl, HC.out.cell 3 _ rfl, HC.out.cell 4 _ rfl, HC.out.cell 5 _ rfl, HC.out.cell 6 _ rfl, HC.out.cell 7 _ rfl⟩; have az := HC.out.sz
    go_wp2_with (first
      | (go_at_call 49; (with_reducible refine (usable_any h.pk h.ts _).mono ?_); rintro e w1 ⟨rfl, hb⟩; rw [HUS.out]; have HC1 := hide (HC.out.below hb); have HB1 := hide (HB.out.trans (hb.mono HB.out.size)); clear a0 a1 a2 a3 a4 a5 a6 a7 az; obtain ⟨a0, a1, a2, a3, a4, a5, a6, a7⟩ : _ ∧ _ ∧ _ ∧ _ ∧ _ ∧ _ ∧ _ ∧ _ := ⟨HC1.out.cell 0 _ rfl, HC1.out.cell 1 _ rfl, HC1.out.cell 2 _ rfl, HC1.out.cell 3 _ rfl, HC1.out.cell 4 _ rfl, HC1.out.cell 5 _ rfl, HC1.out.cell 6 _ rfl, HC1.out.cell 7 _ rfl⟩; have az := HC1.out.sz; clear hb)
      | (go_at_call 51; (with_reducible refine (hord_any _ h A n c l (HR.out.below HB1.out) HN.out hn2).mono ?_); rintro e w2 ⟨b, rfl, hq, hb⟩; have HQ := hide hq; have HC2 := hide (HC1.out.below hb); have HB2 := hide (HB1.out.trans (hb.mono HB1.out.size)); clear a0 a1 a2 a3 a4 a5 a6 a7 az; obtain ⟨a0, a1, a2, a3, a4, a5, a6, a7⟩ : _ ∧ _ ∧ _ ∧ _ ∧ _ ∧ _ ∧ _ ∧ _ := ⟨HC2.out.cell 0 _ rfl, HC2.out.cell 1 _ rfl, HC2.out.cell 2 _ rfl, HC2.out.cell 3 _ rfl, HC2.out.cell 4 _ rfl, HC2.out.cell 5 _ rfl, HC2.out.cell 6 _ rfl, HC2.out.cell 7 _ rfl⟩; have az := HC2.out.sz; clear hq hb)
      | (go_at_call 52; (with_reducible refine (hsized_any _ h A n c l (HR.out.below HB2.out) HN.out hn2 (by omega) (by omega)).mono ?_); rintro e w3 ⟨b2, rfl, hq, hb⟩; have HQ2 := hide hq; have HB3 := hide (HB2.out.trans (hb.mono HB2.out.size)); clear hq hb))
    refine bodyPost_ret (v := .bool false) (by simp [results, Try.results30, go_sem, *]) rfl (RetB.no (fun t => by have := t.us; rw [HUS.out] at this; cases this) HB1.out)
  | true =>
    by_cases hz : z1 = z2
    · have HZZ := hide (HZ.out.2 hz)
      have hzz : (z1 != z2) = false := by simp [hz]
      subst hz
      go_enter Try.func30, Try.ntmps30
      go_upto_region 1 with (fail)
      generalize hW : World.alloc w _ = v
      have HC := hide (show Cb v w.heap.size (h.cs A n c) by rw [← hW]; exact Cb.mk0 (h.cs A n c) (h.cs_nb A n c) _ rfl)
      have HB := hide (show Below w.heap.size w v by rw [← hW]; exact (Below.refl _ _).alloc (Nat.le_refl _) _)
      clear hW
      obtain ⟨a0, a1, a2, a3, a4, a5, a6, a7⟩ : _ ∧ _ ∧ _ ∧ _ ∧ _ ∧ _ ∧ _ ∧ _ := ⟨HC.out.cell 0 _ rfl, HC.out.cell 1 _ rfl, HC.out.cell 2 _ rfl, HC.out.cell 3 _ rfl, HC.out.cell 4 _ rfl, HC.out.cell 5 _ rfl, HC.out.cell 6 _ rfl, HC.out.cell 7 _ rfl⟩; have az := HC.out.sz
      go_wp2_with (first
        | (go_at_call 49; (with_reducible refine (usable_any h.pk h.ts _).mono ?_); rintro e w1 ⟨rfl, hb⟩; rw [HUS.out]; have HC1 := hide (HC.out.below hb); have HB1 := hide (HB.out.trans (hb.mono HB.out.size)); clear a0 a1 a2 a3 a4 a5 a6 a7 az; obtain ⟨a0, a1, a2, a3, a4, a5, a6, a7⟩ : _ ∧ _ ∧ _ ∧ _ ∧ _ ∧ _ ∧ _ ∧ _ := ⟨HC1.out.cell 0 _ rfl, HC1.out.cell 1 _ rfl, HC1.out.cell 2 _ rfl, HC1.out.cell 3 _ rfl, HC1.out.cell 4 _ rfl, HC1.out.cell 5 _ rfl, HC1.out.cell 6 _ rfl, HC1.out.cell 7 _ rfl⟩; have az := HC1.out.sz; clear hb)
        | (go_at_call 51; (with_reducible refine (hord_any _ h A n c l (HR.out.below HB1.out) HN.out hn2).mono ?_); rintro e w2 ⟨b, rfl, hq, hb⟩; have HQ := hide hq; have HC2 := hide (HC1.out.below hb); have HB2 := hide (HB1.out.trans (hb.mono HB1.out.size)); clear a0 a1 a2 a3 a4 a5 a6 a7 az; obtain ⟨a0, a1, a2, a3, a4, a5, a6, a7⟩ : _ ∧ _ ∧ _ ∧ _ ∧ _ ∧ _ ∧ _ ∧ _ := ⟨HC2.out.cell 0 _ rfl, HC2.out.cell 1 _ rfl, HC2.out.cell 2 _ rfl, HC2.out.cell 3 _ rfl, HC2.out.cell 4 _ rfl, HC2.out.cell 5 _ rfl, HC2.out.cell 6 _ rfl, HC2.out.cell 7 _ rfl⟩; have az := HC2.out.sz; clear hq hb)
        | (go_at_call 52; (with_reducible refine (hsized_any _ h A n c l (HR.out.below HB2.out) HN.out hn2 (by omega) (by omega)).mono ?_); rintro e w3 ⟨b2, rfl, hq, hb⟩; have HQ2 := hide hq; have HB3 := hide (HB2.out.trans (hb.mono HB2.out.size)); clear hq hb))
      all_goals first
        | (refine bodyPost_ret (v := .bool b2) (by simp [results, Try.results30, go_sem, *]) rfl ⟨b2, rfl, ⟨fun e => ⟨HUS.out, by omega, by omega, by omega, by omega, by omega, by omega, by omega, by omega, by omega, HZZ.out, HQ.out.1 (by assumption), HQ2.out.1 e⟩, fun t => HQ2.out.2 t.sz⟩, HB3.out⟩)
        | (refine bodyPost_ret (v := .bool false) (by simp [results, Try.results30, go_sem, *]) rfl (RetB.no (fun t => absurd (HQ.out.2 t.ord) (by assumption)) HB2.out))
        | (refine bodyPost_ret (v := .bool false) (by simp [results, Try.results30, go_sem, *]) rfl (RetB.no (fun t => (by have := t.e0; have := t.e1; have := t.k0; have := t.k1; have := t.f0; have := t.fr; have := t.rm; have := t.l0; have := t.lm; omega)) HB1.out))
    · have HZZ := hide (fun h => hz (HZ.out.1 h))
      have hzz : (z1 != z2) = true := by simp [hz]
      have hz3 : (!z1 == z2) = true := by cases z1 <;> cases z2 <;> simp_all
      have hz := hide hz
      go_enter Try.func30, Try.ntmps30
      go_upto_region 1 with (fail)
      generalize hW : World.alloc w _ = v
      have HC := hide (show Cb v w.heap.size (h.cs A n c) by rw [← hW]; exact Cb.mk0 (h.cs A n c) (h.cs_nb A n c) _ rfl)
      have HB := hide (show Below w.heap.size w v by rw [← hW]; exact (Below.refl _ _).alloc (Nat.le_refl _) _)
      clear hW
      obtain ⟨a0, a1, a2, a3, a4, a5, a6, a7⟩ : _ ∧ _ ∧ _ ∧ _ ∧ _ ∧ _ ∧ _ ∧ _ := ⟨HC.out.cell 0 _ rfl, HC.out.cell 1 _ rfl, HC.out.cell 2 _ rfl, HC.out.cell 3 _ rfl, HC.out.cell 4 _ rfl, HC.out.cell 5 _ rfl, HC.out.cell 6 _ rfl, HC.out.cell 7 _ rfl⟩; have az := HC.out.sz
      go_wp2_with (first
        | (go_at_call 49; (with_reducible refine (usable_any h.pk h.ts _).mono ?_); rintro e w1 ⟨rfl, hb⟩; rw [HUS.out]; have HC1 := hide (HC.out.below hb); have HB1 := hide (HB.out.trans (hb.mono HB.out.size)); clear a0 a1 a2 a3 a4 a5 a6 a7 az; obtain ⟨a0, a1, a2, a3, a4, a5, a6, a7⟩ : _ ∧ _ ∧ _ ∧ _ ∧ _ ∧ _ ∧ _ ∧ _ := ⟨HC1.out.cell 0 _ rfl, HC1.out.cell 1 _ rfl, HC1.out.cell 2 _ rfl, HC1.out.cell 3 _ rfl, HC1.out.cell 4 _ rfl, HC1.out.cell 5 _ rfl, HC1.out.cell 6 _ rfl, HC1.out.cell 7 _ rfl⟩; have az := HC1.out.sz; clear hb)
        | (go_at_call 51; (with_reducible refine (hord_any _ h A n c l (HR.out.below HB1.out) HN.out hn2).mono ?_); rintro e w2 ⟨b, rfl, hq, hb⟩; have HQ := hide hq; have HC2 := hide (HC1.out.below hb); have HB2 := hide (HB1.out.trans (hb.mono HB1.out.size)); clear a0 a1 a2 a3 a4 a5 a6 a7 az; obtain ⟨a0, a1, a2, a3, a4, a5, a6, a7⟩ : _ ∧ _ ∧ _ ∧ _ ∧ _ ∧ _ ∧ _ ∧ _ := ⟨HC2.out.cell 0 _ rfl, HC2.out.cell 1 _ rfl, HC2.out.cell 2 _ rfl, HC2.out.cell 3 _ rfl, HC2.out.cell 4 _ rfl, HC2.out.cell 5 _ rfl, HC2.out.cell 6 _ rfl, HC2.out.cell 7 _ rfl⟩; have az := HC2.out.sz; clear hq hb)
        | (go_at_call 52; (with_reducible refine (hsized_any _ h A n c l (HR.out.below HB2.out) HN.out hn2 (by omega) (by omega)).mono ?_); rintro e w3 ⟨b2, rfl, hq, hb⟩; have HQ2 := hide hq; have HB3 := hide (HB2.out.trans (hb.mono HB2.out.size)); clear hq hb))
      all_goals first
        | (refine bodyPost_ret (v := .bool false) (by simp [results, Try.results30, go_sem, *]) rfl (RetB.no (fun t => HZZ.out t.lz) HB1.out))
        | (exfalso; simp_all; done)
end Go.Proofs.Ytnofljgmkdommaa

/- Plain: what the reference asks of a history's buckets. -/
namespace Go.Proofs.Ytnofljgmkdommaa
open Go.RowKit

def powB (x : Int) : Bool := decide (1 ≤ x) && (x.toNat &&& (x.toNat - 1) == 0)
theorem powB_iff {x : Int} : powB x = true ↔ isPow x := by
  unfold powB
  rw [Bool.and_eq_true, decide_eq_true_eq, beq_iff_eq]
  constructor
  · rintro ⟨h1, h2⟩
    obtain ⟨k, hk⟩ := (Nat.and_sub_one_eq_zero_iff_isPowerOfTwo (by omega)).1 h2
    exact ⟨k, by unfold P2; omega⟩
  · intro h
    have h1 := h.pos
    obtain ⟨k, hk⟩ := h
    exact ⟨h1, (Nat.and_sub_one_eq_zero_iff_isPowerOfTwo (by omega)).2 ⟨k, by unfold P2 at hk; omega⟩⟩
theorem powB_eq {x y : Int} (h : isPow x ↔ isPow y) : powB x = powB y := by rw [Bool.eq_iff_iff, powB_iff, powB_iff]; exact h
theorem powB_one {x : Int} (h : x ≤ 1) : powB x = (x == 1) := by
  rw [Bool.eq_iff_iff, powB_iff, beq_iff_eq]
  constructor
  · rintro ⟨e, rfl⟩
    have := P2_pos e
    omega
  · rintro rfl
    exact ⟨0, rfl⟩
theorem powB_odd {x : Int} (h : 1 < x) (ho : x % 2 ≠ 0) : powB x = false := by
  rw [← Bool.not_eq_true, powB_iff]
  rintro ⟨e, rfl⟩
  cases e with
  | zero => have : P2 0 = 1 := rfl; omega
  | succ e => rw [P2_succ] at ho; omega
theorem powB_even {x : Int} (h : 1 < x) (ho : x % 2 = 0) : powB x = powB (x / 2) := by
  refine powB_eq ⟨?_, ?_⟩
  · rintro ⟨e, rfl⟩
    cases e with
    | zero => have : P2 0 = 1 := rfl; omega
    | succ e => exact ⟨e, by rw [P2_succ]; omega⟩
  · rintro ⟨e, he⟩
    exact ⟨e + 1, by rw [P2_succ]; omega⟩
/-- What the reference asks of a bucket. -/
def BT (last k fail : Int) (l : List Bk) (i : Nat) (x : Bk) : Prop := isPow x.c ∧ x.c ≤ 1073741824 ∧ 1 ≤ x.f ∧ x.f ≤ x.l ∧ x.l ≤ last ∧ (x.c = 1 → x.f = x.l) ∧ (num l x.c : Int) ≤ k ∧ sumC (l.take (i + 1)) ≤ fail ∧ (∀ y, 0 < i → l[i - 1]? = some y → x.c ≤ y.c ∧ y.l ≤ x.f)
theorem ordL_le {last : Int} : ∀ {l : List Bk}, ordL last l → ∀ b ∈ l, b.l ≤ last
  | [], _, b, hb => by simp at hb
  | [x], h, b, hb => by
    simp at hb
    subst hb
    exact h.1.2.2.1
  | x :: y :: t, h, b, hb => by
    have ih := ordL_le h.2
    rcases List.mem_cons.1 hb with rfl | hb
    · have h1 : b.l ≤ y.f := h.1.2.2.1
      have h2 : y.f ≤ y.l := h.2.1.2.1
      have := ih y (by simp)
      omega
    · exact ih b hb
theorem ordL_to {last : Int} {l : List Bk} (h : ordL last l) : ∀ i, ordL last (l.drop i)
  | 0 => h
  | i + 1 => by
    cases hx : l[i]? with
    | none =>
      have : l.length ≤ i := List.getElem?_eq_none_iff.1 hx
      rw [List.drop_eq_nil_of_le (by omega)]
      trivial
    | some x => exact ((ordL_drop last hx).1 (ordL_to h i)).2
theorem ordL_of {last : Int} {l : List Bk} (h : ∀ i x, l[i]? = some x → ordT (hdF last (l.drop (i + 1))) x) : ∀ m i, l.length ≤ i + m → ordL last (l.drop i)
  | 0, i, hi => by rw [List.drop_eq_nil_of_le (by omega)]; trivial
  | m + 1, i, hi => by
    cases hx : l[i]? with
    | none =>
      have : l.length ≤ i := List.getElem?_eq_none_iff.1 hx
      rw [List.drop_eq_nil_of_le (by omega)]
      trivial
    | some x => exact (ordL_drop last hx).2 ⟨h i x hx, ordL_of h m (i + 1) (by omega)⟩
theorem bt_of {last k fail : Int} {l : List Bk} (ho : ordL last l) (hs : szP k fail l) {i : Nat} {x : Bk} (hx : l[i]? = some x) : BT last k fail l i x := by
  obtain ⟨⟨g1, g2, g3⟩, -, hsum⟩ := hs
  have hm := List.mem_of_getElem? hx
  have ht := ((ordL_drop last hx).1 (ordL_to ho i)).1
  refine ⟨(g1 x hm).1, (g1 x hm).2, ht.1, ht.2.1, ordL_le ho x hm, ht.2.2.2, g3 x.c, ?_, fun y hi hy => ⟨g2.at (by omega) hy hx, ?_⟩⟩
  · have h1 : sumC l = sumC (l.take (i + 1)) + sumC (l.drop (i + 1)) := by rw [← sumC_app, List.take_append_drop]
    have h2 := (sumC_bound (l := l.drop (i + 1)) (fun b hb => g1 b (List.mem_of_mem_drop hb))).1
    omega
  · have h1 := ((ordL_drop last hy).1 (ordL_to ho (i - 1))).1.2.2.1
    rw [show i - 1 + 1 = i by omega, hdF_drop last hx] at h1
    exact h1
theorem bt_gp {last k fail : Int} {l : List Bk} (hk : 0 ≤ k) (h : ∀ i x, l[i]? = some x → BT last k fail l i x) : ∀ i, GP k (l.take i)
  | 0 => ⟨by simp, by simp [Srt], fun c => by simp [num]; omega⟩
  | i + 1 => by
    have ih := bt_gp hk h i
    cases hx : l[i]? with
    | none =>
      have hle : l.length ≤ i := List.getElem?_eq_none_iff.1 hx
      rw [List.take_of_length_le (by omega)]
      rwa [List.take_of_length_le (by omega)] at ih
    | some x =>
      obtain ⟨b1, b2, b3, b4, b5, b6, b7, b8, b9⟩ := h i x hx
      refine gp_step hx ih ⟨b1.pos, b2, (pow_iff b1.pos b2).2 b1, fun y hi hy => (b9 y hi hy).1, fun hc => ?_⟩
      have h1 : num l x.c = num (l.take (i + 1)) x.c + num (l.drop (i + 1)) x.c := by rw [← num_app, List.take_append_drop]
      have h2 := num_snoc hx x.c
      rw [if_pos rfl] at h2
      omega
theorem bt_all {last k fail : Int} {l : List Bk} (hk : 0 ≤ k) (h : ∀ i x, l[i]? = some x → BT last k fail l i x) : GP k l ∧ ordL last l := by
  constructor
  · have := bt_gp hk h l.length
    rwa [List.take_length] at this
  · refine ordL_of (fun i x hx => ?_) l.length 0 (by omega)
    obtain ⟨b1, b2, b3, b4, b5, b6, b7, b8, b9⟩ := h i x hx
    refine ⟨b3, b4, ?_, b6⟩
    cases hy : l[i + 1]? with
    | none =>
      have : l.length ≤ i + 1 := List.getElem?_eq_none_iff.1 hy
      rw [List.drop_eq_nil_of_le this]
      exact b5
    | some y =>
      rw [hdF_drop last hy]
      exact ((h (i + 1) y hy).2.2.2.2.2.2.2.2 x (by omega) (by simpa using hx)).2
end Go.Proofs.Ytnofljgmkdommaa

/- Contracts: the reference's number and power. -/
namespace Go.Proofs.Ytnofljgmkdommaa
open Go.RowKit

set_option maxRecDepth 100000 in
set_option maxHeartbeats 4000000 in
theorem r21number_any (w : World) (A : Option Addr) (n c : Nat) (l : List Bk) (x : Int) (hR : Rs w none 3 Bk.vals A l) (hn : l.length = n) (hn2 : n ≤ 1000000) :
    Calls Try.prog 78 #[.slice A n c, .int .i64 x] w fun e w' => e = .returned (.int .i64 (num l x : Int)) ∧ w = w' := by
  have HR := hide hR
  have HN := hide hn
  clear hR hn
  go_enter Try.func78, Try.ntmps78
  go_upto_region 3 with (fail)
  go_loopw [5, 6] (fun sv iv wr => ∃ i s : Nat, sv = .int .i64 (s : Int) ∧ iv = .int .i64 (i : Int) ∧ i ≤ n ∧ s ≤ i ∧ Hid (s = num (l.take i) x) ∧ w = wr) (fun _ iv _ => n - (intOf iv).toNat)
  case atStart => exact ⟨0, 0, rfl, rfl, Nat.zero_le _, Nat.le_refl _, hide rfl, rfl⟩
  case round =>
    obtain ⟨i, s, rfl, rfl, hi, hsi, HS, rfl⟩ := hrel
    by_cases hin : i = n
    · subst hin
      have hs2 : s = num l x := by
        have := HS.out
        rwa [List.take_of_length_le (by rw [HN.out]; exact Nat.le_refl _)] at this
      subst hs2
      go_wp2_with fail
      refine bodyPost_ret (v := .int .i64 (num l x : Int)) (by simp [results, Try.results78, go_sem, *]) rfl ⟨rfl, rfl⟩
    · have hi2 : i < n := by omega
      obtain ⟨y, hy⟩ : ∃ y, l[i]? = some y := ⟨_, List.getElem?_eq_getElem (by have := HN.out; omega)⟩
      obtain ⟨g, o, rfl, hg, e0, e1, e2⟩ := bk_get HR.out hy
      have HY := hide hy
      have hi3 : (i : Int) < (n : Int) := by omega
      have hi0 : (0 : Int) ≤ (i : Int) := by omega
      have hiw : IntKind.i64.wrap ((i : Int) + 1) = (i : Int) + 1 := IntWalk.i64_in _ (by omega)
      have hsw : IntKind.i64.wrap ((s : Int) + 1) = (s : Int) + 1 := IntWalk.i64_in _ (by omega)
      clear hy e0 e1
      by_cases hc : y.c = x
      · have q0 : (y.c == x) = true := by simp [hc]
        have HNS := hide (show s + 1 = num (l.take (i + 1)) x by rw [num_snoc HY.out, if_pos hc, HS.out])
        have hc := hide hc
        go_wp2_with fail
        go_roundw
        case rel => exact ⟨i + 1, s + 1, by go_num, by go_num, by omega, by omega, HNS, trivial⟩
        case measure => simp [intOf]; omega
      · have q0 : (y.c == x) = false := by simp [hc]
        have HNS := hide (show s = num (l.take (i + 1)) x by rw [num_snoc HY.out, if_neg hc, HS.out]; rfl)
        have hc := hide hc
        go_wp2_with fail
        go_roundw
        case rel => exact ⟨i + 1, s, rfl, by go_num, by omega, by omega, HNS, trivial⟩
        case measure => simp [intOf]; omega
set_option maxRecDepth 100000 in
set_option maxHeartbeats 4000000 in
theorem r21power_any (w : World) (x : Int) (hx : x ≤ 9223372036854775807) :
    Calls Try.prog 77 #[.int .i64 x] w fun e w' => e = .returned (.bool (powB x)) ∧ w = w' := by
  go_enter Try.func77, Try.ntmps77
  go_upto_region 1 with (fail)
  go_loopw [0] (fun xv wr => ∃ y : Int, xv = .int .i64 y ∧ y ≤ 9223372036854775807 ∧ Hid (powB x = powB y) ∧ w = wr) (fun xv _ => (intOf xv).toNat)
  case atStart => exact ⟨x, rfl, hx, hide rfl, rfl⟩
  case round =>
    obtain ⟨y, rfl, hy, HP, rfl⟩ := hrel
    by_cases h1 : 1 < y
    · have q0 : decide (1 < y) = true := decide_eq_true h1
      by_cases h2 : y % 2 = 0
      · have q1 : (y % 2 != 0) = false := by simp [h2]
        have HP2 := hide (show powB x = powB (y / 2) by rw [HP.out, powB_even h1 h2])
        have h2 := hide h2
        go_wp2_with fail
        exact ⟨⟨y / 2, rfl, by omega, HP2, trivial⟩, by simp [intOf]; omega⟩
      · have q1 : (y % 2 != 0) = true := by simp [h2]
        have HP2 := hide (show powB x = false by rw [HP.out, powB_odd h1 h2])
        have h2 := hide h2
        go_wp2_with fail
        rw [HP2.out]
        refine bodyPost_ret (v := .bool false) (by simp [results, Try.results77, go_sem, *]) rfl ⟨rfl, rfl⟩
    · have q0 : decide (1 < y) = false := decide_eq_false h1
      have HP2 := hide (show powB x = (y == 1) by rw [HP.out, powB_one (by omega)])
      go_wp2_with fail
      rw [HP2.out]
      refine bodyPost_ret (v := .bool (y == 1)) (by simp [results, Try.results77, go_sem, *]) rfl ⟨rfl, rfl⟩
end Go.Proofs.Ytnofljgmkdommaa

/- Contract: the reference's buckets of any history. -/
namespace Go.Proofs.Ytnofljgmkdommaa
open Go.RowKit

/-- The first questions. -/
def BT1 (last k : Int) (l : List Bk) (x : Bk) : Prop := isPow x.c ∧ x.c ≤ 1073741824 ∧ 1 ≤ x.f ∧ x.f ≤ x.l ∧ x.l ≤ last ∧ (x.c = 1 → x.f = x.l) ∧ (num l x.c : Int) ≤ k
theorem bt1_of {last k fail : Int} {l : List Bk} {i : Nat} {x : Bk} (h : BT last k fail l i x) : BT1 last k l x := ⟨h.1, h.2.1, h.2.2.1, h.2.2.2.1, h.2.2.2.2.1, h.2.2.2.2.2.1, h.2.2.2.2.2.2.1⟩
set_option maxRecDepth 100000 in
set_option maxHeartbeats 16000000 in
theorem r21buckets_any (w : World) (h : Hist) (A : Option Addr) (n c : Nat) (l : List Bk) (hR : Rs w none 3 Bk.vals A l) (hn : l.length = n) (hn2 : n ≤ 1000000) (hk : 2 ≤ h.k) (hk2 : h.k ≤ 16) (hf0 : 0 ≤ h.fail) (hf1 : h.fail ≤ 1073741824) (hwc : ∀ b ∈ l, b.c ≤ 9223372036854775807) :
    Calls Try.prog 56 #[.agg #[.string h.pk, .string h.ts, .int .i64 h.env, .int .i64 h.k, .int .i64 h.runs, .int .i64 h.fail, .int .i64 h.last, .slice A n c]] w fun e w' => RetB w (ordL h.last l ∧ szP h.k h.fail l) e w' := by
  have HR := hide hR
  have HN := hide hn
  have HWC := hide hwc
  clear hR hn hwc
  go_enter Try.func56, Try.ntmps56
  go_upto_region 1 with (fail)
  generalize hW : World.alloc w _ = v
  have HC := hide (show Cb v w.heap.size (h.cs A n c) by rw [← hW]; exact Cb.mk0 (h.cs A n c) (h.cs_nb A n c) _ rfl)
  have HB := hide (show Below w.heap.size w v by rw [← hW]; exact (Below.refl _ _).alloc (Nat.le_refl _) _)
  clear hW
  obtain ⟨a0, a1, a2, a3, a4, a5, a6, a7⟩ : _ ∧ _ ∧ _ ∧ _ ∧ _ ∧ _ ∧ _ ∧ _ := ⟨HC.out.cell 0 _ rfl, HC.out.cell 1 _ rfl, HC.out.cell 2 _ rfl, HC.out.cell 3 _ rfl, HC.out.cell 4 _ rfl, HC.out.cell 5 _ rfl, HC.out.cell 6 _ rfl, HC.out.cell 7 _ rfl⟩; have az := HC.out.sz
  go_upto_region 3 with (fail)
  clear a0 a1 a2 a3 a4 a5 a6 a7 az
  go_loopw [3, 4] (fun sv iv wr => ∃ (i : Nat) (s : Int), sv = .int .i64 s ∧ iv = .int .i64 (i : Int) ∧ i ≤ n ∧ s ≤ h.fail ∧ Hid (s = sumC (l.take i)) ∧ Hid (Cb wr w.heap.size (h.cs A n c)) ∧ Hid (Below w.heap.size w wr) ∧ Hid (∀ j y, j < i → l[j]? = some y → BT h.last h.k h.fail l j y)) (fun _ iv _ => n - (intOf iv).toNat)
  case atStart => exact ⟨0, 0, rfl, rfl, Nat.zero_le _, hf0, hide rfl, HC, HB, hide (fun j y hj => by omega)⟩
  case round =>
    obtain ⟨i, s, rfl, rfl, hi, hsf, HS, HCr, HBr, HT⟩ := hrel
    clear HC HB
    obtain ⟨a0, a1, a2, a3, a4, a5, a6, a7⟩ : _ ∧ _ ∧ _ ∧ _ ∧ _ ∧ _ ∧ _ ∧ _ := ⟨HCr.out.cell 0 _ rfl, HCr.out.cell 1 _ rfl, HCr.out.cell 2 _ rfl, HCr.out.cell 3 _ rfl, HCr.out.cell 4 _ rfl, HCr.out.cell 5 _ rfl, HCr.out.cell 6 _ rfl, HCr.out.cell 7 _ rfl⟩; have az := HCr.out.sz
    by_cases hin : i = n
    · subst hin
      have HGO := hide (bt_all (last := h.last) (k := h.k) (fail := h.fail) (l := l) (by omega) (fun j y hy => HT.out j y (by have := (List.getElem?_eq_some_iff.1 hy).1; have := HN.out; omega) hy))
      have HS2 := hide (show s = sumC l by have := HS.out; rwa [List.take_of_length_le (by rw [HN.out]; exact Nat.le_refl _)] at this)
      have hkw : IntKind.i64.wrap (h.k - 1) = h.k - 1 := IntWalk.i64_in _ (by omega)
      go_upto_region 14 with (fail)
      clear a0 a1 a2 a3 a4 a5 a6 a7 az
      go_loopw [6] (fun zv wr => ∃ (e : Nat) (z : Int), zv = .int .i64 z ∧ 1 ≤ z ∧ z ≤ 2147483648 ∧ Hid (z = P2 e) ∧ Hid (∀ e', e' < e → P2 e' < hdC l → h.k - 1 ≤ (num l (P2 e') : Int)) ∧ Hid (Cb wr w.heap.size (h.cs A i c)) ∧ Hid (Below w.heap.size w wr)) (fun zv _ => (4294967296 - (intOf zv)).toNat)
      case atStart => exact ⟨0, 1, rfl, by omega, by omega, hide rfl, hide (fun e he => by omega), HCr, HBr⟩
      case round =>
        clear HCr HBr
        obtain ⟨e, z, rfl, hz1, hz2, HZ, HLO, HCr, HBr⟩ := hrel
        obtain ⟨a0, a1, a2, a3, a4, a5, a6, a7⟩ : _ ∧ _ ∧ _ ∧ _ ∧ _ ∧ _ ∧ _ ∧ _ := ⟨HCr.out.cell 0 _ rfl, HCr.out.cell 1 _ rfl, HCr.out.cell 2 _ rfl, HCr.out.cell 3 _ rfl, HCr.out.cell 4 _ rfl, HCr.out.cell 5 _ rfl, HCr.out.cell 6 _ rfl, HCr.out.cell 7 _ rfl⟩; have az := HCr.out.sz
        by_cases hzx : z < hdC l
        · have hi0 : 0 < i := by
            rcases Nat.eq_zero_or_pos i with h0 | h0
            · have hl0 : l = [] := List.length_eq_zero_iff.1 (by rw [HN.out]; exact h0)
              rw [hl0] at hzx
              have : z < 0 := hzx
              omega
            · exact h0
          obtain ⟨x, hx⟩ : ∃ x, l[0]? = some x := ⟨_, List.getElem?_eq_getElem (by have := HN.out; omega)⟩
          have HX := hide hx
          have HHD := hide (show hdC l = x.c by cases l with | nil => simp at hx | cons b t => (simp at hx; subst hx; rfl))
          have hxb := (HGO.out.1.1 x (List.mem_of_getElem? hx)).2
          clear hx
          rw [HHD.out] at hzx
          obtain ⟨g, o, rfl, hg, -, -, e2⟩ := bk_get (HR.out.below HBr.out) HX.out
          simp only [Nat.zero_mul, Nat.add_zero] at e2
          have r0 : decide (0 < (i : Int)) = true := decide_eq_true (by omega)
          have r0n : decide (0 < i) = true := decide_eq_true hi0
          have r1 : decide (z < x.c) = true := decide_eq_true hzx
          obtain ⟨N5, hN5⟩ : ∃ N5 : Nat, num l z = N5 := ⟨_, rfl⟩
          have CN := hide (fun m => (show Calls Try.prog 78 #[.slice (some ⟨g, o, none⟩) i c, .int .i64 z] (wr.drewN m) fun e w' => e = .returned (.int .i64 (N5 : Int)) ∧ w' = wr.drewN m from (r21number_any (wr.drewN m) (some ⟨g, o, none⟩) i c l z (show Rs wr none 3 Bk.vals (some ⟨g, o, none⟩) l from HR.out.below HBr.out) HN.out hn2).mono fun e w' ⟨h1, h2⟩ => ⟨by rw [h1, hN5], h2.symm⟩))
          have HN5 := hide hN5
          clear hN5
          have hzw : IntKind.i64.wrap (z * 2) = z * 2 := IntWalk.i64_in _ (by omega)
          go_upto_region 16 with (fail)
          by_cases hlo : (N5 : Int) < h.k - 1
          · have r2 : decide ((N5 : Int) < h.k - 1) = true := decide_eq_true hlo
            have HLO2 := hide hlo
            go_quiet ((go_at_call 78; refine Calls.quiet_of_same (CN.out _)))
            go_wp2_with fail
            refine bodyPost_ret (v := .bool false) (by simp [results, Try.results56, go_sem, *]) rfl (RetB.no (fun t => by have := t.2.2.1 e (by rw [← HZ.out, HHD.out]; exact hzx); rw [← HZ.out, HN5.out] at this; have := HLO2.out; omega) (HBr.out.trans ((Dr.below ⟨_, rfl⟩ : Below wr.heap.size wr (wr.drewN _)).mono HBr.out.size)))
          · have r2 : decide ((N5 : Int) < h.k - 1) = false := decide_eq_false hlo
            have HLO2 := hide hlo
            go_quiet ((go_at_call 78; refine Calls.quiet_of_same (CN.out _)))
            go_wp2_with fail
            go_roundw
            case rel => exact ⟨e + 1, z * 2, by go_num, by omega, by omega, hide (by rw [P2_succ, ← HZ.out]; omega), hide (fun e' he' hp => by
              rcases Nat.lt_or_eq_of_le (Nat.le_of_lt_succ he') with h1 | h1
              · exact HLO.out e' h1 hp
              · rw [h1, ← HZ.out, HN5.out]
                have := HLO2.out
                omega), hide (HCr.out.below (Dr.below ⟨_, rfl⟩)), hide (HBr.out.trans ((Dr.below ⟨_, rfl⟩ : Below wr.heap.size wr (wr.drewN _)).mono HBr.out.size))⟩
            case measure => simp [intOf]; omega
        · have HP0 := hide (show (ordL h.last l ∧ szP h.k h.fail l) ↔ s = h.fail from ⟨fun t => by rw [HS2.out]; exact t.2.2.2, fun t => ⟨HGO.out.2, HGO.out.1, fun e' he' => HLO.out e' (P2_lt.1 (by rw [← HZ.out]; omega)) he', by rw [← HS2.out]; exact t⟩⟩)
          by_cases h0 : i = 0
          · have r0 : decide (0 < (i : Int)) = false := decide_eq_false (by omega)
            have r0n : decide (0 < i) = false := decide_eq_false (by omega)
            have H0 := hide h0
            clear h0
            by_cases hf : s = h.fail
            · have r2 : (s == h.fail) = true := by simp [hf]
              have HF := hide hf
              clear hf
              go_wp2_with fail
              refine bodyPost_ret (v := .bool true) (by simp [results, Try.results56, go_sem, *]) rfl (RetB.yes (HP0.out.2 HF.out) HBr.out)
            · have r2 : (s == h.fail) = false := by simp [hf]
              have HF := hide hf
              clear hf
              go_wp2_with fail
              refine bodyPost_ret (v := .bool false) (by simp [results, Try.results56, go_sem, *]) rfl (RetB.no (fun t => HF.out (HP0.out.1 t)) HBr.out)
          · have r0 : decide (0 < (i : Int)) = true := decide_eq_true (by omega)
            have r0n : decide (0 < i) = true := decide_eq_true (by omega)
            have hi0 : 0 < i := by omega
            obtain ⟨x, hx⟩ : ∃ x, l[0]? = some x := ⟨_, List.getElem?_eq_getElem (by have := HN.out; omega)⟩
            have HHD := hide (show hdC l = x.c by cases l with | nil => simp at hx | cons b t => (simp at hx; subst hx; rfl))
            obtain ⟨g, o, rfl, hg, -, -, e2⟩ := bk_get (HR.out.below HBr.out) hx
            simp only [Nat.zero_mul, Nat.add_zero] at e2
            rw [HHD.out] at hzx
            have r1 : decide (z < x.c) = false := decide_eq_false hzx
            clear hx
            by_cases hf : s = h.fail
            · have r2 : (s == h.fail) = true := by simp [hf]
              have HF := hide hf
              clear hf
              go_wp2_with fail
              refine bodyPost_ret (v := .bool true) (by simp [results, Try.results56, go_sem, *]) rfl (RetB.yes (HP0.out.2 HF.out) HBr.out)
            · have r2 : (s == h.fail) = false := by simp [hf]
              have HF := hide hf
              clear hf
              go_wp2_with fail
              refine bodyPost_ret (v := .bool false) (by simp [results, Try.results56, go_sem, *]) rfl (RetB.no (fun t => HF.out (HP0.out.1 t)) HBr.out)
    · have hi2 : i < n := by omega
      obtain ⟨x, hx⟩ : ∃ x, l[i]? = some x := ⟨_, List.getElem?_eq_getElem (by have := HN.out; omega)⟩
      obtain ⟨g, o, rfl, hg, e0, e1, e2⟩ := bk_get (HR.out.below HBr.out) hx
      have HX := hide hx
      have HXC := hide (HWC.out x (List.mem_of_getElem? hx))
      clear hx
      have hi3 : (i : Int) < (n : Int) := by omega
      have hi0 : (0 : Int) ≤ (i : Int) := by omega
      have hiw : IntKind.i64.wrap ((i : Int) + 1) = (i : Int) + 1 := IntWalk.i64_in _ (by omega)
      go_upto_region 6 with (fail)
      generalize hW : World.alloc wr _ = v3
      have HX3 := hide (show Cb v3 wr.heap.size x.vals by rw [← hW]; exact Cb.mk0 x.vals (by simp [Bk.vals]) _ rfl)
      have HC3 := hide (show Cb v3 w.heap.size (h.cs (some ⟨g, o, none⟩) n c) by rw [← hW]; exact HCr.out.alloc _)
      have HB3 := hide (show Below w.heap.size w v3 by rw [← hW]; exact HBr.out.alloc HBr.out.size _)
      have HR3 := hide (show Rs v3 none 3 Bk.vals (some ⟨g, o, none⟩) l from HR.out.below HB3.out)
      obtain ⟨X, hX⟩ : ∃ X, X = wr.heap.size := ⟨_, rfl⟩
      rw [← hX] at HX3 ⊢
      clear hW hX e0 e1 e2 hg
      clear a0 a1 a2 a3 a4 a5 a6 a7 az
      obtain ⟨a0, a1, a2, a3, a4, a5, a6, a7⟩ : _ ∧ _ ∧ _ ∧ _ ∧ _ ∧ _ ∧ _ ∧ _ := ⟨HC3.out.cell 0 _ rfl, HC3.out.cell 1 _ rfl, HC3.out.cell 2 _ rfl, HC3.out.cell 3 _ rfl, HC3.out.cell 4 _ rfl, HC3.out.cell 5 _ rfl, HC3.out.cell 6 _ rfl, HC3.out.cell 7 _ rfl⟩; have az := HC3.out.sz
      have x0 := HX3.out.cell 0 _ rfl
      have x1 := HX3.out.cell 1 _ rfl
      have x2 := HX3.out.cell 2 _ rfl
      obtain ⟨pb, hpb⟩ : ∃ pb, powB x.c = pb := ⟨_, rfl⟩
      obtain ⟨N5, hN5⟩ : ∃ N5 : Nat, num l x.c = N5 := ⟨_, rfl⟩
      have CP := hide (fun m => (show Calls Try.prog 77 #[.int .i64 x.c] (v3.drewN m) fun e w' => e = .returned (.bool pb) ∧ w' = v3.drewN m from (r21power_any _ x.c HXC.out).mono fun e w' ⟨h1, h2⟩ => ⟨by rw [h1, hpb], h2.symm⟩))
      have CN := hide (fun m => (show Calls Try.prog 78 #[.slice (some ⟨g, o, none⟩) n c, .int .i64 x.c] (v3.drewN m) fun e w' => e = .returned (.int .i64 (N5 : Int)) ∧ w' = v3.drewN m from (r21number_any (v3.drewN m) (some ⟨g, o, none⟩) n c l x.c (show Rs v3 none 3 Bk.vals (some ⟨g, o, none⟩) l from HR3.out) HN.out hn2).mono fun e w' ⟨h1, h2⟩ => ⟨by rw [h1, hN5], h2.symm⟩))
      have HN5 := hide hN5
      have HPB := hide hpb
      clear hN5 hpb
      go_cut [68] from 19 to 68 (fun s68 wx => ∃ z, s68 = .bool z ∧ Hid (∃ d, wx = v3.drewN d) ∧ Hid (z = true ↔ ¬ BT1 h.last h.k l x))
      case first =>
        cases pb with
        | false =>
          go_quiet (first | (go_at_call 77; refine Calls.quiet_of_same (CP.out _)) | (go_at_call 78; refine Calls.quiet_of_same (CN.out _)))
          go_wp2_with fail
          go_meet
          case rel => exact ⟨true, rfl, hide ⟨_, rfl⟩, hide ⟨fun _ t => by (have := powB_iff.2 t.1; rw [HPB.out] at this; exact absurd this (by simp)), fun _ => rfl⟩⟩
        | true =>
          by_cases c2 : 1073741824 < x.c
          · have q2 : decide (1073741824 < x.c) = true := decide_eq_true c2
            go_quiet (first | (go_at_call 77; refine Calls.quiet_of_same (CP.out _)) | (go_at_call 78; refine Calls.quiet_of_same (CN.out _)))
            go_wp2_with fail
            go_meet
            case rel => exact ⟨true, rfl, hide ⟨_, rfl⟩, hide ⟨fun _ t => by have := t.2.1; omega, fun _ => rfl⟩⟩
          · have q2 : decide (1073741824 < x.c) = false := decide_eq_false c2
            by_cases c3 : x.f < 1
            · have q3 : decide (x.f < 1) = true := decide_eq_true c3
              go_quiet (first | (go_at_call 77; refine Calls.quiet_of_same (CP.out _)) | (go_at_call 78; refine Calls.quiet_of_same (CN.out _)))
              go_wp2_with fail
              go_meet
              case rel => exact ⟨true, rfl, hide ⟨_, rfl⟩, hide ⟨fun _ t => by have := t.2.2.1; omega, fun _ => rfl⟩⟩
            · have q3 : decide (x.f < 1) = false := decide_eq_false c3
              by_cases c4 : x.l < x.f
              · have q4 : decide (x.l < x.f) = true := decide_eq_true c4
                go_quiet (first | (go_at_call 77; refine Calls.quiet_of_same (CP.out _)) | (go_at_call 78; refine Calls.quiet_of_same (CN.out _)))
                go_wp2_with fail
                go_meet
                case rel => exact ⟨true, rfl, hide ⟨_, rfl⟩, hide ⟨fun _ t => by have := t.2.2.2.1; omega, fun _ => rfl⟩⟩
              · have q4 : decide (x.l < x.f) = false := decide_eq_false c4
                by_cases c5 : h.last < x.l
                · have q5 : decide (h.last < x.l) = true := decide_eq_true c5
                  go_quiet (first | (go_at_call 77; refine Calls.quiet_of_same (CP.out _)) | (go_at_call 78; refine Calls.quiet_of_same (CN.out _)))
                  go_wp2_with fail
                  go_meet
                  case rel => exact ⟨true, rfl, hide ⟨_, rfl⟩, hide ⟨fun _ t => by have := t.2.2.2.2.1; omega, fun _ => rfl⟩⟩
                · have q5 : decide (h.last < x.l) = false := decide_eq_false c5
                  by_cases c6 : x.c = 1 ∧ x.f ≠ x.l
                  · have q6 : (x.c == 1) = true := by simp [c6.1]
                    have q7 : (x.f != x.l) = true := by simp [c6.2]
                    have C6 := hide c6
                    clear c6
                    go_quiet (first | (go_at_call 77; refine Calls.quiet_of_same (CP.out _)) | (go_at_call 78; refine Calls.quiet_of_same (CN.out _)))
                    go_wp2_with fail
                    go_meet
                    case rel => exact ⟨true, rfl, hide ⟨_, rfl⟩, hide ⟨fun _ t => C6.out.2 (t.2.2.2.2.2.1 C6.out.1), fun _ => rfl⟩⟩
                  · have HT1 := hide (show (N5 : Int) ≤ h.k → BT1 h.last h.k l x from fun t => ⟨powB_iff.1 HPB.out, by omega, by omega, by omega, by omega, fun a => Classical.byContradiction fun b => c6 ⟨a, b⟩, by rw [HN5.out]; exact t⟩)
                    by_cases c7 : x.c = 1
                    · have q6 : (x.c == 1) = true := by simp [c7]
                      have q7 : (x.f != x.l) = false := by simp; exact Classical.byContradiction fun b => c6 ⟨c7, b⟩
                      have C6 := hide c6
                      have C7 := hide c7
                      clear c6 c7
                      by_cases c8 : h.k < (N5 : Int)
                      · have q8 : decide (h.k < (N5 : Int)) = true := decide_eq_true c8
                        go_quiet (first | (go_at_call 77; refine Calls.quiet_of_same (CP.out _)) | (go_at_call 78; refine Calls.quiet_of_same (CN.out _)))
                        go_wp2_with fail
                        go_meet
                        case rel => exact ⟨true, rfl, hide ⟨_, rfl⟩, hide ⟨fun _ t => by have := t.2.2.2.2.2.2; rw [HN5.out] at this; omega, fun _ => rfl⟩⟩
                      · have q8 : decide (h.k < (N5 : Int)) = false := decide_eq_false c8
                        go_quiet (first | (go_at_call 77; refine Calls.quiet_of_same (CP.out _)) | (go_at_call 78; refine Calls.quiet_of_same (CN.out _)))
                        go_wp2_with fail
                        go_meet
                        case rel => exact ⟨false, rfl, hide ⟨_, rfl⟩, hide ⟨fun e => (by cases e), fun t => absurd (HT1.out (by omega)) t⟩⟩
                    · have q6 : (x.c == 1) = false := by simp [c7]
                      have C6 := hide c6
                      have C7 := hide c7
                      clear c6 c7
                      by_cases c8 : h.k < (N5 : Int)
                      · have q8 : decide (h.k < (N5 : Int)) = true := decide_eq_true c8
                        go_quiet (first | (go_at_call 77; refine Calls.quiet_of_same (CP.out _)) | (go_at_call 78; refine Calls.quiet_of_same (CN.out _)))
                        go_wp2_with fail
                        go_meet
                        case rel => exact ⟨true, rfl, hide ⟨_, rfl⟩, hide ⟨fun _ t => by have := t.2.2.2.2.2.2; rw [HN5.out] at this; omega, fun _ => rfl⟩⟩
                      · have q8 : decide (h.k < (N5 : Int)) = false := decide_eq_false c8
                        go_quiet (first | (go_at_call 77; refine Calls.quiet_of_same (CP.out _)) | (go_at_call 78; refine Calls.quiet_of_same (CN.out _)))
                        go_wp2_with fail
                        go_meet
                        case rel => exact ⟨false, rfl, hide ⟨_, rfl⟩, hide ⟨fun e => (by cases e), fun t => absurd (HT1.out (by omega)) t⟩⟩
      case rest =>
        obtain ⟨z, rfl, HW, HZ⟩ := hcut
        obtain ⟨v5, hv5⟩ : ∃ v, v = wc := ⟨_, rfl⟩
        subst hv5
        have HBX := hide (show Below v3.heap.size v3 v5 by obtain ⟨d, hd⟩ := HW.out; rw [hd]; exact Dr.below ⟨d, rfl⟩)
        have HC4 := hide (HC3.out.below HBX.out)
        have HX4 := hide (HX3.out.below HBX.out)
        have HB4 := hide (HB3.out.trans (HBX.out.mono HB3.out.size))
        clear x0 x1 x2 CP CN HN5 HPB
        clear a0 a1 a2 a3 a4 a5 a6 a7 az
        clear HW HC3 HX3 HCr HBr HB3 HR3
        cases z with
        | true =>
          go_wp2_with fail
          refine bodyPost_ret (v := .bool false) (by simp [results, Try.results56, go_sem, *]) rfl (RetB.no (fun t => HZ.out.1 (by simp) (bt1_of (bt_of t.1 t.2 HX.out))) HB4.out)
        | false =>
          have HT1 := hide (show BT1 h.last h.k l x from Classical.byContradiction fun t => absurd (HZ.out.2 t) (by simp))
          obtain ⟨t1, t2⟩ : 1 ≤ x.c ∧ x.c ≤ 1073741824 := ⟨HT1.out.1.pos, HT1.out.2.1⟩
          have hs0 : 0 ≤ s := by
            rw [HS.out]
            refine sumC_pos fun y hy => ?_
            obtain ⟨j, hj⟩ := List.getElem?_of_mem hy
            rw [List.getElem?_take] at hj
            split at hj
            · exact (HT.out j y (by assumption) hj).1
            · cases hj
          have hsw : IntKind.i64.wrap (s + x.c) = s + x.c := IntWalk.i64_in _ (by omega)
          have HS1 := hide (show s + x.c = sumC (l.take (i + 1)) by rw [sumC_snoc HX.out, HS.out])
          obtain ⟨a0, a1, a2, a3, a4, a5, a6, a7⟩ : _ ∧ _ ∧ _ ∧ _ ∧ _ ∧ _ ∧ _ ∧ _ := ⟨HC4.out.cell 0 _ rfl, HC4.out.cell 1 _ rfl, HC4.out.cell 2 _ rfl, HC4.out.cell 3 _ rfl, HC4.out.cell 4 _ rfl, HC4.out.cell 5 _ rfl, HC4.out.cell 6 _ rfl, HC4.out.cell 7 _ rfl⟩; have az := HC4.out.sz
          have x0 := HX4.out.cell 0 _ rfl
          have x2 := HX4.out.cell 2 _ rfl
          clear hs0 t1 t2
          by_cases c1 : h.fail < s + x.c
          · have q1 : decide (h.fail < s + x.c) = true := decide_eq_true c1
            have C1 := hide c1
            go_wp2_with fail
            refine bodyPost_ret (v := .bool false) (by simp [results, Try.results56, go_sem, *]) rfl (RetB.no (fun t => by have := (bt_of t.1 t.2 HX.out).2.2.2.2.2.2.2.1; rw [← HS1.out] at this; have := C1.out; omega) HB4.out)
          · have q1 : decide (h.fail < s + x.c) = false := decide_eq_false c1
            have C1 := hide (show s + x.c ≤ h.fail by omega)
            go_upto_region 11 with (fail)
            go_cut [102] from 77 to 102 (fun s102 wx => ∃ z, s102 = .bool z ∧ Hid (∃ d, wx = v5.drewN d) ∧ Hid (z = true ↔ ¬ ∀ y, 0 < i → l[i - 1]? = some y → x.c ≤ y.c ∧ y.l ≤ x.f))
            case first =>
              by_cases c4 : i = 0
              · have q4 : decide (0 < (i : Int)) = false := decide_eq_false (by omega)
                have q4n : decide (0 < i) = false := decide_eq_false (by omega)
                have C4 := hide c4
                clear c4
                go_quiet (fail)
                go_wp2_with fail
                go_meet
                case rel => exact ⟨false, rfl, hide ⟨_, rfl⟩, hide ⟨fun e => (by cases e), fun t => absurd (fun y hy => by have := C4.out; omega) t⟩⟩
              · have q4 : decide (0 < (i : Int)) = true := decide_eq_true (by omega)
                have q4n : decide (0 < i) = true := decide_eq_true (by omega)
                have q4m : 0 < i := by omega
                obtain ⟨p, hp⟩ : ∃ p, i = p + 1 := ⟨i - 1, by omega⟩
                obtain ⟨y, hy⟩ : ∃ y, l[p]? = some y := ⟨_, List.getElem?_eq_getElem (by have := HN.out; omega)⟩
                obtain ⟨g', o', hA, hg, -, f1, f2⟩ := bk_get (HR.out.below HB4.out) hy
                injection hA with hA
                injection hA with h1 h2
                subst h1 h2
                have hpw : IntKind.i64.wrap ((i : Int) - 1) = (p : Int) := by rw [IntWalk.i64_in _ (by omega)]; omega
                have hp0 : (0 : Int) ≤ (p : Int) := by omega
                have hp1 : (p : Int) < (n : Int) := by omega
                have hp2 : p < n := by omega
                have HP := hide hp
                have HY := hide hy
                have HY2 := hide (show l[i - 1]? = some y by rw [show i - 1 = p by omega]; exact hy)
                clear hp hy
                by_cases c6 : y.c < x.c
                · have q7 : decide (y.c < x.c) = true := decide_eq_true c6
                  go_quiet (fail)
                  go_wp2_with fail
                  go_meet
                  case rel => exact ⟨true, rfl, hide ⟨_, rfl⟩, hide ⟨fun _ t => by have := (t y (by omega) HY2.out).1; omega, fun _ => rfl⟩⟩
                · have q7 : decide (y.c < x.c) = false := decide_eq_false c6
                  by_cases c7 : x.f < y.l
                  · have q8 : decide (x.f < y.l) = true := decide_eq_true c7
                    go_quiet (fail)
                    go_wp2_with fail
                    go_meet
                    case rel => exact ⟨true, rfl, hide ⟨_, rfl⟩, hide ⟨fun _ t => by have := (t y (by omega) HY2.out).2; omega, fun _ => rfl⟩⟩
                  · have q8 : decide (x.f < y.l) = false := decide_eq_false c7
                    go_quiet (fail)
                    go_wp2_with fail
                    go_meet
                    case rel => exact ⟨false, rfl, hide ⟨_, rfl⟩, hide ⟨fun e => (by cases e), fun t => absurd (fun z _ hz => by rw [HY2.out] at hz; injection hz with hz; subst hz; omega) t⟩⟩
            case rest =>
              obtain ⟨z, rfl, HW, HZ2⟩ := hcut
              have HBX2 := hide (show Below v5.heap.size v5 wc by obtain ⟨d, hd⟩ := HW.out; rw [hd]; exact Dr.below ⟨d, rfl⟩)
              have HC5 := hide (HC4.out.below HBX2.out)
              have HB5 := hide (HB4.out.trans (HBX2.out.mono HB4.out.size))
              clear x0 x2
              clear a0 a1 a2 a3 a4 a5 a6 a7 az
              cases z with
              | true =>
                go_wp2_with fail
                refine bodyPost_ret (v := .bool false) (by simp [results, Try.results56, go_sem, *]) rfl (RetB.no (fun t => HZ2.out.1 (by simp) (bt_of t.1 t.2 HX.out).2.2.2.2.2.2.2.2) HB5.out)
              | false =>
                have HT2 := hide (show BT h.last h.k h.fail l i x from by
                  have h2 := Classical.byContradiction fun t => absurd (HZ2.out.2 t) (by simp)
                  obtain ⟨u1, u2, u3, u4, u5, u6, u7⟩ := HT1.out
                  exact ⟨u1, u2, u3, u4, u5, u6, u7, by rw [← HS1.out]; exact C1.out, h2⟩)
                have hle := C1.out
                go_wp2_with fail
                go_roundw
                case rel => exact ⟨i + 1, s + x.c, by go_num, by go_num, by omega, hle, HS1, HC5, HB5, hide (fun j y hj hy => by
                  rcases Nat.lt_or_eq_of_le (Nat.le_of_lt_succ hj) with h1 | h1
                  · exact HT.out j y h1 hy
                  · rw [h1, HX.out] at hy
                    injection hy with hy
                    rw [h1, ← hy]
                    exact HT2.out)⟩
                case measure => simp [intOf]; omega
end Go.Proofs.Ytnofljgmkdommaa

/- Contracts: the reference's Check; Estimate of any history, both. -/
namespace Go.Proofs.Ytnofljgmkdommaa
open Go.RowKit

set_option maxRecDepth 100000 in
set_option maxHeartbeats 16000000 in
theorem r21check_any (w : World) (h : Hist) (A : Option Addr) (n c : Nat) (l : List Bk) (hR : Rs w none 3 Bk.vals A l) (hn : l.length = n) (hn2 : n ≤ 600) (hwc : ∀ b ∈ l, b.c ≤ 9223372036854775807) :
    Calls Try.prog 32 #[.agg #[.string h.pk, .string h.ts, .int .i64 h.env, .int .i64 h.k, .int .i64 h.runs, .int .i64 h.fail, .int .i64 h.last, .slice A n c]] w fun e w' => RetB w (HP h l) e w' := by
  have HR := hide hR
  have HN := hide hn
  have HWC := hide hwc
  clear hR hn hwc
  obtain ⟨us, hus⟩ : ∃ us, usableB h.pk h.ts = us := ⟨_, rfl⟩
  have HUS := hide hus
  clear hus
  obtain ⟨pl, hpl⟩ : ∃ pl, placeB h.env = pl := ⟨_, rfl⟩
  have HPL := hide hpl
  have HPI := hide (show pl = true ↔ 0 ≤ h.env ∧ h.env ≤ 63 by rw [← hpl]; simp [placeB])
  clear hpl
  have r0 : decide (640 < (n : Int)) = false := decide_eq_false (by omega)
  have r1 : decide (640 < n) = false := decide_eq_false (by omega)
  cases us with
  | false =>
    go_enter Try.func32, Try.ntmps32
    go_upto_region 1 with (fail)
    generalize hW : World.alloc w _ = v
    have HC := hide (show Cb v w.heap.size (h.cs A n c) by rw [← hW]; exact Cb.mk0 (h.cs A n c) (h.cs_nb A n c) _ rfl)
    have HB := hide (show Below w.heap.size w v by rw [← hW]; exact (Below.refl _ _).alloc (Nat.le_refl _) _)
    clear hW
    obtain ⟨a0, a1, a2, a3, a4, a5, a6, a7⟩ : _ ∧ _ ∧ _ ∧ _ ∧ _ ∧ _ ∧ _ ∧ _ := ⟨HC.out.cell 0 _ rfl, HC.out.cell 1 _ rfl, HC.out.cell 2 _ rfl, HC.out.cell 3 _ rfl, HC.out.cell 4 _ rfl, HC.out.cell 5 _ rfl, HC.out.cell 6 _ rfl, HC.out.cell 7 _ rfl⟩; have az := HC.out.sz
    go_wp2_with (first
      | (go_at_call 54; (with_reducible refine (usabler_any h.pk h.ts _).mono ?_); rintro e w1 ⟨rfl, hb⟩; rw [HUS.out]; have HC1 := hide (HC.out.below hb); have HB1 := hide (HB.out.trans (hb.mono HB.out.size)); clear a0 a1 a2 a3 a4 a5 a6 a7 az; obtain ⟨a0, a1, a2, a3, a4, a5, a6, a7⟩ : _ ∧ _ ∧ _ ∧ _ ∧ _ ∧ _ ∧ _ ∧ _ := ⟨HC1.out.cell 0 _ rfl, HC1.out.cell 1 _ rfl, HC1.out.cell 2 _ rfl, HC1.out.cell 3 _ rfl, HC1.out.cell 4 _ rfl, HC1.out.cell 5 _ rfl, HC1.out.cell 6 _ rfl, HC1.out.cell 7 _ rfl⟩; have az := HC1.out.sz; clear hb)
      | (go_at_call 55; (with_reducible refine (place_any h.env _).mono ?_); rintro e w2 ⟨rfl, hw⟩; subst hw; rw [HPL.out])
      | (go_at_call 56; (with_reducible refine (r21buckets_any _ h A n c l (HR.out.below HB1.out) HN.out (by omega) (by omega) (by omega) (by omega) (by omega) HWC.out).mono ?_); rintro e w3 ⟨b, rfl, hq, hb⟩; have HQ := hide hq; have HB3 := hide (HB1.out.trans (hb.mono HB1.out.size)); clear hq hb))
    refine bodyPost_ret (v := .bool false) (by simp [results, Try.results32, go_sem, *]) rfl (RetB.no (fun t => (by have := t.us; rw [HUS.out] at this; exact absurd this (by simp))) HB1.out)
  | true =>
    cases pl with
    | false =>
      go_enter Try.func32, Try.ntmps32
      go_upto_region 1 with (fail)
      generalize hW : World.alloc w _ = v
      have HC := hide (show Cb v w.heap.size (h.cs A n c) by rw [← hW]; exact Cb.mk0 (h.cs A n c) (h.cs_nb A n c) _ rfl)
      have HB := hide (show Below w.heap.size w v by rw [← hW]; exact (Below.refl _ _).alloc (Nat.le_refl _) _)
      clear hW
      obtain ⟨a0, a1, a2, a3, a4, a5, a6, a7⟩ : _ ∧ _ ∧ _ ∧ _ ∧ _ ∧ _ ∧ _ ∧ _ := ⟨HC.out.cell 0 _ rfl, HC.out.cell 1 _ rfl, HC.out.cell 2 _ rfl, HC.out.cell 3 _ rfl, HC.out.cell 4 _ rfl, HC.out.cell 5 _ rfl, HC.out.cell 6 _ rfl, HC.out.cell 7 _ rfl⟩; have az := HC.out.sz
      go_wp2_with (first
        | (go_at_call 54; (with_reducible refine (usabler_any h.pk h.ts _).mono ?_); rintro e w1 ⟨rfl, hb⟩; rw [HUS.out]; have HC1 := hide (HC.out.below hb); have HB1 := hide (HB.out.trans (hb.mono HB.out.size)); clear a0 a1 a2 a3 a4 a5 a6 a7 az; obtain ⟨a0, a1, a2, a3, a4, a5, a6, a7⟩ : _ ∧ _ ∧ _ ∧ _ ∧ _ ∧ _ ∧ _ ∧ _ := ⟨HC1.out.cell 0 _ rfl, HC1.out.cell 1 _ rfl, HC1.out.cell 2 _ rfl, HC1.out.cell 3 _ rfl, HC1.out.cell 4 _ rfl, HC1.out.cell 5 _ rfl, HC1.out.cell 6 _ rfl, HC1.out.cell 7 _ rfl⟩; have az := HC1.out.sz; clear hb)
        | (go_at_call 55; (with_reducible refine (place_any h.env _).mono ?_); rintro e w2 ⟨rfl, hw⟩; subst hw; rw [HPL.out])
        | (go_at_call 56; (with_reducible refine (r21buckets_any _ h A n c l (HR.out.below HB1.out) HN.out (by omega) (by omega) (by omega) (by omega) (by omega) HWC.out).mono ?_); rintro e w3 ⟨b, rfl, hq, hb⟩; have HQ := hide hq; have HB3 := hide (HB1.out.trans (hb.mono HB1.out.size)); clear hq hb))
      refine bodyPost_ret (v := .bool false) (by simp [results, Try.results32, go_sem, *]) rfl (RetB.no (fun t => (by have := HPI.out.2 ⟨t.e0, t.e1⟩; exact absurd this (by simp))) HB1.out)
    | true =>
      have HE := hide (HPI.out.1 (by simp))
      by_cases hr0 : h.runs = 0
      · have q1 : (h.runs == 0) = true := by simp [hr0]
        have HR0 := hide hr0
        clear hr0
        by_cases hl0 : h.last = 0
        · have q2 : (h.last != 0) = false := by simp [hl0]
          have HL0 := hide hl0
          clear hl0
          go_enter Try.func32, Try.ntmps32
          go_upto_region 1 with (fail)
          generalize hW : World.alloc w _ = v
          have HC := hide (show Cb v w.heap.size (h.cs A n c) by rw [← hW]; exact Cb.mk0 (h.cs A n c) (h.cs_nb A n c) _ rfl)
          have HB := hide (show Below w.heap.size w v by rw [← hW]; exact (Below.refl _ _).alloc (Nat.le_refl _) _)
          clear hW
          obtain ⟨a0, a1, a2, a3, a4, a5, a6, a7⟩ : _ ∧ _ ∧ _ ∧ _ ∧ _ ∧ _ ∧ _ ∧ _ := ⟨HC.out.cell 0 _ rfl, HC.out.cell 1 _ rfl, HC.out.cell 2 _ rfl, HC.out.cell 3 _ rfl, HC.out.cell 4 _ rfl, HC.out.cell 5 _ rfl, HC.out.cell 6 _ rfl, HC.out.cell 7 _ rfl⟩; have az := HC.out.sz
          go_wp2_with (first
            | (go_at_call 54; (with_reducible refine (usabler_any h.pk h.ts _).mono ?_); rintro e w1 ⟨rfl, hb⟩; rw [HUS.out]; have HC1 := hide (HC.out.below hb); have HB1 := hide (HB.out.trans (hb.mono HB.out.size)); clear a0 a1 a2 a3 a4 a5 a6 a7 az; obtain ⟨a0, a1, a2, a3, a4, a5, a6, a7⟩ : _ ∧ _ ∧ _ ∧ _ ∧ _ ∧ _ ∧ _ ∧ _ := ⟨HC1.out.cell 0 _ rfl, HC1.out.cell 1 _ rfl, HC1.out.cell 2 _ rfl, HC1.out.cell 3 _ rfl, HC1.out.cell 4 _ rfl, HC1.out.cell 5 _ rfl, HC1.out.cell 6 _ rfl, HC1.out.cell 7 _ rfl⟩; have az := HC1.out.sz; clear hb)
            | (go_at_call 55; (with_reducible refine (place_any h.env _).mono ?_); rintro e w2 ⟨rfl, hw⟩; subst hw; rw [HPL.out])
            | (go_at_call 56; (with_reducible refine (r21buckets_any _ h A n c l (HR.out.below HB1.out) HN.out (by omega) (by omega) (by omega) (by omega) (by omega) HWC.out).mono ?_); rintro e w3 ⟨b, rfl, hq, hb⟩; have HQ := hide hq; have HB3 := hide (HB1.out.trans (hb.mono HB1.out.size)); clear hq hb))
          all_goals first
            | (refine bodyPost_ret (v := .bool b) (by simp [results, Try.results32, go_sem, *]) rfl ⟨b, rfl, ⟨fun e => ⟨HUS.out, HE.out.1, HE.out.2, by omega, by omega, by omega, by omega, by omega, by (have := HR0.out; omega), by (have := HR0.out; omega), by (have := HR0.out; omega), (HQ.out.1 e).1, (HQ.out.1 e).2⟩, fun t => HQ.out.2 ⟨t.ord, t.sz⟩⟩, HB3.out⟩)
            | (refine bodyPost_ret (v := .bool b) (by simp [results, Try.results32, go_sem, *]) rfl ⟨b, rfl, ⟨fun e => ⟨HUS.out, HE.out.1, HE.out.2, by omega, by omega, by omega, by omega, by omega, by (have := HR0.out; have := HL0.out; omega), by (have := HR0.out; have := HL0.out; omega), by (have := HR0.out; have := HL0.out; omega), (HQ.out.1 e).1, (HQ.out.1 e).2⟩, fun t => HQ.out.2 ⟨t.ord, t.sz⟩⟩, HB3.out⟩)
            | (refine bodyPost_ret (v := .bool false) (by simp [results, Try.results32, go_sem, *]) rfl (RetB.no (fun t => (by have := t.k0; have := t.k1; have := t.f0; have := t.fr; have := t.rm; have := t.l0; have := t.lm; have := t.lz; have := HR0.out; omega)) HB1.out))
            | (refine bodyPost_ret (v := .bool false) (by simp [results, Try.results32, go_sem, *]) rfl (RetB.no (fun t => (by have := t.lz; have := HR0.out; have := HL0.out; omega)) HB1.out))
        · have q2 : (h.last != 0) = true := by simp [hl0]
          have HL0 := hide hl0
          clear hl0
          go_enter Try.func32, Try.ntmps32
          go_upto_region 1 with (fail)
          generalize hW : World.alloc w _ = v
          have HC := hide (show Cb v w.heap.size (h.cs A n c) by rw [← hW]; exact Cb.mk0 (h.cs A n c) (h.cs_nb A n c) _ rfl)
          have HB := hide (show Below w.heap.size w v by rw [← hW]; exact (Below.refl _ _).alloc (Nat.le_refl _) _)
          clear hW
          obtain ⟨a0, a1, a2, a3, a4, a5, a6, a7⟩ : _ ∧ _ ∧ _ ∧ _ ∧ _ ∧ _ ∧ _ ∧ _ := ⟨HC.out.cell 0 _ rfl, HC.out.cell 1 _ rfl, HC.out.cell 2 _ rfl, HC.out.cell 3 _ rfl, HC.out.cell 4 _ rfl, HC.out.cell 5 _ rfl, HC.out.cell 6 _ rfl, HC.out.cell 7 _ rfl⟩; have az := HC.out.sz
          go_wp2_with (first
            | (go_at_call 54; (with_reducible refine (usabler_any h.pk h.ts _).mono ?_); rintro e w1 ⟨rfl, hb⟩; rw [HUS.out]; have HC1 := hide (HC.out.below hb); have HB1 := hide (HB.out.trans (hb.mono HB.out.size)); clear a0 a1 a2 a3 a4 a5 a6 a7 az; obtain ⟨a0, a1, a2, a3, a4, a5, a6, a7⟩ : _ ∧ _ ∧ _ ∧ _ ∧ _ ∧ _ ∧ _ ∧ _ := ⟨HC1.out.cell 0 _ rfl, HC1.out.cell 1 _ rfl, HC1.out.cell 2 _ rfl, HC1.out.cell 3 _ rfl, HC1.out.cell 4 _ rfl, HC1.out.cell 5 _ rfl, HC1.out.cell 6 _ rfl, HC1.out.cell 7 _ rfl⟩; have az := HC1.out.sz; clear hb)
            | (go_at_call 55; (with_reducible refine (place_any h.env _).mono ?_); rintro e w2 ⟨rfl, hw⟩; subst hw; rw [HPL.out])
            | (go_at_call 56; (with_reducible refine (r21buckets_any _ h A n c l (HR.out.below HB1.out) HN.out (by omega) (by omega) (by omega) (by omega) (by omega) HWC.out).mono ?_); rintro e w3 ⟨b, rfl, hq, hb⟩; have HQ := hide hq; have HB3 := hide (HB1.out.trans (hb.mono HB1.out.size)); clear hq hb))
          all_goals first
            | (refine bodyPost_ret (v := .bool b) (by simp [results, Try.results32, go_sem, *]) rfl ⟨b, rfl, ⟨fun e => ⟨HUS.out, HE.out.1, HE.out.2, by omega, by omega, by omega, by omega, by omega, by (have := HR0.out; omega), by (have := HR0.out; omega), by (have := HR0.out; omega), (HQ.out.1 e).1, (HQ.out.1 e).2⟩, fun t => HQ.out.2 ⟨t.ord, t.sz⟩⟩, HB3.out⟩)
            | (refine bodyPost_ret (v := .bool b) (by simp [results, Try.results32, go_sem, *]) rfl ⟨b, rfl, ⟨fun e => ⟨HUS.out, HE.out.1, HE.out.2, by omega, by omega, by omega, by omega, by omega, by (have := HR0.out; have := HL0.out; omega), by (have := HR0.out; have := HL0.out; omega), by (have := HR0.out; have := HL0.out; omega), (HQ.out.1 e).1, (HQ.out.1 e).2⟩, fun t => HQ.out.2 ⟨t.ord, t.sz⟩⟩, HB3.out⟩)
            | (refine bodyPost_ret (v := .bool false) (by simp [results, Try.results32, go_sem, *]) rfl (RetB.no (fun t => (by have := t.k0; have := t.k1; have := t.f0; have := t.fr; have := t.rm; have := t.l0; have := t.lm; have := t.lz; have := HR0.out; omega)) HB1.out))
            | (refine bodyPost_ret (v := .bool false) (by simp [results, Try.results32, go_sem, *]) rfl (RetB.no (fun t => (by have := t.lz; have := HR0.out; have := HL0.out; omega)) HB1.out))
      · have q1 : (h.runs == 0) = false := by simp [hr0]
        have HR0 := hide hr0
        clear hr0
        go_enter Try.func32, Try.ntmps32
        go_upto_region 1 with (fail)
        generalize hW : World.alloc w _ = v
        have HC := hide (show Cb v w.heap.size (h.cs A n c) by rw [← hW]; exact Cb.mk0 (h.cs A n c) (h.cs_nb A n c) _ rfl)
        have HB := hide (show Below w.heap.size w v by rw [← hW]; exact (Below.refl _ _).alloc (Nat.le_refl _) _)
        clear hW
        obtain ⟨a0, a1, a2, a3, a4, a5, a6, a7⟩ : _ ∧ _ ∧ _ ∧ _ ∧ _ ∧ _ ∧ _ ∧ _ := ⟨HC.out.cell 0 _ rfl, HC.out.cell 1 _ rfl, HC.out.cell 2 _ rfl, HC.out.cell 3 _ rfl, HC.out.cell 4 _ rfl, HC.out.cell 5 _ rfl, HC.out.cell 6 _ rfl, HC.out.cell 7 _ rfl⟩; have az := HC.out.sz
        go_wp2_with (first
          | (go_at_call 54; (with_reducible refine (usabler_any h.pk h.ts _).mono ?_); rintro e w1 ⟨rfl, hb⟩; rw [HUS.out]; have HC1 := hide (HC.out.below hb); have HB1 := hide (HB.out.trans (hb.mono HB.out.size)); clear a0 a1 a2 a3 a4 a5 a6 a7 az; obtain ⟨a0, a1, a2, a3, a4, a5, a6, a7⟩ : _ ∧ _ ∧ _ ∧ _ ∧ _ ∧ _ ∧ _ ∧ _ := ⟨HC1.out.cell 0 _ rfl, HC1.out.cell 1 _ rfl, HC1.out.cell 2 _ rfl, HC1.out.cell 3 _ rfl, HC1.out.cell 4 _ rfl, HC1.out.cell 5 _ rfl, HC1.out.cell 6 _ rfl, HC1.out.cell 7 _ rfl⟩; have az := HC1.out.sz; clear hb)
          | (go_at_call 55; (with_reducible refine (place_any h.env _).mono ?_); rintro e w2 ⟨rfl, hw⟩; subst hw; rw [HPL.out])
          | (go_at_call 56; (with_reducible refine (r21buckets_any _ h A n c l (HR.out.below HB1.out) HN.out (by omega) (by omega) (by omega) (by omega) (by omega) HWC.out).mono ?_); rintro e w3 ⟨b, rfl, hq, hb⟩; have HQ := hide hq; have HB3 := hide (HB1.out.trans (hb.mono HB1.out.size)); clear hq hb))
        all_goals first
          | (refine bodyPost_ret (v := .bool b) (by simp [results, Try.results32, go_sem, *]) rfl ⟨b, rfl, ⟨fun e => ⟨HUS.out, HE.out.1, HE.out.2, by omega, by omega, by omega, by omega, by omega, by (have := HR0.out; omega), by (have := HR0.out; omega), by (have := HR0.out; omega), (HQ.out.1 e).1, (HQ.out.1 e).2⟩, fun t => HQ.out.2 ⟨t.ord, t.sz⟩⟩, HB3.out⟩)
          | (refine bodyPost_ret (v := .bool b) (by simp [results, Try.results32, go_sem, *]) rfl ⟨b, rfl, ⟨fun e => ⟨HUS.out, HE.out.1, HE.out.2, by omega, by omega, by omega, by omega, by omega, by (have := HR0.out; have := HL0.out; omega), by (have := HR0.out; have := HL0.out; omega), by (have := HR0.out; have := HL0.out; omega), (HQ.out.1 e).1, (HQ.out.1 e).2⟩, fun t => HQ.out.2 ⟨t.ord, t.sz⟩⟩, HB3.out⟩)
          | (refine bodyPost_ret (v := .bool false) (by simp [results, Try.results32, go_sem, *]) rfl (RetB.no (fun t => (by have := t.k0; have := t.k1; have := t.f0; have := t.fr; have := t.rm; have := t.l0; have := t.lm; have := t.lz; have := HR0.out; omega)) HB1.out))
          | (refine bodyPost_ret (v := .bool false) (by simp [results, Try.results32, go_sem, *]) rfl (RetB.no (fun t => (by have := t.lz; have := HR0.out; have := HL0.out; omega)) HB1.out))
end Go.Proofs.Ytnofljgmkdommaa

/- Contract: slices.Delete of one bucket. -/
namespace Go.Proofs.Ytnofljgmkdommaa
open Go.RowKit

/-- Cells written into an own row. -/
theorem own_cells_put {base g n c : Nat} {e : TypeId} {s : Nat} : ∀ (vs : List Value) (o : Nat) (w : World) (xs : List Value), w.ownsRow base e s (.slice (some ⟨g, 0, none⟩) n c) n xs → o + vs.length ≤ n * s →
    (w.setCells g o vs).ownsRow base e s (.slice (some ⟨g, 0, none⟩) n c) n (xs.take o ++ vs ++ xs.drop (o + vs.length)) ∧ Fr w (w.setCells g o vs) (fun b => b = g)
  | [], o, w, xs, h, _ => by
    refine ⟨?_, Fr.refl _ _⟩
    show w.ownsRow base e s _ n _
    simpa using h
  | v :: r, o, w, xs, h, ho => by
    simp only [List.length_cons] at ho
    have h1 := (h.stored o v).1
    obtain ⟨h2, h3⟩ := own_cells_put r (o + 1) _ _ h1 (by omega)
    have hx : o < xs.length := by rw [h.1]; omega
    refine ⟨?_, (Fr.setCell (Fr.refl w (fun b => b = g)) (Or.inr (by rfl)) v).trans h3⟩
    have e1 : (xs.set o v).take (o + 1) ++ r ++ (xs.set o v).drop (o + 1 + r.length) = xs.take o ++ (v :: r) ++ xs.drop (o + (v :: r).length) := by
      rw [List.drop_set_of_lt (by omega), List.take_add_one, List.take_set_of_le (by omega), List.getElem?_set_self hx]
      simp only [List.length_cons, Option.toList, List.append_assoc, List.cons_append, List.nil_append]
      rw [show o + 1 + r.length = o + (r.length + 1) by omega]
    rw [← e1]
    exact h2
theorem own_shrink {w : World} {base g n m c : Nat} {e : TypeId} {s : Nat} {xs : List Value} (h : w.ownsRow base e s (.slice (some ⟨g, 0, none⟩) n c) n xs) (hm : m ≤ n) : w.ownsRow base e s (.slice (some ⟨g, 0, none⟩) m c) m (xs.take (m * s)) := by
  have hms : m * s ≤ n * s := Nat.mul_le_mul_right s hm
  refine ⟨by rw [List.length_take, h.1]; omega, ?_⟩
  rcases h.2 with ⟨h', _⟩ | ⟨g', cap', cur, h', hb, hg, hnc, hcm, hcs, htake⟩
  · simp at h'
  · simp only [Value.slice.injEq, Option.some.injEq, Addr.mk.injEq, and_true, true_and] at h'
    obtain ⟨rfl, rfl⟩ := h'
    refine .inr ⟨g, c, cur, rfl, hb, hg, by omega, hcm, hcs, ?_⟩
    rw [← htake, List.take_take, Nat.min_eq_left hms]
theorem run_clear3 (w : World) (t e ty : TypeId) (ht : Try.prog.underlying t = some (.slice e)) (hv : ∀ w, (zeroValue e).run Try.prog w = .ok (.agg #[.int .i64 0, .int .i64 0, .int .i64 0]) w) (b o c : Nat)
    (hc : ∀ j, j < 3 → (w.cell? ⟨b, o + j, none⟩).isSome = true) (hf : ∀ j, j < 3 → w.frozen? ⟨b, o + j, none⟩ = false) :
    (Builtin.clear_ #[t] ty #[.slice (some ⟨b, o, none⟩) 1 c]).run Try.prog w = .ok (.tuple #[]) (w.setCells b o [.int .i64 0, .int .i64 0, .int .i64 0]) := by
  have hzc : (Builtin.zeroCells (Value.agg #[.int .i64 0, .int .i64 0, .int .i64 0]).cells 1).toList = [.int .i64 0, .int .i64 0, .int .i64 0] := by
    simp [Builtin.zeroCells, Value.cells]
    rw [show List.range 3 = [0, 1, 2] from rfl]
    rfl
  have hst := run_storeCells_cells (P := Try.prog) b o [.int .i64 0, .int .i64 0, .int .i64 0] 0 w (by simpa using hc) (by simpa using hf) (by intro v hv'; simp at hv'; subst hv'; rfl)
  simp only [Nat.add_zero] at hst
  simp [Builtin.clear_, run_underlying ht, hv, hzc, hst]
theorem zeroBucket (w : World) : (zeroValue 81).run Try.prog w = .ok (.agg #[.int .i64 0, .int .i64 0, .int .i64 0]) w := by kernel_rfl
theorem take_flat {l : List Bk} {i : Nat} (h : i ≤ l.length) : (l.flatMap Bk.vals).take (i * 3) = (l.take i).flatMap Bk.vals := by
  conv => lhs; rw [← List.take_append_drop i l, List.flatMap_append]
  rw [List.take_append_of_le_length (by rw [flat_len Bk.len, List.length_take]; omega), List.take_of_length_le (by rw [flat_len Bk.len, List.length_take]; omega)]
theorem drop_flat {l : List Bk} {i : Nat} (h : i ≤ l.length) : (l.flatMap Bk.vals).drop (i * 3) = (l.drop i).flatMap Bk.vals := by
  conv => lhs; rw [← List.take_append_drop i l, List.flatMap_append]
  rw [List.drop_append, List.drop_eq_nil_of_le (by rw [flat_len Bk.len, List.length_take]; omega), flat_len Bk.len, List.length_take, Nat.min_eq_left h]
  simp
theorem some_at {l : List Value} {j : Nat} (h : j < l.length) : l[j]?.isSome = true := by rw [List.getElem?_eq_getElem h]; rfl
set_option maxRecDepth 100000 in
set_option maxHeartbeats 8000000 in
theorem bdel_any (w : World) (base g n c i j : Nat) (hj : j = i + 1) (l : List Bk) (hO : w.ownsRow base 81 3 (.slice (some ⟨g, 0, none⟩) n c) n (l.flatMap Bk.vals)) (hl : l.length = n) (hi : i < n) (hn : n ≤ 1000000) :
    Calls Try.prog 74 #[.slice (some ⟨g, 0, none⟩) n c, .int .i64 i, .int .i64 j] w fun e w' => e = .returned (.slice (some ⟨g, 0, none⟩) (n - 1) c) ∧ w'.ownsRow base 81 3 (.slice (some ⟨g, 0, none⟩) (n - 1) c) (n - 1) ((l.eraseIdx i).flatMap Bk.vals) ∧ Fr w w' (fun b => b = g) := by
  obtain ⟨i0, hi0, hz0, hz1, hz2⟩ := info_parts info81
  have hcap : n ≤ c ∧ c ≤ 9223372036854775807 := by
    rcases hO.2 with ⟨h', _⟩ | ⟨g', cap', cur, h', hb, hg, hnc, hcm, hcs, htake⟩
    · simp at h'
    · simp only [Value.slice.injEq, Option.some.injEq, Addr.mk.injEq, and_true, true_and] at h'
      obtain ⟨-, rfl⟩ := h'
      exact ⟨hnc, by simpa [maxLen] using hcm⟩
  obtain ⟨news, hnews⟩ : ∃ news, news = (l.drop j).flatMap Bk.vals := ⟨_, rfl⟩
  have hlen : news.length = (n - j) * 3 := by rw [hnews, flat_len Bk.len, List.length_drop, hl]
  have hget : ∀ t u, news[t]? = some u → w.cell? ⟨g, j * 3 + t, none⟩ = some u := by
    intro t u hu
    have ht : t < (n - j) * 3 := by rw [← hlen]; exact (List.getElem?_eq_some_iff.1 hu).1
    rw [hO.cellAt _ (by omega), ← List.getElem?_drop, drop_flat (by omega), ← hnews]
    exact hu
  obtain ⟨A, hA, hsrc⟩ : ∃ A : Addr, (if c = j then some (⟨g, 0, none⟩ : Addr) else some ⟨g, j * 3, none⟩) = some A ∧ Hid (∀ t u, news[t]? = some u → w.drew.cell? (A.add t) = some u) := by
    by_cases h : c = j
    · refine ⟨⟨g, 0, none⟩, by simp [h], fun t u hu => ?_⟩
      have h0 : news.length = 0 := by rw [hlen]; omega
      rw [List.length_eq_zero_iff.1 h0] at hu
      simp at hu
    · refine ⟨⟨g, j * 3, none⟩, by simp [h], fun t u hu => ?_⟩
      rw [Addr.add_lit]
      exact hget t u hu
  have s1 : Hid (news.length = (n - j) * 3) := hlen
  have s2 : Hid (∀ u ∈ news, u.oneCell' = true) := by
    intro u hu
    rw [hnews] at hu
    obtain ⟨x, _, hx⟩ := List.mem_flatMap.1 hu
    exact Bk.one x u hx
  have hsome : ∀ j, j < n * 3 → (w.cell? ⟨g, j, none⟩).isSome = true := by
    intro j hj
    rw [hO.cellAt j hj]
    exact some_at (by rw [hO.1]; exact hj)
  have s3 : Hid (∀ t, t < news.length → (w.drew.cell? ⟨g, 0 + i * 3 + t, none⟩).isSome = true ∧ w.drew.frozen? ⟨g, 0 + i * 3 + t, none⟩ = false) := by
    intro t ht
    rw [hlen] at ht
    rw [Nat.zero_add]
    exact ⟨hsome _ (by omega), hO.frozenAt _⟩
  obtain ⟨W1, hW1⟩ : ∃ W1, W1 = w.drew.setCells g (0 + i * 3) news := ⟨_, rfl⟩
  obtain ⟨hO1, hF1⟩ := own_cells_put news (0 + i * 3) w.drew _ (show w.drew.ownsRow base 81 3 (.slice (some ⟨g, 0, none⟩) n c) n (l.flatMap Bk.vals) from hO) (by rw [hlen]; omega)
  rw [← hW1] at hO1 hF1
  obtain ⟨M, hM⟩ : ∃ M, M = n - 1 := ⟨_, rfl⟩
  rw [← hM]
  have hcl : ∀ ty, (Builtin.clear_ #[24] ty #[.slice (some ⟨g, M * 3, none⟩) 1 (c - M)]).run Try.prog W1 = .ok (.tuple #[]) (W1.setCells g (M * 3) [.int .i64 0, .int .i64 0, .int .i64 0]) :=
    fun ty => run_clear3 W1 _ _ ty Try.underlying24 zeroBucket g (M * 3) _ (fun j hj => by rw [hO1.cellAt _ (by omega)]; exact some_at (by rw [hO1.1]; omega)) (fun j _ => hO1.frozenAt _)
  have HF1 := hide hF1
  have HO1 := hide hO1
  have HO := hide hO
  have HL := hide hl
  have HN := hide hnews
  have hW : Hid (W1 = w.drew.setCells g (0 + i * 3) news) := hW1
  have hic : i ≤ c := by omega
  have hjc : j ≤ c := by omega
  have hne : ¬ (i : Int) = (j : Int) := by omega
  have hjn : j ≤ n := by omega
  have hij : i ≤ j := by omega
  have hin : i ≤ n := by omega
  have hnc := hcap.1
  have hnm : i + (n - j) = M := by omega
  have hMn : M ≤ n := by omega
  have hM1 : n - M = 1 := by omega
  have hMc : ¬ c = M := by omega
  have hMc2 : M ≤ c := by omega
  have hMz : ¬ c - M = 0 := by omega
  have HM := hide hM
  clear hM
  have HJ := hide hj
  clear hj hcap
  clear hW1 hO1 hF1 hO hl hnews hget hlen hsome
  go_enter Try.func74, Try.ntmps74
  go_wp2_with fail
  go_region_law (refine step_append_room rfl (.tmp 22) (.tmp 25) 24 rfl 81 i0 3 Try.underlying24 hi0 hz1 g 0 i c (by simp [Act.eval, Act.put]) A (n - j) (c - j) news (by simp [Act.eval, Act.put]) s1.out hsrc.out s2.out (by omega) s3.out ?_; rw [← hW.out])
  go_wp2_with fail
  go_ret
  have hL := HL.out
  have hj := HJ.out
  have hMM := HM.out
  have hnw : news.length = (n - j) * 3 := s1.out
  obtain ⟨hO2, hF2⟩ := own_cells_put [.int .i64 0, .int .i64 0, .int .i64 0] (M * 3) W1 _ HO1.out (by simp; omega)
  have hO3 := own_shrink hO2 hMn
  have hti : ((l.flatMap Bk.vals).take (0 + i * 3)).length = i * 3 := by rw [List.length_take, flat_len Bk.len, hL]; omega
  have htn : ((l.flatMap Bk.vals).take (0 + i * 3) ++ news).length = M * 3 := by rw [List.length_append, hti, hnw]; omega
  have e1 : List.take (M * 3) (List.take (M * 3) ((l.flatMap Bk.vals).take (0 + i * 3) ++ news ++ (l.flatMap Bk.vals).drop (0 + i * 3 + news.length)) ++ [Value.int .i64 0, .int .i64 0, .int .i64 0] ++ List.drop (M * 3 + [Value.int .i64 0, .int .i64 0, .int .i64 0].length) ((l.flatMap Bk.vals).take (0 + i * 3) ++ news ++ (l.flatMap Bk.vals).drop (0 + i * 3 + news.length))) = (l.eraseIdx i).flatMap Bk.vals := by
    have e2 : List.take (M * 3) ((l.flatMap Bk.vals).take (0 + i * 3) ++ news ++ (l.flatMap Bk.vals).drop (0 + i * 3 + news.length)) = (l.flatMap Bk.vals).take (0 + i * 3) ++ news := by
      rw [List.take_append_of_le_length (by rw [htn]; omega), List.take_of_length_le (by rw [htn]; omega)]
    rw [e2, List.append_assoc _ [Value.int .i64 0, _, _] _, List.take_append_of_le_length (by rw [htn]; omega), List.take_of_length_le (by rw [htn]; omega), Nat.zero_add, take_flat (by omega), HN.out, hj, ← List.flatMap_append, List.eraseIdx_eq_take_drop_succ]
  rw [e1] at hO3
  exact ⟨rfl, hO3, ((Fr.refl w _).drew.trans HF1.out).trans hF2⟩
end Go.Proofs.Ytnofljgmkdommaa

/- Contract: join. -/
namespace Go.Proofs.Ytnofljgmkdommaa
open Go.RowKit

/-- The state at each jump back. -/
structure JS (w W : World) (base g c k : Nat) (S : Int) (l L : List Bk) : Prop where
  own : W.ownsRow base 81 3 (.slice (some ⟨g, 0, none⟩) L.length c) L.length (L.flatMap Bk.vals)
  ji : JIB S L
  fr : Fr w W (fun b => b = g)
  js : ∀ l', Joins k L l' → Joins k l l'
theorem JS.drewN {w W : World} {base g c k : Nat} {S : Int} {l L : List Bk} (h : JS w W base g c k S l L) (d : Nat) : JS w (W.drewN d) base g c k S l L := ⟨h.own, h.ji, h.fr.below_ (Dr.below ⟨d, rfl⟩), h.js⟩
theorem not_ok_none {L : List Bk} {k i : Nat} (h : L.length ≤ i + k) : ¬ okJ L k i := by
  rintro ⟨x, y, -, hy, -⟩
  have := (List.getElem?_eq_some_iff.1 hy).1
  omega
theorem row_put {v v2 : World} {base g c : Nat} {L : List Bk} {i N : Nat} {x : Bk} (hO : v.ownsRow base 81 3 (.slice (some ⟨g, 0, none⟩) N c) N (L.flatMap Bk.vals)) (hx : L[i]? = some x) (hN : N = L.length) (b : Bk) (h2 : v2 = (v.setCells g (i * 3) b.vals).drew) :
    v2.ownsRow base 81 3 (.slice (some ⟨g, 0, none⟩) N c) N ((L.set i b).flatMap Bk.vals) ∧ Fr v v2 (fun b => b = g) := by
  have hi : i < L.length := (List.getElem?_eq_some_iff.1 hx).1
  obtain ⟨h1, h3⟩ := own_cells_put b.vals (i * 3) v _ hO (by rw [Bk.len]; omega)
  have e : (L.flatMap Bk.vals).take (i * 3) ++ b.vals ++ (L.flatMap Bk.vals).drop (i * 3 + b.vals.length) = (L.set i b).flatMap Bk.vals := by
    rw [List.set_eq_take_append_cons_drop, if_pos hi, List.flatMap_append, List.flatMap_cons, take_flat (by omega), Bk.len, show i * 3 + 3 = (i + 1) * 3 by omega, drop_flat (by omega), List.append_assoc]
  rw [e] at h1
  subst h2
  exact ⟨h1, h3.drew⟩
theorem bdel_i (w : World) (base g n c i j : Nat) (a b : Int) (hj : j = i + 1) (l : List Bk) (hO : w.ownsRow base 81 3 (.slice (some ⟨g, 0, none⟩) n c) n (l.flatMap Bk.vals)) (hl : l.length = n) (hi : i < n) (hn : n ≤ 1000000) (ha : a = (i : Int)) (hb : b = (j : Int)) :
    Calls Try.prog 74 #[.slice (some ⟨g, 0, none⟩) n c, .int .i64 a, .int .i64 b] w fun e w' => e = .returned (.slice (some ⟨g, 0, none⟩) (n - 1) c) ∧ w'.ownsRow base 81 3 (.slice (some ⟨g, 0, none⟩) (n - 1) c) (n - 1) ((l.eraseIdx i).flatMap Bk.vals) ∧ Fr w w' (fun b => b = g) := by
  subst ha hb
  exact bdel_any w base g n c i j hj l hO hl hi hn
set_option maxRecDepth 100000 in
set_option maxHeartbeats 8000000 in
theorem hjoin_any (w : World) (base g n c k : Nat) (l : List Bk) (hO : w.ownsRow base 81 3 (.slice (some ⟨g, 0, none⟩) n c) n (l.flatMap Bk.vals)) (hl : l.length = n) (S : Int) (hS2 : S ≤ 1000000) (hk1 : 1 ≤ k) (hk : k ≤ 16) (hC : JIB S l) :
    Calls Try.prog 50 #[.slice (some ⟨g, 0, none⟩) n c, .int .i64 (k : Int)] w fun e w' => ∃ n' l', e = .returned (.slice (some ⟨g, 0, none⟩) n' c) ∧ Joins k l l' ∧ l'.length = n' ∧ w'.ownsRow base 81 3 (.slice (some ⟨g, 0, none⟩) n' c) n' (l'.flatMap Bk.vals) ∧ Fr w w' (fun b => b = g) := by
  have hS0 : JS w w base g c k S l l := ⟨by rw [hl]; exact hO, hC, Fr.refl _ _, fun _ h => h⟩
  have HL := hide hl
  clear hO hC hl
  go_enter Try.func50, Try.ntmps50
  go_wp2
  refine wp_scope_jumps 0 (fun a' W => ∃ (L : List Bk) (N : Nat) (u2 u3 u4 u5 u6 u7 u8 u9 u10 u11 u12 u13 u14 u15 u16 u17 u18 u19 u20 u21 u22 u23 u24 u25 u26 u27 u28 u29 u30 u31 u32 u33 u34 u35 u36 u37 u38 u39 u40 u41 u42 u43 u44 u45 u46 u47 u48 u49 u50 u51 u52 u53 u54 u55 u56 u57 u58 u59 u60 : Value), a' = { tmps := List.toArray (Value.slice (some ⟨g, 0, none⟩) N c :: Value.int .i64 (k : Int) :: u2 :: u3 :: u4 :: u5 :: u6 :: u7 :: u8 :: u9 :: u10 :: u11 :: u12 :: u13 :: u14 :: u15 :: u16 :: u17 :: u18 :: u19 :: u20 :: u21 :: u22 :: u23 :: u24 :: u25 :: u26 :: u27 :: u28 :: u29 :: u30 :: u31 :: u32 :: u33 :: u34 :: u35 :: u36 :: u37 :: u38 :: u39 :: u40 :: u41 :: u42 :: u43 :: u44 :: u45 :: u46 :: u47 :: u48 :: u49 :: u50 :: u51 :: u52 :: u53 :: u54 :: u55 :: u56 :: u57 :: u58 :: u59 :: u60 :: []), defers := [] } ∧ N = L.length ∧ JS w W base g c k S l L) (fun a' _ => match a'.tmps.getD 0 undef with | .slice _ N _ => N | _ => 0) rfl ?_ ?_
  · go_wp2
    go_step3
    obtain ⟨L, hL⟩ : ∃ L, L = l := ⟨_, rfl⟩
    have hS : JS w w base g c k S l L := by rw [hL]; exact hS0
    have hN : n = L.length := by rw [hL]; exact HL.out.symm
    clear hS0 hL HL
    obtain ⟨N, hNN⟩ : ∃ N, N = n := ⟨_, rfl⟩
    subst hNN
    have hQ : ∃ W, W = w := ⟨_, rfl⟩
    obtain ⟨W, hW⟩ := hQ
    have hS : JS w W base g c k S l L := by rw [hW]; exact hS
    rw [← hW]
    clear hW
    have HS := hide hS
    have HN := hide hN
    have hNn : (N : Int) ≤ S := by rw [hN, ← hS.ji.su]; exact sumC_len hS.ji.pw
    clear hS hN
    go_upto_region 2 with (fail)
    go_wp2_with fail
    go_loopw [0, 8] (fun sv iv wr => ∃ i : Nat, sv = .slice (some ⟨g, 0, none⟩) N c ∧ iv = .int .i64 (i : Int) ∧ i ≤ N ∧ Hid (JS w wr base g c k S l L) ∧ Hid (∀ j, j < i → ¬ okJ L k j)) (fun _ iv _ => N - (intOf iv).toNat)
    case atStart => exact ⟨0, rfl, rfl, Nat.zero_le _, HS, hide (fun j hj => by omega)⟩
    case round =>
      obtain ⟨i, rfl, rfl, hi, HR, HI⟩ := hrel
      by_cases hiN : i = N
      · subst hiN
        go_wp2_with fail
        simp only [Exit.jump]
        have hNL := HN.out
        refine bodyPost_ret (v := .slice (some ⟨g, 0, none⟩) i c) (by simp [results, Try.results50, go_sem, *]) rfl ⟨i, L, rfl, HR.out.js L (.done (fun j => by
          by_cases h : j < i
          · exact HI.out j h
          · exact not_ok_none (by omega))), hNL.symm, by rw [hNL]; exact HR.out.own, HR.out.fr⟩
      · have hi2 : i < N := by omega
        have hi3 : (i : Int) < (N : Int) := by omega
        have hi0 : (0 : Int) ≤ (i : Int) := by omega
        obtain ⟨p, hp⟩ : ∃ p, p = i + k := ⟨_, rfl⟩
        have hpw : IntKind.i64.wrap ((i : Int) + (k : Int)) = (p : Int) := by rw [IntWalk.i64_in _ (by omega)]; omega
        have hpw2 : wrap64 ((i : Int) + (k : Int)) = (p : Int) := by rw [IntWalk.wrap64_in _ ⟨by omega, by omega⟩]; omega
        have hiw : IntKind.i64.wrap ((i : Int) + 1) = (i : Int) + 1 := IntWalk.i64_in _ (by omega)
        have HP := hide hp
        clear hp
        by_cases hik : N ≤ p
        · have q0 : decide ((N : Int) ≤ (p : Int)) = true := decide_eq_true (by omega)
          go_upto_region 4 with (fail)
          go_quiet (fail)
          go_wp2_with fail
          go_roundw
          case rel => exact ⟨i + 1, rfl, by go_num, by omega, hide (HR.out.drewN _), hide (fun j hj => by
            by_cases h : j = i
            · subst h; exact not_ok_none (by have := HN.out; have := HP.out; omega)
            · exact HI.out j (by omega))⟩
          case measure => simp [intOf]; omega
        · have q0 : decide ((N : Int) ≤ (p : Int)) = false := decide_eq_false (by omega)
          have hp2 : p < N := by omega
          have hp3 : (p : Int) < (N : Int) := by omega
          have hp0 : (0 : Int) ≤ (p : Int) := by omega
          obtain ⟨x, hx⟩ : ∃ x, L[i]? = some x := ⟨_, List.getElem?_eq_getElem (by have := HN.out; omega)⟩
          obtain ⟨y, hy⟩ : ∃ y, L[p]? = some y := ⟨_, List.getElem?_eq_getElem (by have := HN.out; omega)⟩
          have x2 := own_cells Bk.len HR.out.own hx 2 (.int .i64 x.c) rfl
          have y2 := own_cells Bk.len HR.out.own hy 2 (.int .i64 y.c) rfl
          have HX := hide hx
          have HY := hide hy
          clear hx hy
          by_cases hc : x.c = y.c
          · have q1 : (x.c != y.c) = false := by simp [hc]
            have hrN : i + 1 < N := by have := HP.out; omega
            obtain ⟨z, hz⟩ : ∃ z, L[i + 1]? = some z := ⟨_, List.getElem?_eq_getElem (by have := HN.out; omega)⟩
            have hbx := HR.out.ji.le (List.mem_of_getElem? HX.out)
            have hxw : IntKind.i64.wrap (2 * x.c) = 2 * x.c := IntWalk.i64_in _ (by omega)
            have hxw2 : wrap64 (2 * x.c) = 2 * x.c := IntWalk.wrap64_in _ ⟨by omega, by omega⟩
            have HEQ := hide hc
            clear hc
            have hr0 : (0 : Int) ≤ (i : Int) + 1 := by omega
            have hr3 : (i : Int) + 1 < (N : Int) := by omega
            have HZ := hide hz
            clear hz hbx
            go_upto_region 4 with (fail)
            go_quiet (fail)
            go_upto_region 5 with (fail)
            generalize hW : World.drewN wr _ = v
            have HV := hide (show JS w v base g c k S l L by rw [← hW]; exact HR.out.drewN _)
            clear hW x2 y2 q0 q1 hpw hpw2
            have x0 := own_cells Bk.len HV.out.own HX.out 0 (.int .i64 x.f) rfl
            have x2 := own_cells Bk.len HV.out.own HX.out 2 (.int .i64 x.c) rfl
            have z1 := own_cells Bk.len HV.out.own HZ.out 1 (.int .i64 z.l) rfl
            have fz := HV.out.own.frozenAt
            have x1 := own_cells Bk.len HV.out.own HX.out 1 (.int .i64 x.l) rfl
            simp only [Nat.add_zero] at x0
            go_region
            generalize hW : World.drew (World.setCell (World.setCell (World.setCell v _ _) _ _) _ _) = v2
            have HV2 := hide (row_put (v2 := v2) (by rw [HN.out]; exact HV.out.own) HX.out HN.out (mB x z) (by rw [← hW]; rfl))
            have HF2 := hide (HV.out.fr.trans HV2.out.2)
            clear hW x0 x1 x2 z1 fz
            have hN1 : ((L.set i (mB x z)).length) = N := by rw [List.length_set, HN.out]
            have hNm : N ≤ 1000000 := by omega
            go_upto_region 6 with (fail)
            go_wp2_with (go_at_call 74; (with_reducible refine (bdel_i v2 base g N c (i + 1) (i + 2) _ _ rfl (L.set i (mB x z)) HV2.out.1 hN1 hrN hNm (by omega) (by omega)).mono ?_); rintro e w3 ⟨rfl, ho, hf⟩; have HO3 := hide ho; have HF3 := hide hf; clear ho hf)
            have HOK := hide (show okJ L k i from ⟨x, y, HX.out, by rw [← HP.out]; exact HY.out, HEQ.out⟩)
            have hML := mergeB_len HX.out HZ.out
            have HJS := hide (show JS w w3 base g c k S l (mergeB L i) from ⟨by rw [hML, ← HN.out, mergeB_eq HX.out HZ.out]; exact HO3.out, HV.out.ji.merge hk1 HI.out HOK.out, HF2.out.trans HF3.out, fun l' h => HV.out.js l' (.step HI.out HOK.out h)⟩)
            have hM1 : N - 1 = (mergeB L i).length := by rw [hML, ← HN.out]
            have hM2 : N - 1 < N := by omega
            go_step3
            simp only [Exit.inBlock, Exit.then, Exit.jump]
            refine ⟨rfl, ?_⟩
            first
              | exact ⟨mergeB L i, N - 1, _, _, _, _, _, _, _, _, _, _, _, _, _, _, _, _, _, _, _, _, _, _, _, _, _, _, _, _, _, _, _, _, _, _, _, _, _, _, _, _, _, _, _, _, _, _, _, _, _, _, _, _, _, _, _, _, _, _, _, rfl, hM1, HJS.out⟩
              | exact ⟨⟨mergeB L i, N - 1, _, _, _, _, _, _, _, _, _, _, _, _, _, _, _, _, _, _, _, _, _, _, _, _, _, _, _, _, _, _, _, _, _, _, _, _, _, _, _, _, _, _, _, _, _, _, _, _, _, _, _, _, _, _, _, _, _, _, _, rfl, hM1, HJS.out⟩, hM2⟩
          · have q1 : (x.c != y.c) = true := by simp [hc]
            go_upto_region 4 with (fail)
            go_quiet (fail)
            go_wp2_with fail
            go_roundw
            case rel => exact ⟨i + 1, rfl, by go_num, by omega, hide (HR.out.drewN _), hide (fun j hj => by
              by_cases h : j = i
              · subst h
                rintro ⟨x', y', h1, h2, h3⟩
                rw [HX.out] at h1
                rw [← HP.out, HY.out] at h2
                injection h1 with h1
                injection h2 with h2
                exact hc (by rw [h1, h2]; exact h3)
              · exact HI.out j (by omega))⟩
            case measure => simp [intOf]; omega
  · rintro a' W ⟨L, N, u2, u3, u4, u5, u6, u7, u8, u9, u10, u11, u12, u13, u14, u15, u16, u17, u18, u19, u20, u21, u22, u23, u24, u25, u26, u27, u28, u29, u30, u31, u32, u33, u34, u35, u36, u37, u38, u39, u40, u41, u42, u43, u44, u45, u46, u47, u48, u49, u50, u51, u52, u53, u54, u55, u56, u57, u58, u59, u60, rfl, hN, hS⟩
    clear hS0
    have HS := hide hS
    have HN := hide hN
    have hNn : (N : Int) ≤ S := by rw [hN, ← hS.ji.su]; exact sumC_len hS.ji.pw
    clear hS hN
    go_upto_region 2 with (fail)
    go_wp2_with fail
    go_loopw [0, 8] (fun sv iv wr => ∃ i : Nat, sv = .slice (some ⟨g, 0, none⟩) N c ∧ iv = .int .i64 (i : Int) ∧ i ≤ N ∧ Hid (JS w wr base g c k S l L) ∧ Hid (∀ j, j < i → ¬ okJ L k j)) (fun _ iv _ => N - (intOf iv).toNat)
    case atStart => exact ⟨0, rfl, rfl, Nat.zero_le _, HS, hide (fun j hj => by omega)⟩
    case round =>
      obtain ⟨i, rfl, rfl, hi, HR, HI⟩ := hrel
      by_cases hiN : i = N
      · subst hiN
        go_wp2_with fail
        simp only [Exit.jump]
        have hNL := HN.out
        refine bodyPost_ret (v := .slice (some ⟨g, 0, none⟩) i c) (by simp [results, Try.results50, go_sem, *]) rfl ⟨i, L, rfl, HR.out.js L (.done (fun j => by
          by_cases h : j < i
          · exact HI.out j h
          · exact not_ok_none (by omega))), hNL.symm, by rw [hNL]; exact HR.out.own, HR.out.fr⟩
      · have hi2 : i < N := by omega
        have hi3 : (i : Int) < (N : Int) := by omega
        have hi0 : (0 : Int) ≤ (i : Int) := by omega
        obtain ⟨p, hp⟩ : ∃ p, p = i + k := ⟨_, rfl⟩
        have hpw : IntKind.i64.wrap ((i : Int) + (k : Int)) = (p : Int) := by rw [IntWalk.i64_in _ (by omega)]; omega
        have hpw2 : wrap64 ((i : Int) + (k : Int)) = (p : Int) := by rw [IntWalk.wrap64_in _ ⟨by omega, by omega⟩]; omega
        have hiw : IntKind.i64.wrap ((i : Int) + 1) = (i : Int) + 1 := IntWalk.i64_in _ (by omega)
        have HP := hide hp
        clear hp
        by_cases hik : N ≤ p
        · have q0 : decide ((N : Int) ≤ (p : Int)) = true := decide_eq_true (by omega)
          go_upto_region 4 with (fail)
          go_quiet (fail)
          go_wp2_with fail
          go_roundw
          case rel => exact ⟨i + 1, rfl, by go_num, by omega, hide (HR.out.drewN _), hide (fun j hj => by
            by_cases h : j = i
            · subst h; exact not_ok_none (by have := HN.out; have := HP.out; omega)
            · exact HI.out j (by omega))⟩
          case measure => simp [intOf]; omega
        · have q0 : decide ((N : Int) ≤ (p : Int)) = false := decide_eq_false (by omega)
          have hp2 : p < N := by omega
          have hp3 : (p : Int) < (N : Int) := by omega
          have hp0 : (0 : Int) ≤ (p : Int) := by omega
          obtain ⟨x, hx⟩ : ∃ x, L[i]? = some x := ⟨_, List.getElem?_eq_getElem (by have := HN.out; omega)⟩
          obtain ⟨y, hy⟩ : ∃ y, L[p]? = some y := ⟨_, List.getElem?_eq_getElem (by have := HN.out; omega)⟩
          have x2 := own_cells Bk.len HR.out.own hx 2 (.int .i64 x.c) rfl
          have y2 := own_cells Bk.len HR.out.own hy 2 (.int .i64 y.c) rfl
          have HX := hide hx
          have HY := hide hy
          clear hx hy
          by_cases hc : x.c = y.c
          · have q1 : (x.c != y.c) = false := by simp [hc]
            have hrN : i + 1 < N := by have := HP.out; omega
            obtain ⟨z, hz⟩ : ∃ z, L[i + 1]? = some z := ⟨_, List.getElem?_eq_getElem (by have := HN.out; omega)⟩
            have hbx := HR.out.ji.le (List.mem_of_getElem? HX.out)
            have hxw : IntKind.i64.wrap (2 * x.c) = 2 * x.c := IntWalk.i64_in _ (by omega)
            have hxw2 : wrap64 (2 * x.c) = 2 * x.c := IntWalk.wrap64_in _ ⟨by omega, by omega⟩
            have HEQ := hide hc
            clear hc
            have hr0 : (0 : Int) ≤ (i : Int) + 1 := by omega
            have hr3 : (i : Int) + 1 < (N : Int) := by omega
            have HZ := hide hz
            clear hz hbx
            go_upto_region 4 with (fail)
            go_quiet (fail)
            go_upto_region 5 with (fail)
            generalize hW : World.drewN wr _ = v
            have HV := hide (show JS w v base g c k S l L by rw [← hW]; exact HR.out.drewN _)
            clear hW x2 y2 q0 q1 hpw hpw2
            have x0 := own_cells Bk.len HV.out.own HX.out 0 (.int .i64 x.f) rfl
            have x2 := own_cells Bk.len HV.out.own HX.out 2 (.int .i64 x.c) rfl
            have z1 := own_cells Bk.len HV.out.own HZ.out 1 (.int .i64 z.l) rfl
            have fz := HV.out.own.frozenAt
            have x1 := own_cells Bk.len HV.out.own HX.out 1 (.int .i64 x.l) rfl
            simp only [Nat.add_zero] at x0
            go_region
            generalize hW : World.drew (World.setCell (World.setCell (World.setCell v _ _) _ _) _ _) = v2
            have HV2 := hide (row_put (v2 := v2) (by rw [HN.out]; exact HV.out.own) HX.out HN.out (mB x z) (by rw [← hW]; rfl))
            have HF2 := hide (HV.out.fr.trans HV2.out.2)
            clear hW x0 x1 x2 z1 fz
            have hN1 : ((L.set i (mB x z)).length) = N := by rw [List.length_set, HN.out]
            have hNm : N ≤ 1000000 := by omega
            go_upto_region 6 with (fail)
            go_wp2_with (go_at_call 74; (with_reducible refine (bdel_i v2 base g N c (i + 1) (i + 2) _ _ rfl (L.set i (mB x z)) HV2.out.1 hN1 hrN hNm (by omega) (by omega)).mono ?_); rintro e w3 ⟨rfl, ho, hf⟩; have HO3 := hide ho; have HF3 := hide hf; clear ho hf)
            have HOK := hide (show okJ L k i from ⟨x, y, HX.out, by rw [← HP.out]; exact HY.out, HEQ.out⟩)
            have hML := mergeB_len HX.out HZ.out
            have HJS := hide (show JS w w3 base g c k S l (mergeB L i) from ⟨by rw [hML, ← HN.out, mergeB_eq HX.out HZ.out]; exact HO3.out, HV.out.ji.merge hk1 HI.out HOK.out, HF2.out.trans HF3.out, fun l' h => HV.out.js l' (.step HI.out HOK.out h)⟩)
            have hM1 : N - 1 = (mergeB L i).length := by rw [hML, ← HN.out]
            have hM2 : N - 1 < N := by omega
            go_step3
            simp only [Exit.inBlock, Exit.then, Exit.jump]
            refine ⟨rfl, ?_⟩
            first
              | exact ⟨mergeB L i, N - 1, _, _, _, _, _, _, _, _, _, _, _, _, _, _, _, _, _, _, _, _, _, _, _, _, _, _, _, _, _, _, _, _, _, _, _, _, _, _, _, _, _, _, _, _, _, _, _, _, _, _, _, _, _, _, _, _, _, _, _, rfl, hM1, HJS.out⟩
              | exact ⟨⟨mergeB L i, N - 1, _, _, _, _, _, _, _, _, _, _, _, _, _, _, _, _, _, _, _, _, _, _, _, _, _, _, _, _, _, _, _, _, _, _, _, _, _, _, _, _, _, _, _, _, _, _, _, _, _, _, _, _, _, _, _, _, _, _, _, rfl, hM1, HJS.out⟩, hM2⟩
          · have q1 : (x.c != y.c) = true := by simp [hc]
            go_upto_region 4 with (fail)
            go_quiet (fail)
            go_wp2_with fail
            go_roundw
            case rel => exact ⟨i + 1, rfl, by go_num, by omega, hide (HR.out.drewN _), hide (fun j hj => by
              by_cases h : j = i
              · subst h
                rintro ⟨x', y', h1, h2, h3⟩
                rw [HX.out] at h1
                rw [← HP.out, HY.out] at h2
                injection h1 with h1
                injection h2 with h2
                exact hc (by rw [h1, h2]; exact h3)
              · exact HI.out j (by omega))⟩
            case measure => simp [intOf]; omega
end Go.Proofs.Ytnofljgmkdommaa

/- Contract: Add of a failed run to any history. -/
namespace Go.Proofs.Ytnofljgmkdommaa
open Go.RowKit

theorem own_some {w : World} {base m c s : Nat} {e : TypeId} {A : Option Addr} {xs : List Value} (h : w.ownsRow base e s (.slice A (m + 1) c) (m + 1) xs) : ∃ g, A = some ⟨g, 0, none⟩ := by
  rcases h.2 with ⟨h', _⟩ | ⟨g', cap', cur, h', _⟩
  · simp at h'
  · simp only [Value.slice.injEq, true_and] at h'
    exact ⟨g', h'.1⟩
theorem hjoin_i (w : World) (base g n c k : Nat) (ki : Int) (hki : ki = (k : Int)) (l : List Bk) (hO : w.ownsRow base 81 3 (.slice (some ⟨g, 0, none⟩) n c) n (l.flatMap Bk.vals)) (hl : l.length = n) (S : Int) (hS2 : S ≤ 1000000) (hk1 : 1 ≤ k) (hk : k ≤ 16) (hC : JIB S l) :
    Calls Try.prog 50 #[.slice (some ⟨g, 0, none⟩) n c, .int .i64 ki] w fun e w' => ∃ n' l', e = .returned (.slice (some ⟨g, 0, none⟩) n' c) ∧ Joins k l l' ∧ l'.length = n' ∧ w'.ownsRow base 81 3 (.slice (some ⟨g, 0, none⟩) n' c) n' (l'.flatMap Bk.vals) ∧ Fr w w' (fun b => b = g) := by
  subst hki
  exact hjoin_any w base g n c k l hO hl S hS2 hk1 hk hC
set_option maxRecDepth 100000 in
set_option maxHeartbeats 8000000 in
theorem hadd_t (w : World) (h : Hist) (A : Option Addr) (n c kk : Nat) (rev : Int) (bs : List Bk) (hR : Rs w none 3 Bk.vals A bs) (hl : bs.length = n) (hn : n ≤ 1000) (hr1 : 1 ≤ rev) (hr2 : rev ≤ 1073741824) (hr3 : h.last ≤ rev) (hu0 : 0 ≤ h.runs) (hu1 : h.runs < 1073741824) (hf0 : 0 ≤ h.fail) (hf1 : h.fail < 1073741824) (hkk : h.k = (kk : Int)) (hk1 : 1 ≤ kk) (hk2 : kk ≤ 16) (S : Int) (hS : S ≤ 1000000) (hJ : JIB S (bs ++ [⟨rev, rev, 1⟩]))
    (hCK : ∀ W, Below w.heap.size w W → Calls Try.prog 30 #[.agg #[.string h.pk, .string h.ts, .int .i64 h.env, .int .i64 h.k, .int .i64 h.runs, .int .i64 h.fail, .int .i64 h.last, .slice A n c]] W fun e w' => e = .returned (.bool true) ∧ Below W.heap.size W w') :
    Calls Try.prog 29 #[.agg #[.string h.pk, .string h.ts, .int .i64 h.env, .int .i64 h.k, .int .i64 h.runs, .int .i64 h.fail, .int .i64 h.last, .slice A n c], .int .i64 rev, .bool true] w fun e w' => ∃ A' n' c' l', e = .returned (.tuple #[.agg #[.string h.pk, .string h.ts, .int .i64 h.env, .int .i64 h.k, .int .i64 (h.runs + 1), .int .i64 (h.fail + 1), .int .i64 rev, .slice A' n' c'], .int .i64 0]) ∧ Joins kk (bs ++ [⟨rev, rev, 1⟩]) l' ∧ l'.length = n' ∧ Rs w' none 3 Bk.vals A' l' ∧ (∀ b o, A' = some ⟨b, o, none⟩ → w.heap.size < b) ∧ Below w.heap.size w w' := by
  have HCK := hide hCK
  have HR := hide hR
  have HL := hide hl
  have HJ := hide hJ
  have HKK := hide hkk
  clear hCK hR hl hJ hkk
  have q1 : decide (rev < 1) = false := decide_eq_false (by omega)
  have q2 : decide (1073741824 < rev) = false := decide_eq_false (by omega)
  have q3 : decide (rev < h.last) = false := decide_eq_false (by omega)
  have q4 : (h.runs == 1073741824) = false := by simp; omega
  have q5 : decide (h.runs = 1073741824) = false := decide_eq_false (by omega)
  go_enter Try.func29, Try.ntmps29
  go_upto_region 1 with (fail)
  generalize hW : World.alloc (World.alloc w _) _ = v
  have HC := hide (show Cb v w.heap.size (h.cs A n c) by rw [← hW]; exact (Cb.mk0 (h.cs A n c) (h.cs_nb A n c) _ rfl).alloc _)
  have HZ := hide (show Cb v (w.heap.size + 1) hz8 by rw [← hW]; exact Cb.mk0 hz8 (by simp [hz8]) _ (by simp))
  have HB := hide (show Below w.heap.size w v by rw [← hW]; exact ((Below.refl _ _).alloc (Nat.le_refl _) _).alloc (by simp) _)
  clear hW
  obtain ⟨a0, a1, a2, a3, a4, a5, a6, a7⟩ : _ ∧ _ ∧ _ ∧ _ ∧ _ ∧ _ ∧ _ ∧ _ := ⟨HC.out.cell 0 _ rfl, HC.out.cell 1 _ rfl, HC.out.cell 2 _ rfl, HC.out.cell 3 _ rfl, HC.out.cell 4 _ rfl, HC.out.cell 5 _ rfl, HC.out.cell 6 _ rfl, HC.out.cell 7 _ rfl⟩; have az := HC.out.sz
  go_upto_region 9 with (go_at_call 30; (with_reducible refine (HCK.out _ HB.out).mono ?_); rintro e w1 ⟨rfl, hb⟩; have HC1 := hide (HC.out.below hb); have HZ1 := hide (HZ.out.below hb); have HB1 := hide (HB.out.trans (hb.mono HB.out.size)); clear a0 a1 a2 a3 a4 a5 a6 a7 az; obtain ⟨a0, a1, a2, a3, a4, a5, a6, a7⟩ : _ ∧ _ ∧ _ ∧ _ ∧ _ ∧ _ ∧ _ ∧ _ := ⟨HC1.out.cell 0 _ rfl, HC1.out.cell 1 _ rfl, HC1.out.cell 2 _ rfl, HC1.out.cell 3 _ rfl, HC1.out.cell 4 _ rfl, HC1.out.cell 5 _ rfl, HC1.out.cell 6 _ rfl, HC1.out.cell 7 _ rfl⟩; have az := HC1.out.sz; have af := HC1.out.fz; clear hb)
  go_upto_region 10 with (fail)
  generalize hW : World.setCell (World.setCell w1 _ _) _ _ = v2
  obtain ⟨h', hh'⟩ : ∃ h' : Hist, h' = { h with runs := h.runs + 1, last := rev } := ⟨_, rfl⟩
  have HC2 := hide (show Cb v2 w.heap.size (h'.cs A n c) by rw [← hW, hh']; exact (HC1.out.put 4 (.int .i64 (h.runs + 1)) (by simp [Hist.cs]) (by simp)).put 6 (.int .i64 rev) (by simp [Hist.cs]) (by simp))
  have frp : Fr w1 v2 (fun b => b = w.heap.size) := by rw [← hW]; exact Fr.setCell (Fr.setCell (Fr.refl _ _) (Or.inr (by rfl)) _) (Or.inr (by rfl)) _
  have HZ2 := hide (HZ1.out.one frp (by omega))
  have HB2 := hide (bw_one' HB1.out frp (Nat.le_refl _))
  have HR2 := hide (HR.out.below HB2.out)
  have HH := hide hh'
  have hz2 : w.heap.size + 1 < v2.heap.size := HZ2.out.sz
  clear a0 a1 a2 a3 a4 a5 a6 a7 az
  clear hW hh' frp af
  obtain ⟨a0, a1, a2, a3, a4, a5, a6, a7⟩ : _ ∧ _ ∧ _ ∧ _ ∧ _ ∧ _ ∧ _ ∧ _ := ⟨HC2.out.cell 0 _ rfl, HC2.out.cell 1 _ rfl, HC2.out.cell 2 _ rfl, HC2.out.cell 3 _ rfl, HC2.out.cell 4 _ rfl, HC2.out.cell 5 _ rfl, HC2.out.cell 6 _ rfl, HC2.out.cell 7 _ rfl⟩; have az := HC2.out.sz
  go_upto_region 12 with (first
    | (at_make; refine wl_make _ rfl _ _ _ rfl w.heap.size 81 _ 3 24 Try.underlying24 info81 v2.heap.size n (n + 1) rfl _ _ rfl rfl rfl (by omega) (by omega) rfl (by omega) (by simp only [maxLen]; omega) (by omega) ?_; intro w3 ys hown1 _ hg1; have HOW1 := hide hown1; have HB3 := hide (below_of_grown hg1); have HC3 := hide (HC2.out.below HB3.out); clear a0 a1 a2 a3 a4 a5 a6 a7 az; obtain ⟨a0, a1, a2, a3, a4, a5, a6, a7⟩ : _ ∧ _ ∧ _ ∧ _ ∧ _ ∧ _ ∧ _ ∧ _ := ⟨HC3.out.cell 0 _ rfl, HC3.out.cell 1 _ rfl, HC3.out.cell 2 _ rfl, HC3.out.cell 3 _ rfl, HC3.out.cell 4 _ rfl, HC3.out.cell 5 _ rfl, HC3.out.cell 6 _ rfl, HC3.out.cell 7 _ rfl⟩; have az := HC3.out.sz; clear hown1 hg1)
    | (refine wl_copy _ rfl (.tmp 47) (.tmp 49) 24 24 rfl 81 3 Try.underlying24 size81 w.heap.size v2.heap.size n (n + 1) c ys A rfl rfl HOW1.out bs (HR2.out.below HB3.out) HL.out Bk.len Bk.one ?_; intro w4 hown2 hg2; have HOW2 := hide hown2; have HF4 := hide (fr_of_grown hg2); clear hown2 hg2))
  have HC4 := hide (HC3.out.one HF4.out (by omega))
  have HZ4 := hide ((HZ2.out.below HB3.out).one HF4.out (by omega))
  have HB4 := hide (bw_one' (HB2.out.trans (HB3.out.mono HB2.out.size)) HF4.out (by omega))
  clear a0 a1 a2 a3 a4 a5 a6 a7 az
  obtain ⟨a0, a1, a2, a3, a4, a5, a6, a7⟩ : _ ∧ _ ∧ _ ∧ _ ∧ _ ∧ _ ∧ _ ∧ _ := ⟨HC4.out.cell 0 _ rfl, HC4.out.cell 1 _ rfl, HC4.out.cell 2 _ rfl, HC4.out.cell 3 _ rfl, HC4.out.cell 4 _ rfl, HC4.out.cell 5 _ rfl, HC4.out.cell 6 _ rfl, HC4.out.cell 7 _ rfl⟩; have az := HC4.out.sz
  have af := HC4.out.fz
  have hp0 : 0 ≤ h'.fail := by rw [HH.out]; exact hf0
  have hp1 : h'.fail < 1073741824 := by rw [HH.out]; exact hf1
  go_upto_region 14 with (fail)
  generalize hW : World.setCell w4 _ _ = v5
  obtain ⟨h2, hh2⟩ : ∃ h2 : Hist, h2 = { h' with fail := h'.fail + 1 } := ⟨_, rfl⟩
  have HC5 := hide (show Cb v5 w.heap.size (h2.cs A n c) by rw [← hW, hh2]; exact HC4.out.put 5 (.int .i64 (h'.fail + 1)) (by simp [Hist.cs]) (by simp))
  have frp : Fr w4 v5 (fun b => b = w.heap.size) := by rw [← hW]; exact Fr.setCell (Fr.refl _ _) (Or.inr (by rfl)) _
  have HZ5 := hide (HZ4.out.one frp (by omega))
  have HB5 := hide (bw_one' HB4.out frp (Nat.le_refl _))
  have HOW5 := hide (show v5.ownsRow w.heap.size 81 3 (.slice (some ⟨v2.heap.size, 0, none⟩) n (n + 1)) n (bs.flatMap Bk.vals) by rw [← hW]; exact own_far HOW2.out (by simp [Value.ownBlock]; omega) _)
  have HH2 := hide hh2
  clear a0 a1 a2 a3 a4 a5 a6 a7 az
  clear hW frp af hh2
  obtain ⟨a0, a1, a2, a3, a4, a5, a6, a7⟩ : _ ∧ _ ∧ _ ∧ _ ∧ _ ∧ _ ∧ _ ∧ _ := ⟨HC5.out.cell 0 _ rfl, HC5.out.cell 1 _ rfl, HC5.out.cell 2 _ rfl, HC5.out.cell 3 _ rfl, HC5.out.cell 4 _ rfl, HC5.out.cell 5 _ rfl, HC5.out.cell 6 _ rfl, HC5.out.cell 7 _ rfl⟩; have az := HC5.out.sz
  have hk3 : h2.k = (kk : Int) := by rw [HH2.out, HH.out]; exact HKK.out
  have HK3 := hide hk3
  clear hk3
  have hz5 : w.heap.size ≤ v5.heap.size := HB5.out.size
  have hpx : w.heap.size ≠ v2.heap.size := by omega
  go_region_law (first
    | (refine step_append _ rfl (.tmp 56) (.tmp 60) 24 rfl w.heap.size 81 _ 3 24 Try.underlying24 info81 rfl (by omega) (.slice (some ⟨v2.heap.size, 0, none⟩) n (n + 1)) n bs (by simp [Act.eval, Act.put]) (own_below HOW5.out ((Below.refl _ _).drew.alloc (Nat.le_refl _) _)) _ 1 1 [⟨rev, rev, 1⟩] (by simp [Act.eval, Act.put]) (one_bk _ ⟨rev, rev, 1⟩ _) rfl Bk.len Bk.one (by omega) (by omega) (by simp; omega) ?_; intro A' c' w6 hown6 hgr6 hloc6; obtain ⟨g6, rfl⟩ := own_some hown6; have HAB := hide (ab_of (Y := v2.heap.size) (p := w.heap.size + 1) hloc6 (by simp [Value.ownBlock]) hz2 (by simp; omega)); have HOW6 := hide hown6; have HF6 := hide (fr_of_grown (g := v2.heap.size) hgr6); have HC6 := hide ((HC5.out.below ((Below.refl _ _).drew.alloc (Nat.le_refl _) _)).one (g' := v2.heap.size) HF6.out hpx); clear a0 a1 a2 a3 a4 a5 a6 a7 az; obtain ⟨a0, a1, a2, a3, a4, a5, a6, a7⟩ : _ ∧ _ ∧ _ ∧ _ ∧ _ ∧ _ ∧ _ ∧ _ := ⟨HC6.out.cell 0 _ rfl, HC6.out.cell 1 _ rfl, HC6.out.cell 2 _ rfl, HC6.out.cell 3 _ rfl, HC6.out.cell 4 _ rfl, HC6.out.cell 5 _ rfl, HC6.out.cell 6 _ rfl, HC6.out.cell 7 _ rfl⟩; have az := HC6.out.sz; clear hown6 hgr6 hloc6)
    | (go_simp; (with_reducible refine (hjoin_i w6 w.heap.size g6 (n + 1) c' kk h2.k HK3.out (bs ++ [⟨rev, rev, 1⟩]) HOW6.out (by simp [HL.out]) S hS hk1 hk2 HJ.out).mono ?_); rintro e w7 ⟨n7, l7, rfl, hj, hl7, ho, hf⟩; have HJ7 := hide hj; have HL7 := hide hl7; have HOW7 := hide ho; have HF7 := hide hf; clear hj hl7 ho hf; dsimp only))
  all_goals
    have hg6 : w.heap.size + 1 < g6 := HAB.out g6 0 rfl
    have HC7 := hide (HC6.out.one HF7.out (by omega))
    have HZ7 := hide (((HZ5.out.below ((Below.refl _ _).drew.alloc (Nat.le_refl _) _)).one (g' := v2.heap.size) HF6.out (by omega)).one HF7.out (by omega))
    have HBx := hide (bw_one' (HB5.out.trans (((Below.refl _ _).drew.alloc (Nat.le_refl _) _).mono hz5)) HF6.out (by omega))
    have HBw7 := hide (bw_one' HBx.out HF7.out (by omega))
    have HR7 := hide (show Rs w7 none 3 Bk.vals (some ⟨g6, 0, none⟩) l7 from Rs.of_own HOW7.out Bk.len HL7.out (by simp))
    clear a0 a1 a2 a3 a4 a5 a6 a7 az
    obtain ⟨a0, a1, a2, a3, a4, a5, a6, a7⟩ : _ ∧ _ ∧ _ ∧ _ ∧ _ ∧ _ ∧ _ ∧ _ := ⟨HC7.out.cell 0 _ rfl, HC7.out.cell 1 _ rfl, HC7.out.cell 2 _ rfl, HC7.out.cell 3 _ rfl, HC7.out.cell 4 _ rfl, HC7.out.cell 5 _ rfl, HC7.out.cell 6 _ rfl, HC7.out.cell 7 _ rfl⟩; have az := HC7.out.sz
    have af := HC7.out.fz
    go_upto_region 16 with (fail)
    generalize hW : World.setCell w7 _ _ = v8
    have HC8 := hide (show Cb v8 w.heap.size (h2.cs (some ⟨g6, 0, none⟩) n7 c') by rw [← hW]; exact HC7.out.put 7 (.slice (some ⟨g6, 0, none⟩) n7 c') (by simp [Hist.cs]) (by simp))
    have frp : Fr w7 v8 (fun b => b = w.heap.size) := by rw [← hW]; exact Fr.setCell (Fr.refl _ _) (Or.inr (by rfl)) _
    have HZ8 := hide (HZ7.out.one frp (by omega))
    have HB8 := hide (bw_one' HBw7.out frp (Nat.le_refl _))
    have HR8 := hide (show Rs v8 none 3 Bk.vals (some ⟨g6, 0, none⟩) l7 from HR7.out.fr frp (fun hl b o hA _ => by injection hA with hA; injection hA with hA; omega))
    clear a0 a1 a2 a3 a4 a5 a6 a7 az
    clear hW frp af
    obtain ⟨a0, a1, a2, a3, a4, a5, a6, a7⟩ : _ ∧ _ ∧ _ ∧ _ ∧ _ ∧ _ ∧ _ ∧ _ := ⟨HC8.out.cell 0 _ rfl, HC8.out.cell 1 _ rfl, HC8.out.cell 2 _ rfl, HC8.out.cell 3 _ rfl, HC8.out.cell 4 _ rfl, HC8.out.cell 5 _ rfl, HC8.out.cell 6 _ rfl, HC8.out.cell 7 _ rfl⟩; have az := HC8.out.sz
    obtain ⟨z0, z1, z2, z3, z4, z5, z6, z7⟩ : _ ∧ _ ∧ _ ∧ _ ∧ _ ∧ _ ∧ _ ∧ _ := ⟨HZ8.out.cell 0 _ rfl, HZ8.out.cell 1 _ rfl, HZ8.out.cell 2 _ rfl, HZ8.out.cell 3 _ rfl, HZ8.out.cell 4 _ rfl, HZ8.out.cell 5 _ rfl, HZ8.out.cell 6 _ rfl, HZ8.out.cell 7 _ rfl⟩; have zz := HZ8.out.sz; have zf := HZ8.out.fz
    go_wp2_with fail
    generalize hW : World.setCell (World.setCell (World.setCell (World.setCell (World.setCell (World.setCell (World.setCell (World.setCell v8 _ _) _ _) _ _) _ _) _ _) _ _) _ _) _ _ = v9
    have HZ9 := hide (show Cb v9 (w.heap.size + 1) (h2.cs (some ⟨g6, 0, none⟩) n7 c') by rw [← hW]; exact (((((((HZ8.out.put 0 (.string h2.pk) (by simp [hz8]) (by simp)).put 1 (.string h2.ts) (by simp [hz8]) (by simp)).put 2 (.int .i64 h2.env) (by simp [hz8]) (by simp)).put 3 (.int .i64 h2.k) (by simp [hz8]) (by simp)).put 4 (.int .i64 h2.runs) (by simp [hz8]) (by simp)).put 5 (.int .i64 h2.fail) (by simp [hz8]) (by simp)).put 6 (.int .i64 h2.last) (by simp [hz8]) (by simp)).put 7 (.slice (some ⟨g6, 0, none⟩) n7 c') (by simp [hz8]) (by simp))
    have frp : Fr v8 v9 (fun b => b = w.heap.size + 1) := by rw [← hW]; (iterate 8 (refine Fr.setCell ?_ (Or.inr (by rfl)) _)); exact Fr.refl _ _
    have HB9 := hide (bw_one' HB8.out frp (by omega))
    have HR9 := hide (show Rs v9 none 3 Bk.vals (some ⟨g6, 0, none⟩) l7 from HR8.out.fr frp (fun hl b o hA _ => by injection hA with hA; injection hA with hA; omega))
    clear a0 a1 a2 a3 a4 a5 a6 a7 az
    clear z0 z1 z2 z3 z4 z5 z6 z7 zz zf
    clear hW frp
    obtain ⟨z0, z1, z2, z3, z4, z5, z6, z7⟩ : _ ∧ _ ∧ _ ∧ _ ∧ _ ∧ _ ∧ _ ∧ _ := ⟨HZ9.out.cell 0 _ rfl, HZ9.out.cell 1 _ rfl, HZ9.out.cell 2 _ rfl, HZ9.out.cell 3 _ rfl, HZ9.out.cell 4 _ rfl, HZ9.out.cell 5 _ rfl, HZ9.out.cell 6 _ rfl, HZ9.out.cell 7 _ rfl⟩; have zz := HZ9.out.sz; have zf := HZ9.out.fz
    refine bodyPost_ret (v := .tuple #[.agg #[.string h2.pk, .string h2.ts, .int .i64 h2.env, .int .i64 h2.k, .int .i64 h2.runs, .int .i64 h2.fail, .int .i64 h2.last, .slice (some ⟨g6, 0, none⟩) n7 c'], .int .i64 0]) (by simp [results, Try.results29, go_sem, *]) rfl ⟨_, _, _, l7, by rw [HH2.out, HH.out], HJ7.out, HL7.out, HR9.out, (fun b o hA => by injection hA with hA; injection hA with hA; omega), HB9.out⟩
end Go.Proofs.Ytnofljgmkdommaa

/- Contracts: Add of a good history; the history of outcomes. -/
namespace Go.Proofs.Ytnofljgmkdommaa
open Go.RowKit

theorem kS_of {W : World} {G : Nat} {h' : Hist} {A' : Option Addr} {n' c' : Nat} {P : Prop} (H : Cb W G (h'.cs A' n' c')) (p : P) : (W.cell? ⟨G, 0, none⟩ = some (.string h'.pk) ∧ W.cell? ⟨G, 1, none⟩ = some (.string h'.ts) ∧ W.cell? ⟨G, 2, none⟩ = some (.int .i64 h'.env) ∧ W.cell? ⟨G, 3, none⟩ = some (.int .i64 h'.k) ∧ W.cell? ⟨G, 4, none⟩ = some (.int .i64 h'.runs) ∧ W.cell? ⟨G, 5, none⟩ = some (.int .i64 h'.fail) ∧ W.cell? ⟨G, 6, none⟩ = some (.int .i64 h'.last) ∧ W.cell? ⟨G, 7, none⟩ = some (.slice A' n' c')) ∧ P := ⟨⟨H.cell 0 _ rfl, H.cell 1 _ rfl, H.cell 2 _ rfl, H.cell 3 _ rfl, H.cell 4 _ rfl, H.cell 5 _ rfl, H.cell 6 _ rfl, H.cell 7 _ rfl⟩, p⟩
/-- A good history of R runs, F of which failed. -/
structure Gd (h : Hist) (l : List Bk) (kk F R : Nat) : Prop where
  us : usableB h.pk h.ts = true
  e0 : 0 ≤ h.env
  e1 : h.env ≤ 63
  hk : h.k = (kk : Int)
  k0 : 2 ≤ kk
  k1 : kk ≤ 16
  hf : h.fail = (F : Int)
  hr : h.runs = (R : Int)
  fr : F ≤ R
  rm : R ≤ 1073741824
  l0 : 0 ≤ h.last
  lm : h.last ≤ 1073741824
  lz : h.last = 0 ↔ h.runs = 0
  hl : HL kk (F : Int) h.last l
theorem Gd.ok {h : Hist} {l : List Bk} {kk F R : Nat} (g : Gd h l kk F R) : HP h l := by
  have h1 := g.hk; have h2 := g.hf; have h3 := g.hr; have h4 := g.k0; have h5 := g.k1; have h6 := g.fr; have h7 := g.rm
  refine ⟨g.us, g.e0, g.e1, by omega, by omega, by omega, by omega, by omega, g.l0, g.lm, g.lz, g.hl.ord, ⟨fun b hb => ⟨g.hl.ji.pw b hb, ?_⟩, g.hl.ji.so, fun c => ?_⟩, fun e he => ?_, by rw [h2]; exact g.hl.ji.su⟩
  · have := (g.hl.ji.le hb).2
    omega
  · have := g.hl.up c
    omega
  · have := g.hl.lo e he
    omega
theorem Gd.len {h : Hist} {l : List Bk} {kk F R : Nat} (g : Gd h l kk F R) : l.length ≤ F := by
  have h1 := sumC_len g.hl.ji.pw
  rw [g.hl.ji.su] at h1
  omega
theorem Gd.check {h : Hist} {l : List Bk} {kk F R : Nat} (g : Gd h l kk F R) (hF : F ≤ 1000000) (w : World) (A : Option Addr) (n c : Nat) (hR : Rs w none 3 Bk.vals A l) (hn : l.length = n) (W : World) (hb : Below w.heap.size w W) :
    Calls Try.prog 30 #[.agg #[.string h.pk, .string h.ts, .int .i64 h.env, .int .i64 h.k, .int .i64 h.runs, .int .i64 h.fail, .int .i64 h.last, .slice A n c]] W fun e w' => e = .returned (.bool true) ∧ Below W.heap.size W w' := by
  refine (hcheck_any W h A n c l (hR.below hb) hn (by have := g.len; omega)).mono ?_
  rintro e w' ⟨b, rfl, hq, hb'⟩
  exact ⟨by rw [hq.2 g.ok], hb'⟩
theorem hadd_good (w : World) (h : Hist) (A : Option Addr) (n c : Nat) (l : List Bk) (kk F R : Nat) (rev : Int) (b : Bool) (hR : Rs w none 3 Bk.vals A l) (hn : l.length = n) (g : Gd h l kk F R) (hF : F ≤ 900) (hRR : R < 1073741824) (hr1 : 1 ≤ rev) (hr2 : rev ≤ 1073741824) (hr3 : h.last ≤ rev) :
    Calls Try.prog 29 #[.agg #[.string h.pk, .string h.ts, .int .i64 h.env, .int .i64 h.k, .int .i64 h.runs, .int .i64 h.fail, .int .i64 h.last, .slice A n c], .int .i64 rev, .bool b] w fun e w' => ∃ (h' : Hist) (A' : Option Addr) (n' c' : Nat) (l' : List Bk), e = .returned (.tuple #[.agg #[.string h'.pk, .string h'.ts, .int .i64 h'.env, .int .i64 h'.k, .int .i64 h'.runs, .int .i64 h'.fail, .int .i64 h'.last, .slice A' n' c'], .int .i64 0]) ∧ Gd h' l' kk (F + if b then 1 else 0) (R + 1) ∧ h'.last = rev ∧ l'.length = n' ∧ Rs w' none 3 Bk.vals A' l' ∧ (∀ b o, A' = some ⟨b, o, none⟩ → w.heap.size < b) ∧ Below w.heap.size w w' := by
  have h1 := g.hk; have h2 := g.hf; have h3 := g.hr; have h4 := g.k0; have h5 := g.k1; have h6 := g.fr; have h7 := g.rm
  have hlen := g.len
  cases b with
  | false =>
    refine (hadd_no w h A n c rev l hR hn (by omega) hr1 hr2 hr3 (by omega) (by omega) (fun W hW => g.check (by omega) w A n c hR hn W hW)).mono ?_
    rintro e w' ⟨A', c', rfl, hr, ha, hb⟩
    refine ⟨{ h with runs := h.runs + 1, last := rev }, A', n, c', l, rfl, ⟨g.us, g.e0, g.e1, g.hk, g.k0, g.k1, g.hf, ?_, ?_, by omega, ?_, hr2, ?_, g.hl.stay hr3⟩, rfl, hn, hr, ha, hb⟩
    · show h.runs + 1 = _
      omega
    · show F ≤ R + 1
      omega
    · show 0 ≤ rev
      omega
    · show rev = 0 ↔ h.runs + 1 = 0
      omega
  | true =>
    obtain ⟨p1, p2, p3⟩ := g.hl.app (by omega) hr1 hr3
    refine (hadd_t w h A n c kk rev l hR hn (by omega) hr1 hr2 hr3 (by omega) (by omega) (by omega) (by omega) h1 (by omega) (by omega) _ (by omega) p2 (fun W hW => g.check (by omega) w A n c hR hn W hW)).mono ?_
    rintro e w' ⟨A', n', c', l', rfl, hj, hl', hr, ha, hb⟩
    refine ⟨{ h with runs := h.runs + 1, fail := h.fail + 1, last := rev }, A', n', c', l', rfl, ⟨g.us, g.e0, g.e1, g.hk, g.k0, g.k1, ?_, ?_, ?_, by omega, ?_, hr2, ?_, ?_⟩, rfl, hl', hr, ha, hb⟩
    · show h.fail + 1 = _
      simp
      omega
    · show h.runs + 1 = _
      omega
    · show F + 1 ≤ R + 1
      omega
    · show 0 ≤ rev
      omega
    · show rev = 0 ↔ h.runs + 1 = 0
      omega
    · have := g.hl.next (by omega) hr1 hr3 hj
      exact this
def cntT (bs : List Bool) : Nat := bs.countP id
theorem cntT_snoc {bs : List Bool} {i : Nat} {b : Bool} (h : bs[i]? = some b) : cntT (bs.take (i + 1)) = cntT (bs.take i) + if b then 1 else 0 := by
  unfold cntT
  rw [List.take_add_one, h, List.countP_append]
  cases b <;> simp
def H0 : Hist := ⟨⟨#[112]⟩, ⟨#[116]⟩, 0, 3, 0, 0, 0⟩
theorem H0_gd : Gd H0 [] 3 0 0 := by
  refine ⟨by show usableB ⟨#[112]⟩ ⟨#[116]⟩ = true; decide, by show (0 : Int) ≤ 0; omega, by show (0 : Int) ≤ 63; omega, rfl, by omega, by omega, rfl, rfl, by omega, by omega, by show (0 : Int) ≤ 0; omega, by show (0 : Int) ≤ _; omega, by show (0 : Int) = 0 ↔ (0 : Int) = 0; omega, HL.nil 3 0⟩
set_option maxHeartbeats 800000 in
theorem hnew3 (p t : ByteArray) (x : Int) (w : World) (h1 : usableB p t = true) (h2 : placeB x = true) :
    Calls Try.prog 28 #[.agg #[.string p, .string t], .int .i64 x, .int .i64 3] w fun e w' =>
      e = .returned (.tuple #[.agg #[.string p, .string t, .int .i64 x, .int .i64 3, .int .i64 0, .int .i64 0, .int .i64 0, .slice none 0 0], .int .i64 0]) ∧ Below w.heap.size w w' := by
  have hx : 0 ≤ x ∧ x ≤ 63 := by simpa [placeB] using h2
  obtain ⟨hx1, hx2⟩ := hx
  go_enter Try.func28, Try.ntmps28
  go_wp2_with (go_at_call 49; refine (usable_any p t _).mono ?_; rintro e w1 ⟨rfl, hb1⟩; obtain ⟨hc1, hf1, hz1⟩ := gcell (grown_of_below hb1 none) (w.heap.size + 2) (by first | (simp; done) | (simp; omega)); have : w.heap.size < w1.heap.size := (by omega); have : w.heap.size + 1 < w1.heap.size := (by omega))
  refine bodyPost_ret (v := .tuple #[.agg #[.string p, .string t, .int .i64 x, .int .i64 3, .int .i64 0, .int .i64 0, .int .i64 0, .slice none 0 0], .int .i64 0]) (by simp [results, Try.results28, go_sem, hc1]) rfl ⟨rfl, ?_⟩
  (repeat' refine Below.setCell ?_ (by simp) _)
  exact (((Below.refl _ _).alloc (Nat.le_refl _) _).alloc (by simp) _).trans (hb1.mono (by simp; omega))
set_option maxRecDepth 100000 in
set_option maxHeartbeats 8000000 in
theorem vof28_any (w : World) (A : Option Addr) (n c : Nat) (bs : List Bool) (hR : Rs w none 1 bv A bs) (hn : bs.length = n) (hn2 : n ≤ 300) :
    Calls Try.prog 11 #[.slice A n c] w fun e w' => ∃ (h' : Hist) (A' : Option Addr) (n' c' : Nat) (l' : List Bk), e = .returned (.tuple #[.agg #[.string h'.pk, .string h'.ts, .int .i64 h'.env, .int .i64 h'.k, .int .i64 h'.runs, .int .i64 h'.fail, .int .i64 h'.last, .slice A' n' c'], .int .i64 0]) ∧ Gd h' l' 3 (cntT bs) n ∧ l'.length = n' ∧ Rs w' none 3 Bk.vals A' l' ∧ Below w.heap.size w w' := by
  have HR := hide hR
  have HN := hide hn
  clear hR hn
  go_enter Try.func11, Try.ntmps11
  go_upto_region 1 with (fail)
  generalize hW : World.alloc w _ = v0
  have HZ0 := hide (show Cb v0 w.heap.size hz8 by rw [← hW]; exact Cb.mk0 hz8 (by simp [hz8]) _ rfl)
  have HB0 := hide (show Below w.heap.size w v0 by rw [← hW]; exact (Below.refl _ _).alloc (Nat.le_refl _) _)
  have hv0 : w.heap.size < v0.heap.size := HZ0.out.sz
  clear hW
  go_upto_region 2 with (go_at_call 28; (with_reducible refine (hnew3 ⟨#[112]⟩ ⟨#[116]⟩ 0 _ (by decide) (by decide)).mono ?_); rintro e w1 ⟨rfl, hb⟩; have HB1 := hide hb; clear hb)
  generalize hW : World.alloc w1 _ = v
  have HC := hide (show Cb v w1.heap.size (H0.cs none 0 0) by rw [← hW]; exact Cb.mk0 (H0.cs none 0 0) (H0.cs_nb none 0 0) _ rfl)
  have HZ := hide (show Cb v w.heap.size hz8 by rw [← hW]; exact (HZ0.out.below HB1.out).alloc _)
  have HB := hide (show Below w.heap.size w v by rw [← hW]; exact (HB0.out.trans (HB1.out.mono HB0.out.size)).alloc (Nat.le_trans (Nat.le_of_lt hv0) HB1.out.size) _)
  obtain ⟨G, hG⟩ : ∃ G, G = w1.heap.size := ⟨_, rfl⟩
  have hGw : w.heap.size < G := by rw [hG]; exact Nat.lt_of_lt_of_le hv0 HB1.out.size
  rw [← hG] at HC ⊢
  clear hW hG HB1 HB0 HZ0 hv0
  go_upto_region 3 with (fail)
  go_loopw [5, 6] (fun ev iv wr => ∃ (i n' c' : Nat) (h' : Hist) (A' : Option Addr) (l' : List Bk), ev = .int .i64 0 ∧ iv = .int .i64 (i : Int) ∧ i ≤ n ∧ Hid (Cb wr G (h'.cs A' n' c')) ∧ Hid (Cb wr w.heap.size hz8) ∧ Hid (Rs wr none 3 Bk.vals A' l') ∧ Hid (l'.length = n') ∧ Hid (Gd h' l' 3 (cntT (bs.take i)) i) ∧ Hid (h'.last ≤ (i : Int) / 2 + 1) ∧ Hid (∀ b o, A' = some ⟨b, o, none⟩ → G < b) ∧ Hid (Below w.heap.size w wr)) (fun _ iv _ => n - (intOf iv).toNat)
  case atStart => exact ⟨0, 0, 0, H0, none, [], rfl, rfl, Nat.zero_le _, HC, HZ, hide Rs.nil, hide rfl, hide H0_gd, hide (by show (0 : Int) ≤ _; omega), hide (fun b o h => by cases h), HB⟩
  case round =>
    obtain ⟨i, n', c', h', A', l', rfl, rfl, hi, HCr, HZr, HRr, HNr, HGr, HLr, HAr, HBr⟩ := hrel
    clear HC HZ HB
    by_cases hin : i = n
    · subst hin
      obtain ⟨a0, a1, a2, a3, a4, a5, a6, a7⟩ : _ ∧ _ ∧ _ ∧ _ ∧ _ ∧ _ ∧ _ ∧ _ := ⟨HCr.out.cell 0 _ rfl, HCr.out.cell 1 _ rfl, HCr.out.cell 2 _ rfl, HCr.out.cell 3 _ rfl, HCr.out.cell 4 _ rfl, HCr.out.cell 5 _ rfl, HCr.out.cell 6 _ rfl, HCr.out.cell 7 _ rfl⟩; have az := HCr.out.sz
      obtain ⟨z0, z1, z2, z3, z4, z5, z6, z7⟩ : _ ∧ _ ∧ _ ∧ _ ∧ _ ∧ _ ∧ _ ∧ _ := ⟨HZr.out.cell 0 _ rfl, HZr.out.cell 1 _ rfl, HZr.out.cell 2 _ rfl, HZr.out.cell 3 _ rfl, HZr.out.cell 4 _ rfl, HZr.out.cell 5 _ rfl, HZr.out.cell 6 _ rfl, HZr.out.cell 7 _ rfl⟩; have zz := HZr.out.sz; have zf := HZr.out.fz
      go_wp2_with fail
      generalize hW : World.setCell (World.setCell (World.setCell (World.setCell (World.setCell (World.setCell (World.setCell (World.setCell wr _ _) _ _) _ _) _ _) _ _) _ _) _ _) _ _ = v9
      have HZ9 := hide (show Cb v9 w.heap.size (h'.cs A' n' c') by rw [← hW]; exact (((((((HZr.out.put 0 (.string h'.pk) (by simp [hz8]) (by simp)).put 1 (.string h'.ts) (by simp [hz8]) (by simp)).put 2 (.int .i64 h'.env) (by simp [hz8]) (by simp)).put 3 (.int .i64 h'.k) (by simp [hz8]) (by simp)).put 4 (.int .i64 h'.runs) (by simp [hz8]) (by simp)).put 5 (.int .i64 h'.fail) (by simp [hz8]) (by simp)).put 6 (.int .i64 h'.last) (by simp [hz8]) (by simp)).put 7 (.slice A' n' c') (by simp [hz8]) (by simp))
      have frp : Fr wr v9 (fun b => b = w.heap.size) := by rw [← hW]; (iterate 8 (refine Fr.setCell ?_ (Or.inr (by rfl)) _)); exact Fr.refl _ _
      have HB9 := hide (bw_one' HBr.out frp (Nat.le_refl _))
      have HR9 := hide (show Rs v9 none 3 Bk.vals A' l' from HRr.out.fr frp (fun hl b o hA _ => by have := HAr.out b o hA; omega))
      clear a0 a1 a2 a3 a4 a5 a6 a7 az
      clear z0 z1 z2 z3 z4 z5 z6 z7 zz zf
      clear hW frp
      obtain ⟨z0, z1, z2, z3, z4, z5, z6, z7⟩ : _ ∧ _ ∧ _ ∧ _ ∧ _ ∧ _ ∧ _ ∧ _ := ⟨HZ9.out.cell 0 _ rfl, HZ9.out.cell 1 _ rfl, HZ9.out.cell 2 _ rfl, HZ9.out.cell 3 _ rfl, HZ9.out.cell 4 _ rfl, HZ9.out.cell 5 _ rfl, HZ9.out.cell 6 _ rfl, HZ9.out.cell 7 _ rfl⟩; have zz := HZ9.out.sz; have zf := HZ9.out.fz
      refine bodyPost_ret (v := .tuple #[.agg #[.string h'.pk, .string h'.ts, .int .i64 h'.env, .int .i64 h'.k, .int .i64 h'.runs, .int .i64 h'.fail, .int .i64 h'.last, .slice A' n' c'], .int .i64 0]) (by simp [results, Try.results11, go_sem, *]) rfl ⟨h', A', n', c', l', rfl, by (have := HGr.out; rw [List.take_of_length_le (by rw [HN.out]; exact Nat.le_refl _)] at this; exact this), HNr.out, HR9.out, HB9.out⟩
    · have hi2 : i < n := by omega
      have hi3 : (i : Int) < (n : Int) := by omega
      have hi0 : (0 : Int) ≤ (i : Int) := by omega
      obtain ⟨b, hbb⟩ : ∃ b, bs[i]? = some b := ⟨_, List.getElem?_eq_getElem (by have := HN.out; omega)⟩
      obtain ⟨g, o, rfl, -, hg, hcell⟩ := (HR.out.below HBr.out).at hbb
      have e0 := hcell 0 (.bool b) rfl
      simp only [Nat.mul_one, Nat.add_zero] at e0
      have HBB := hide hbb
      clear hbb hcell
      obtain ⟨rev, hrev⟩ : ∃ rev : Int, rev = (i : Int) / 2 + 1 := ⟨_, rfl⟩
      have hq : IntKind.i64.wrap ((i : Int) / 2 + 1) = rev := by rw [IntWalk.i64_in _ (by omega)]; omega
      have hcnt : cntT (bs.take i) ≤ i := by (have := HGr.out.fr; exact this)
      have HAD := hide (fun (W : World) (hW : Below wr.heap.size wr W) => hadd_good W h' A' n' c' l' 3 (cntT (bs.take i)) i rev b (HRr.out.below hW) HNr.out HGr.out (by omega) (by omega) (by omega) (by omega) (by have := HLr.out; omega))
      have HREV := hide hrev
      clear hrev hcnt
      obtain ⟨a0, a1, a2, a3, a4, a5, a6, a7⟩ : _ ∧ _ ∧ _ ∧ _ ∧ _ ∧ _ ∧ _ ∧ _ := ⟨HCr.out.cell 0 _ rfl, HCr.out.cell 1 _ rfl, HCr.out.cell 2 _ rfl, HCr.out.cell 3 _ rfl, HCr.out.cell 4 _ rfl, HCr.out.cell 5 _ rfl, HCr.out.cell 6 _ rfl, HCr.out.cell 7 _ rfl⟩; have az := HCr.out.sz
      have af := HCr.out.fz
      go_upto_region 5 with (fail)
      have HGZ := hg
      have hb63 : IntKind.i64.wrap ((i : Int) / 2) = (i : Int) / 2 := IntWalk.i64_in _ (by omega)
      go_region_law ((try go_simp); (with_reducible refine (HAD.out _ (by first | exact Below.refl _ _ | exact (Below.refl _ _).drew)).mono ?_); rintro e w2 ⟨h2, A2, n2, c2, l2, rfl, hg, hlast, hn, hr, ha, hb⟩; have HG2 := hide hg; have HL2 := hide hlast; have HN2 := hide hn; have HR2 := hide hr; have HA2 := hide ha; have hb' : Below wr.heap.size wr w2 := (by first | exact hb | exact Below.of_drew hb); have HB2 := hide hb'; have HC2 := hide (HCr.out.below hb'); clear a0 a1 a2 a3 a4 a5 a6 a7 az; clear af; obtain ⟨a0, a1, a2, a3, a4, a5, a6, a7⟩ : _ ∧ _ ∧ _ ∧ _ ∧ _ ∧ _ ∧ _ ∧ _ := ⟨HC2.out.cell 0 _ rfl, HC2.out.cell 1 _ rfl, HC2.out.cell 2 _ rfl, HC2.out.cell 3 _ rfl, HC2.out.cell 4 _ rfl, HC2.out.cell 5 _ rfl, HC2.out.cell 6 _ rfl, HC2.out.cell 7 _ rfl⟩; have az := HC2.out.sz; have af := HC2.out.fz; clear hlast hn hr ha hb hb')
      all_goals
        generalize hW : World.setCell (World.setCell (World.setCell (World.setCell (World.setCell (World.setCell (World.setCell (World.setCell w2 _ _) _ _) _ _) _ _) _ _) _ _) _ _) _ _ = v3
        have HC3 := hide (show Cb v3 G (h2.cs A2 n2 c2) by rw [← hW]; exact (((((((HC2.out.put 0 (.string h2.pk) (by simp [Hist.cs]) (by simp)).put 1 (.string h2.ts) (by simp [Hist.cs]) (by simp)).put 2 (.int .i64 h2.env) (by simp [Hist.cs]) (by simp)).put 3 (.int .i64 h2.k) (by simp [Hist.cs]) (by simp)).put 4 (.int .i64 h2.runs) (by simp [Hist.cs]) (by simp)).put 5 (.int .i64 h2.fail) (by simp [Hist.cs]) (by simp)).put 6 (.int .i64 h2.last) (by simp [Hist.cs]) (by simp)).put 7 (.slice A2 n2 c2) (by simp [Hist.cs]) (by simp))
        have frp : Fr w2 v3 (fun b => b = G) := by rw [← hW]; (iterate 8 (refine Fr.setCell ?_ (Or.inr (by rfl)) _)); exact Fr.refl _ _
        have hGz : G < wr.heap.size := HCr.out.sz
        have HAG := hide (show ∀ b o, A2 = some ⟨b, o, none⟩ → G < b from fun b o h => Nat.lt_of_lt_of_le hGz (Nat.le_of_lt (HA2.out b o h)))
        have HB3 := hide (bw_one' (HBr.out.trans (HB2.out.mono HBr.out.size)) frp (by omega))
        have HZ3 := hide ((HZr.out.below HB2.out).one frp (by omega))
        have HR3 := hide (show Rs v3 none 3 Bk.vals A2 l2 from HR2.out.fr frp (fun hl b o hA _ => by have := HAG.out b o hA; omega))
        have HG3 := hide (show Gd h2 l2 3 (cntT (bs.take (i + 1))) (i + 1) by rw [cntT_snoc HBB.out]; exact HG2.out)
        have HLL := hide (show h2.last ≤ ((i + 1 : Nat) : Int) / 2 + 1 by rw [HL2.out, HREV.out]; omega)
        have hiw : IntKind.i64.wrap ((i : Int) + 1) = (i : Int) + 1 := IntWalk.i64_in _ (by omega)
        clear a0 a1 a2 a3 a4 a5 a6 a7 az
        clear hW frp af hq hb63
        go_wp2_with fail
        go_roundw
        case rel => exact ⟨i + 1, n2, c2, h2, A2, l2, rfl, by go_num, by omega, HC3, HZ3, HR3, HN2, HG3, HLL, HAG, HB3⟩
        case measure => simp [intOf] <;> omega
end Go.Proofs.Ytnofljgmkdommaa

/- Contracts: both Estimates of any history. -/
namespace Go.Proofs.Ytnofljgmkdommaa
open Go.RowKit

theorem estE_ok (F R : Nat) : (some (mkRat ((F + 1 : Nat) : Int) (R + 2)), (0 : Int)) = (some (mkRat ((F + 1 : Nat) : Int) (R + 2)), (0 : Int)) := rfl
set_option maxRecDepth 100000 in
set_option maxHeartbeats 8000000 in
theorem vaest_no (w : World) (h : Hist) (A : Option Addr) (n c : Nat) (hCK : ∀ W, Below w.heap.size w W → Calls Try.prog 30 #[.agg #[.string h.pk, .string h.ts, .int .i64 h.env, .int .i64 h.k, .int .i64 h.runs, .int .i64 h.fail, .int .i64 h.last, .slice A n c]] W fun e w' => e = .returned (.bool false) ∧ Below W.heap.size W w') :
    Calls Try.prog 12 #[.agg #[.string h.pk, .string h.ts, .int .i64 h.env, .int .i64 h.k, .int .i64 h.runs, .int .i64 h.fail, .int .i64 h.last, .slice A n c]] w fun e w' => Ret w (none, 1) e w' := by
  have HCK := hide hCK
  clear hCK
  go_enter Try.func12, Try.ntmps12
  go_upto_region 1 with (fail)
  generalize hW : World.alloc (World.alloc w _) _ = v
  have HC := hide (show Cb v w.heap.size (h.cs A n c) by rw [← hW]; exact (Cb.mk0 (h.cs A n c) (h.cs_nb A n c) _ rfl).alloc _)
  have HRB := hide (show Rb v (w.heap.size + 1) by rw [← hW]; exact Rb.mk0 _ (by simp))
  have HB := hide (show Below w.heap.size w v by rw [← hW]; exact ((Below.refl _ _).alloc (Nat.le_refl _) _).alloc (by simp) _)
  clear hW
  obtain ⟨a0, a1, a2, a3, a4, a5, a6, a7⟩ : _ ∧ _ ∧ _ ∧ _ ∧ _ ∧ _ ∧ _ ∧ _ := ⟨HC.out.cell 0 _ rfl, HC.out.cell 1 _ rfl, HC.out.cell 2 _ rfl, HC.out.cell 3 _ rfl, HC.out.cell 4 _ rfl, HC.out.cell 5 _ rfl, HC.out.cell 6 _ rfl, HC.out.cell 7 _ rfl⟩; have az := HC.out.sz
  go_upto_region 2 with (go_at_call 30; (with_reducible refine (HCK.out _ HB.out).mono ?_); rintro e w1 ⟨rfl, hb⟩; have HC1 := hide (HC.out.below hb); have HR1 := hide (HRB.out.below hb); have HB1 := hide (HB.out.trans (hb.mono HB.out.size)); clear a0 a1 a2 a3 a4 a5 a6 a7 az; obtain ⟨a0, a1, a2, a3, a4, a5, a6, a7⟩ : _ ∧ _ ∧ _ ∧ _ ∧ _ ∧ _ ∧ _ ∧ _ := ⟨HC1.out.cell 0 _ rfl, HC1.out.cell 1 _ rfl, HC1.out.cell 2 _ rfl, HC1.out.cell 3 _ rfl, HC1.out.cell 4 _ rfl, HC1.out.cell 5 _ rfl, HC1.out.cell 6 _ rfl, HC1.out.cell 7 _ rfl⟩; have az := HC1.out.sz; clear hb)
  obtain ⟨s0, s1, sf, sz, -⟩ := HR1.out
  go_wp2_with fail
  refine bodyPost_ret (v := .tuple #[.agg #[.slice fa0.A fa0.n fa0.c, .slice fa0.B fa0.m fa0.d], .int .i64 1]) (by simp [results, Try.results12, go_sem, *]) rfl ⟨fa0, rfl, (Fo.nil _).put2 HR1.out.nb _ _ (by simp), Rb.end0 HB1.out (by omega) _ _⟩
set_option maxRecDepth 100000 in
set_option maxHeartbeats 8000000 in
theorem r28est_no (w : World) (h : Hist) (A : Option Addr) (n c : Nat) (hCK : ∀ W, Below w.heap.size w W → Calls Try.prog 32 #[.agg #[.string h.pk, .string h.ts, .int .i64 h.env, .int .i64 h.k, .int .i64 h.runs, .int .i64 h.fail, .int .i64 h.last, .slice A n c]] W fun e w' => e = .returned (.bool false) ∧ Below W.heap.size W w') :
    Calls Try.prog 13 #[.agg #[.string h.pk, .string h.ts, .int .i64 h.env, .int .i64 h.k, .int .i64 h.runs, .int .i64 h.fail, .int .i64 h.last, .slice A n c]] w fun e w' => Ret w (none, 1) e w' := by
  have HCK := hide hCK
  clear hCK
  go_enter Try.func13, Try.ntmps13
  go_upto_region 1 with (fail)
  generalize hW : World.alloc (World.alloc w _) _ = v
  have HC := hide (show Cb v w.heap.size (h.cs A n c) by rw [← hW]; exact (Cb.mk0 (h.cs A n c) (h.cs_nb A n c) _ rfl).alloc _)
  have HRB := hide (show Rb v (w.heap.size + 1) by rw [← hW]; exact Rb.mk0 _ (by simp))
  have HB := hide (show Below w.heap.size w v by rw [← hW]; exact ((Below.refl _ _).alloc (Nat.le_refl _) _).alloc (by simp) _)
  clear hW
  obtain ⟨a0, a1, a2, a3, a4, a5, a6, a7⟩ : _ ∧ _ ∧ _ ∧ _ ∧ _ ∧ _ ∧ _ ∧ _ := ⟨HC.out.cell 0 _ rfl, HC.out.cell 1 _ rfl, HC.out.cell 2 _ rfl, HC.out.cell 3 _ rfl, HC.out.cell 4 _ rfl, HC.out.cell 5 _ rfl, HC.out.cell 6 _ rfl, HC.out.cell 7 _ rfl⟩; have az := HC.out.sz
  go_upto_region 2 with (go_at_call 32; (with_reducible refine (HCK.out _ HB.out).mono ?_); rintro e w1 ⟨rfl, hb⟩; have HC1 := hide (HC.out.below hb); have HR1 := hide (HRB.out.below hb); have HB1 := hide (HB.out.trans (hb.mono HB.out.size)); clear a0 a1 a2 a3 a4 a5 a6 a7 az; obtain ⟨a0, a1, a2, a3, a4, a5, a6, a7⟩ : _ ∧ _ ∧ _ ∧ _ ∧ _ ∧ _ ∧ _ ∧ _ := ⟨HC1.out.cell 0 _ rfl, HC1.out.cell 1 _ rfl, HC1.out.cell 2 _ rfl, HC1.out.cell 3 _ rfl, HC1.out.cell 4 _ rfl, HC1.out.cell 5 _ rfl, HC1.out.cell 6 _ rfl, HC1.out.cell 7 _ rfl⟩; have az := HC1.out.sz; clear hb)
  obtain ⟨s0, s1, sf, sz, -⟩ := HR1.out
  go_wp2_with fail
  refine bodyPost_ret (v := .tuple #[.agg #[.slice fa0.A fa0.n fa0.c, .slice fa0.B fa0.m fa0.d], .int .i64 1]) (by simp [results, Try.results13, go_sem, *]) rfl ⟨fa0, rfl, (Fo.nil _).put2 HR1.out.nb _ _ (by simp), Rb.end0 HB1.out (by omega) _ _⟩
set_option maxRecDepth 100000 in
set_option maxHeartbeats 8000000 in
theorem r28est_ok (w : World) (h : Hist) (A : Option Addr) (n c : Nat) (F R : Nat) (hF : h.fail = (F : Int)) (hR : h.runs = (R : Int)) (hF2 : F ≤ 1073741824) (hR2 : R ≤ 1073741824)
    (hCK : ∀ W, Below w.heap.size w W → Calls Try.prog 32 #[.agg #[.string h.pk, .string h.ts, .int .i64 h.env, .int .i64 h.k, .int .i64 h.runs, .int .i64 h.fail, .int .i64 h.last, .slice A n c]] W fun e w' => e = .returned (.bool true) ∧ Below W.heap.size W w') :
    Calls Try.prog 13 #[.agg #[.string h.pk, .string h.ts, .int .i64 h.env, .int .i64 h.k, .int .i64 h.runs, .int .i64 h.fail, .int .i64 h.last, .slice A n c]] w fun e w' => Ret w (some (mkRat ((F + 1 : Nat) : Int) (R + 2)), 0) e w' := by
  have HCK := hide hCK
  have HF := hide hF
  have HR := hide hR
  clear hCK hF hR
  go_enter Try.func13, Try.ntmps13
  go_upto_region 1 with (fail)
  generalize hW : World.alloc (World.alloc w _) _ = v
  have HC := hide (show Cb v w.heap.size (h.cs A n c) by rw [← hW]; exact (Cb.mk0 (h.cs A n c) (h.cs_nb A n c) _ rfl).alloc _)
  have HRB := hide (show Rb v (w.heap.size + 1) by rw [← hW]; exact Rb.mk0 _ (by simp))
  have HB := hide (show Below w.heap.size w v by rw [← hW]; exact ((Below.refl _ _).alloc (Nat.le_refl _) _).alloc (by simp) _)
  clear hW
  obtain ⟨a0, a1, a2, a3, a4, a5, a6, a7⟩ : _ ∧ _ ∧ _ ∧ _ ∧ _ ∧ _ ∧ _ ∧ _ := ⟨HC.out.cell 0 _ rfl, HC.out.cell 1 _ rfl, HC.out.cell 2 _ rfl, HC.out.cell 3 _ rfl, HC.out.cell 4 _ rfl, HC.out.cell 5 _ rfl, HC.out.cell 6 _ rfl, HC.out.cell 7 _ rfl⟩; have az := HC.out.sz
  go_upto_region 3 with (go_at_call 32; (with_reducible refine (HCK.out _ HB.out).mono ?_); rintro e w1 ⟨rfl, hb⟩; have HC1 := hide (HC.out.below hb); have HR1 := hide (HRB.out.below hb); have HB1 := hide (HB.out.trans (hb.mono HB.out.size)); clear a0 a1 a2 a3 a4 a5 a6 a7 az; obtain ⟨a0, a1, a2, a3, a4, a5, a6, a7⟩ : _ ∧ _ ∧ _ ∧ _ ∧ _ ∧ _ ∧ _ ∧ _ := ⟨HC1.out.cell 0 _ rfl, HC1.out.cell 1 _ rfl, HC1.out.cell 2 _ rfl, HC1.out.cell 3 _ rfl, HC1.out.cell 4 _ rfl, HC1.out.cell 5 _ rfl, HC1.out.cell 6 _ rfl, HC1.out.cell 7 _ rfl⟩; have az := HC1.out.sz; clear hb)
  rw [HF.out] at a5
  rw [HR.out] at a4
  go_wp2_with (go_at_call 33; (with_reducible refine (rzof_any _ _ _ (F + 1) (R + 2) (by omega) (by omega) (by omega) (by omega) (by omega)).mono ?_); rintro e w2 ⟨q, rfl, ho, hb⟩; have HO := hide ho; have HR2 := hide (HR1.out.below hb); have HB2 := hide (HB1.out.trans (hb.mono HB1.out.size)); obtain ⟨s0, s1, sf, sz, -⟩ := HR2.out; clear ho hb)
  refine bodyPost_ret (v := .tuple #[.agg #[.slice q.A q.n q.c, .slice q.B q.m q.d], .int .i64 0]) (by simp [results, Try.results13, go_sem, *]) rfl ⟨q, rfl, HO.out.put2 HR2.out.nb _ _ (by simp), Rb.end0 HB2.out (by omega) _ _⟩
/-- Both Estimates of one history agree. -/
theorem ests_both (w : World) (h : Hist) (A : Option Addr) (n c : Nat) (l : List Bk) (hR : Rs w none 3 Bk.vals A l) (hn : l.length = n) (hn2 : n ≤ 600) (hwc : ∀ b ∈ l, b.c ≤ 9223372036854775807) :
    ∃ (o : Option Rat) (ee : Int), (∀ W, Below w.heap.size w W → Calls Try.prog 12 #[.agg #[.string h.pk, .string h.ts, .int .i64 h.env, .int .i64 h.k, .int .i64 h.runs, .int .i64 h.fail, .int .i64 h.last, .slice A n c]] W fun e w' => Ret W (o, ee) e w') ∧ (∀ W, Below w.heap.size w W → Calls Try.prog 13 #[.agg #[.string h.pk, .string h.ts, .int .i64 h.env, .int .i64 h.k, .int .i64 h.runs, .int .i64 h.fail, .int .i64 h.last, .slice A n c]] W fun e w' => Ret W (o, ee) e w') := by
  have hc1 : ∀ W, Below w.heap.size w W → Calls Try.prog 30 #[.agg #[.string h.pk, .string h.ts, .int .i64 h.env, .int .i64 h.k, .int .i64 h.runs, .int .i64 h.fail, .int .i64 h.last, .slice A n c]] W fun e w' => RetB W (HP h l) e w' := fun W hW => hcheck_any W h A n c l (hR.below hW) hn (by omega)
  have hc2 : ∀ W, Below w.heap.size w W → Calls Try.prog 32 #[.agg #[.string h.pk, .string h.ts, .int .i64 h.env, .int .i64 h.k, .int .i64 h.runs, .int .i64 h.fail, .int .i64 h.last, .slice A n c]] W fun e w' => RetB W (HP h l) e w' := fun W hW => r21check_any W h A n c l (hR.below hW) hn hn2 hwc
  have tr : ∀ {W U : World}, Below w.heap.size w W → Below W.heap.size W U → Below w.heap.size w U := fun h1 h2 => h1.trans (h2.mono h1.size)
  by_cases hp : HP h l
  · obtain ⟨F, hF⟩ : ∃ F : Nat, h.fail = (F : Int) := ⟨h.fail.toNat, by have := hp.f0; omega⟩
    obtain ⟨R, hRR⟩ : ∃ R : Nat, h.runs = (R : Int) := ⟨h.runs.toNat, by have := hp.f0; have := hp.fr; omega⟩
    have h1 := hp.fr
    have h2 := hp.rm
    refine ⟨_, _, fun W hW => vaest_ok W h A n c F R hF hRR (by omega) (by omega) (fun U hU => (hc1 U (tr hW hU)).mono ?_), fun W hW => r28est_ok W h A n c F R hF hRR (by omega) (by omega) (fun U hU => (hc2 U (tr hW hU)).mono ?_)⟩
    · rintro e w' ⟨b, rfl, hq, hb⟩
      exact ⟨by rw [hq.2 hp], hb⟩
    · rintro e w' ⟨b, rfl, hq, hb⟩
      exact ⟨by rw [hq.2 hp], hb⟩
  · refine ⟨_, _, fun W hW => vaest_no W h A n c (fun U hU => (hc1 U (tr hW hU)).mono ?_), fun W hW => r28est_no W h A n c (fun U hU => (hc2 U (tr hW hU)).mono ?_)⟩
    · rintro e w' ⟨b, rfl, hq, hb⟩
      cases b with
      | false => exact ⟨rfl, hb⟩
      | true => exact absurd (hq.1 rfl) hp
    · rintro e w' ⟨b, rfl, hq, hb⟩
      cases b with
      | false => exact ⟨rfl, hb⟩
      | true => exact absurd (hq.1 rfl) hp
end Go.Proofs.Ytnofljgmkdommaa

/- How long a row is that came in: its bytes are within the form's reach. -/
namespace Go.Proofs.Ytnofljgmkdommaa
open Go.RowKit Go.WideShapes Go.Deep

section
variable {H : Type} {enc : TypeId × Value → H} {w : World} {base : Nat} {spare : Nat → Bool} {held : Bool}
theorem came_len {t e : TypeId} (ht : Try.prog.underlying t = some (.slice e)) {fuel : Nat} {A : Option Addr} {n c : Nat} {x : DataW H × List MemPlace} (h : DataW.trod enc Try.prog w base spare held fuel t [.slice A n c] = some x) :
    n = 0 ∨ ∃ el sp, x.1 = .slice el sp ∧ el.length = n := by
  rcases open_slice ht h with ⟨h2, -⟩ | ⟨a, len, cap, mm, nn, D, Pl, h2, -, h4, h5, h6, h7, -⟩
  · left
    simp at h2
    exact h2.2.1
  · right
    simp at h2
    refine ⟨_, _, by rw [h7], ?_⟩
    rw [List.length_map, List.length_range, h2.2.1]
theorem bytes_tBool : Try.prog.bytesOf 4 = 1 := by kernel_rfl
theorem sized_bools {ts : List TypeId} {ds : List (DataW H)} (h : (DataW.weightsEach Try.prog ts ds).all (· ≤ reachBytes) = true) {j : Nat} (ht : ts[j]? = some 27) {fuel : Nat} {A : Option Addr} {n c : Nat} {x : DataW H × List MemPlace} (hd : ds[j]? = some x.1)
    (hf : DataW.trod enc Try.prog w base spare held fuel 27 [.slice A n c] = some x) : n ≤ 140737488355328 := by
  rcases came_len Try.underlying27 hf with rfl | ⟨el, sp, h1, h2⟩
  · omega
  · rw [h1] at hd
    have h3 := sized_slice h ht hd Try.underlying27
    rw [bytes_tBool] at h3
    have h4 := reachBytes_lt
    omega
end
end Go.Proofs.Ytnofljgmkdommaa

/- What came in: a history. -/
namespace Go.Proofs.Ytnofljgmkdommaa
open Go.RowKit Go.WideShapes Go.Deep

theorem jcells9 : Try.prog.cellsOf 9 = 1 := by kernel_rfl
theorem jcells23 : Try.prog.cellsOf 23 = 2 := by kernel_rfl
theorem jcells81 : Try.prog.cellsOf 81 = 3 := by kernel_rfl
theorem jcells24 : Try.prog.cellsOf 24 = 1 := by kernel_rfl
theorem jcells26 : Try.prog.cellsOf 26 = 8 := by kernel_rfl
theorem bytes81 : Try.prog.bytesOf 81 = 24 := by kernel_rfl
structure CameH (w : World) (A : Option Addr) (n c : Nat) (l : List Bk) : Prop where
  ln : l.length = n
  le : n ≤ c
  lm : c ≤ maxLen
  wc : ∀ b ∈ l, b.c ≤ 9223372036854775807
  rs : Rs w none 3 Bk.vals A l
section
variable {H : Type} {enc : TypeId × Value → H} {w : World} {base : Nat} {spare : Nat → Bool} {held : Bool}
set_option maxRecDepth 20000 in
theorem came_bucket {fuel : Nat} {cs : List Value} {x : DataW H × List MemPlace} (h : DataW.trod enc Try.prog w base spare held fuel 81 cs = some x) : ∃ b : Bk, cs = b.vals ∧ b.c ≤ 9223372036854775807 := by
  obtain ⟨xs, n, _, -, hc, hl, hf⟩ := DataW.trod_struct Try.underlying81 h
  rw [jcells81] at hc
  have hl' : xs.length = 3 := hl
  match cs, hc with
  | [a0, a1, a2], _ =>
    obtain ⟨y0, h0⟩ := jfld hf 0 3 0 1 rfl jcells3 (by omega)
    obtain ⟨y1, h1⟩ := jfld hf 1 3 1 1 rfl jcells3 (by omega)
    obtain ⟨y2, h2⟩ := jfld hf 2 3 2 1 rfl jcells3 (by omega)
    obtain ⟨i0, g0, -⟩ := DataW.trod_int Try.underlying3 h0
    obtain ⟨i1, g1, -⟩ := DataW.trod_int Try.underlying3 h1
    obtain ⟨i2, g2, -, w2⟩ := DataW.trod_int Try.underlying3 h2
    simp at g0 g1 g2
    subst g0 g1 g2
    refine ⟨⟨i0, i1, i2⟩, rfl, ?_⟩
    have e2 : IntKind.i64.max = 9223372036854775807 := by decide
    simp [Lit.wf] at w2
    show i2 ≤ _
    omega
theorem came_buckets {fuel : Nat} {cs : List Value} {x : DataW H × List MemPlace} (h : DataW.trod enc Try.prog w base spare held fuel 24 cs = some x) :
    ∃ (A : Option Addr) (n c : Nat) (l : List Bk), cs = [.slice A n c] ∧ CameH w A n c l := by
  obtain ⟨A, n, c, l, h1, h2, h3, h4, h6, h5⟩ := came_row Bk.vals 3 (fun b => b.c ≤ 9223372036854775807) ⟨0, 0, 0⟩ Try.underlying24 jcells81 (by omega) (fun _ => rfl) (fun n cs x h => came_bucket h) h
  exact ⟨A, n, c, l, h1, ⟨h2, h3, h4, h6, h5⟩⟩
theorem came_jname {fuel : Nat} {a b : Value} {x : DataW H × List MemPlace} (h : DataW.trod enc Try.prog w base spare held fuel 23 [a, b] = some x) : ∃ p q : ByteArray, a = .string p ∧ b = .string q := by
  obtain ⟨xs, n, _, -, -, hl, hf⟩ := DataW.trod_struct Try.underlying23 h
  have hl' : xs.length = 2 := hl
  obtain ⟨y0, h0⟩ := jfld hf 0 9 0 1 rfl jcells9 (by omega)
  obtain ⟨y1, h1⟩ := jfld hf 1 9 1 1 rfl jcells9 (by omega)
  obtain ⟨p, hp, -⟩ := DataW.trod_string Try.underlying9 h0
  obtain ⟨q, hq, -⟩ := DataW.trod_string Try.underlying9 h1
  simp at hp hq
  exact ⟨p, q, hp, hq⟩
set_option maxRecDepth 20000 in
theorem came_history {fuel : Nat} {cs : List Value} {x : DataW H × List MemPlace} (h : DataW.trod enc Try.prog w base spare held fuel 26 cs = some x) :
    ∃ (y : Hist) (A : Option Addr) (n c : Nat) (l : List Bk), cs = [.string y.pk, .string y.ts, .int .i64 y.env, .int .i64 y.k, .int .i64 y.runs, .int .i64 y.fail, .int .i64 y.last, .slice A n c] ∧ CameH w A n c l := by
  obtain ⟨xs, n, _, -, hc, hl, hf⟩ := DataW.trod_struct Try.underlying26 h
  rw [jcells26] at hc
  have hl' : xs.length = 7 := hl
  match cs, hc with
  | [a0, a1, a2, a3, a4, a5, a6, a7], _ =>
    obtain ⟨y0, h0⟩ := jfld hf 0 23 0 2 rfl jcells23 (by omega)
    obtain ⟨y1, h1⟩ := jfld hf 1 3 2 1 rfl jcells3 (by omega)
    obtain ⟨y2, h2⟩ := jfld hf 2 3 3 1 rfl jcells3 (by omega)
    obtain ⟨y3, h3⟩ := jfld hf 3 3 4 1 rfl jcells3 (by omega)
    obtain ⟨y4, h4⟩ := jfld hf 4 3 5 1 rfl jcells3 (by omega)
    obtain ⟨y5, h5⟩ := jfld hf 5 3 6 1 rfl jcells3 (by omega)
    obtain ⟨y6, h6⟩ := jfld hf 6 24 7 1 rfl jcells24 (by omega)
    obtain ⟨p, q, rfl, rfl⟩ := came_jname h0
    obtain ⟨i1, g1, -⟩ := DataW.trod_int Try.underlying3 h1
    obtain ⟨i2, g2, -⟩ := DataW.trod_int Try.underlying3 h2
    obtain ⟨i3, g3, -⟩ := DataW.trod_int Try.underlying3 h3
    obtain ⟨i4, g4, -⟩ := DataW.trod_int Try.underlying3 h4
    obtain ⟨i5, g5, -⟩ := DataW.trod_int Try.underlying3 h5
    obtain ⟨A, n', c, l, g6, hC⟩ := came_buckets h6
    simp at g1 g2 g3 g4 g5 g6
    subst g1 g2 g3 g4 g5 g6
    exact ⟨⟨p, q, i1, i2, i3, i4, i5⟩, A, n', c, l, rfl, hC⟩
set_option maxRecDepth 20000 in
theorem sized_history {ts : List TypeId} {ds : List (DataW H)} (h : (DataW.weightsEach Try.prog ts ds).all (· ≤ reachBytes) = true) {j : Nat} (ht : ts[j]? = some 26) {fuel : Nat} {a0 a1 a2 a3 a4 a5 a6 : Value} {A : Option Addr} {n c : Nat} {x : DataW H × List MemPlace} (hd : ds[j]? = some x.1)
    (hf : DataW.trod enc Try.prog w base spare held fuel 26 [a0, a1, a2, a3, a4, a5, a6, .slice A n c] = some x) : n ≤ 140737488355328 := by
  obtain ⟨xs, m, _, hx, hc, hl, hff⟩ := DataW.trod_struct Try.underlying26 hf
  have hl' : xs.length = 7 := hl
  have h6 := hff 6 _ rfl
  rw [List.getElem?_eq_getElem (show 6 < xs.length by omega)] at h6
  have h7 : DataW.trod enc Try.prog w base spare held m 24 [.slice A n c] = some xs[6] := h6
  rcases came_len Try.underlying24 h7 with rfl | ⟨el, sp, h1, h2⟩
  · omega
  · have hin : (el.length + sp.length) * Try.prog.bytesOf 81 ∈ DataW.weightsEach Try.prog ts ds := by
      refine DataW.weights_mem_each ht hd _ ?_
      rw [hx]
      show _ ∈ DataW.weights Try.prog 26 (.agg (xs.map (·.1)))
      unfold DataW.weights
      rw [Try.underlying26]
      refine DataW.weights_mem_each (j := 6) (t := 24) (d := xs[6].1) rfl (by rw [List.getElem?_map, List.getElem?_eq_getElem (show 6 < xs.length by omega)]; rfl) _ ?_
      rw [h1]
      unfold DataW.weights
      rw [Try.underlying24]
      simp
    have h3 := List.all_eq_true.1 h _ hin
    rw [bytes81] at h3
    have h4 := reachBytes_lt
    simp at h3
    omega
end
end Go.Proofs.Ytnofljgmkdommaa

/- The law ValueEstimates. -/
namespace Go.Proofs.Ytnofljgmkdommaa
open Go.RowKit

/-- Two histories behind each other in one block. -/
def Two8 (v : World) (K : Nat) (a b : List Value) : Prop := (∀ j u, a[j]? = some u → v.cell? ⟨K, 0 * 8 + j, none⟩ = some u) ∧ (∀ j u, b[j]? = some u → v.cell? ⟨K, 1 * 8 + j, none⟩ = some u) ∧ K < v.heap.size
theorem two8_mk (w : World) (h h1 : Hist) (A A1 : Option Addr) (n c n1 c1 : Nat) (t : TypeId) {K : Nat} (hK : K = w.heap.size) : Two8 (w.alloc (.cells (h.cs A n c ++ h1.cs A1 n1 c1).toArray t)) K (h.cs A n c) (h1.cs A1 n1 c1) := by
  subst hK
  refine ⟨fun j u hu => ?_, fun j u hu => ?_, by simp⟩
  · have hj := (List.getElem?_eq_some_iff.1 hu).1
    rw [World.cell?_alloc_new, Nat.zero_mul, Nat.zero_add]
    simp [List.getElem?_append_left hj, hu]
  · have hl : (h.cs A n c).length = 8 := rfl
    rw [World.cell?_alloc_new]
    simp only [Nat.one_mul]
    simp [List.getElem?_append, hl, hu]
theorem gd_wc {h : Hist} {l : List Bk} {kk F R : Nat} (g : Gd h l kk F R) (hF : F ≤ 1000000) : ∀ b ∈ l, b.c ≤ 9223372036854775807 := fun b hb => by have := (g.hl.ji.le hb).2; omega
set_option maxRecDepth 100000 in
set_option maxHeartbeats 16000000 in
theorem vaests28_walk (w : World) (h : Hist) (A : Option Addr) (n c : Nat) (l : List Bk) (B : Option Addr) (m d : Nat) (bs : List Bool) (hR : Rs w none 3 Bk.vals A l) (hn : l.length = n) (hwc : ∀ b ∈ l, b.c ≤ 9223372036854775807) (hn47 : n ≤ 140737488355328) (hB : Rs w none 1 bv B bs) (hm : bs.length = m) (hm47 : m ≤ 140737488355328) :
    Calls Try.prog 3 #[.agg #[.string h.pk, .string h.ts, .int .i64 h.env, .int .i64 h.k, .int .i64 h.runs, .int .i64 h.fail, .int .i64 h.last, .slice A n c], .slice B m d] w fun e w' => e = .returned (.bool true) ∧ Below w.heap.size w w' := by
  have HR := hide hR
  have HN := hide hn
  have HWC := hide hwc
  have HBS := hide hB
  have HM := hide hm
  clear hR hn hwc hB hm
  have hsum : IntKind.i64.wrap ((n : Int) + (m : Int)) = (n : Int) + (m : Int) := IntWalk.i64_in _ (by omega)
  go_enter Try.func3, Try.ntmps3
  go_upto_region 1 with (fail)
  generalize hW : World.alloc w _ = v
  have HC := hide (show Cb v w.heap.size (h.cs A n c) by rw [← hW]; exact Cb.mk0 (h.cs A n c) (h.cs_nb A n c) _ rfl)
  have HB := hide (show Below w.heap.size w v by rw [← hW]; exact (Below.refl _ _).alloc (Nat.le_refl _) _)
  clear hW
  obtain ⟨a0, a1, a2, a3, a4, a5, a6, a7⟩ : _ ∧ _ ∧ _ ∧ _ ∧ _ ∧ _ ∧ _ ∧ _ := ⟨HC.out.cell 0 _ rfl, HC.out.cell 1 _ rfl, HC.out.cell 2 _ rfl, HC.out.cell 3 _ rfl, HC.out.cell 4 _ rfl, HC.out.cell 5 _ rfl, HC.out.cell 6 _ rfl, HC.out.cell 7 _ rfl⟩; have az := HC.out.sz
  by_cases hbig : 300 < n + m
  · have q0 : decide (300 < (n : Int) + (m : Int)) = true := decide_eq_true (by omega)
    have q1 : 300 < (n : Int) + (m : Int) := by omega
    go_wp2_with (go_at_call 10; (with_reducible refine (vknown28_any _).mono ?_); rintro e w1 ⟨rfl, hb⟩; have HB1 := hide (HB.out.trans (hb.mono HB.out.size)); clear hb)
    refine bodyPost_ret (v := .bool true) (by simp [results, Try.results3, go_sem, *]) rfl ⟨rfl, HB1.out⟩
  · have q0 : decide (300 < (n : Int) + (m : Int)) = false := decide_eq_false (by omega)
    have q1 : ¬ 300 < (n : Int) + (m : Int) := by omega
    have hm3 : m ≤ 300 := by omega
    have hn3 : n ≤ 600 := by omega
    go_upto_region 3 with (fail)
    clear q0 q1 hsum hbig
    clear a0 a1 a2 a3 a4 a5 a6 a7 az
    go_upto_region 4 with (go_at_call 11; (with_reducible refine (vof28_any _ B m d bs (HBS.out.below HB.out) HM.out hm3).mono ?_); rintro e w1 ⟨h1, A1, n1, c1, l1, rfl, hg, hn1, hr, hb⟩; have HG1 := hide hg; have HN1 := hide hn1; have HR1 := hide hr; have HC1 := hide (HC.out.below hb); have HB1 := hide (HB.out.trans (hb.mono HB.out.size)); clear hg hn1 hr hb)
    generalize hW : World.alloc w1 _ = v2
    have HC2 := hide (show Cb v2 w.heap.size (h.cs A n c) by rw [← hW]; exact HC1.out.alloc _)
    have HX2 := hide (show Cb v2 w1.heap.size (h1.cs A1 n1 c1) by rw [← hW]; exact Cb.mk0 (h1.cs A1 n1 c1) (h1.cs_nb A1 n1 c1) _ rfl)
    have HR2 := hide (show Rs v2 none 3 Bk.vals A1 l1 by rw [← hW]; exact HR1.out.alloc _)
    have HB2 := hide (show Below w.heap.size w v2 by rw [← hW]; exact HB1.out.alloc HB1.out.size _)
    obtain ⟨G, hG⟩ : ∃ G, G = w1.heap.size := ⟨_, rfl⟩
    rw [← hG] at HX2 ⊢
    clear hW hG HC1 HR1 HB1 HC HB
    obtain ⟨a0, a1, a2, a3, a4, a5, a6, a7⟩ : _ ∧ _ ∧ _ ∧ _ ∧ _ ∧ _ ∧ _ ∧ _ := ⟨HC2.out.cell 0 _ rfl, HC2.out.cell 1 _ rfl, HC2.out.cell 2 _ rfl, HC2.out.cell 3 _ rfl, HC2.out.cell 4 _ rfl, HC2.out.cell 5 _ rfl, HC2.out.cell 6 _ rfl, HC2.out.cell 7 _ rfl⟩; have az := HC2.out.sz
    obtain ⟨b0, b1, b2, b3, b4, b5, b6, b7⟩ : _ ∧ _ ∧ _ ∧ _ ∧ _ ∧ _ ∧ _ ∧ _ := ⟨HX2.out.cell 0 _ rfl, HX2.out.cell 1 _ rfl, HX2.out.cell 2 _ rfl, HX2.out.cell 3 _ rfl, HX2.out.cell 4 _ rfl, HX2.out.cell 5 _ rfl, HX2.out.cell 6 _ rfl, HX2.out.cell 7 _ rfl⟩
    go_upto_region 7 with (fail)
    generalize hW : World.alloc v2 _ = v3
    have HT := hide (show Two8 v3 v2.heap.size (h.cs A n c) (h1.cs A1 n1 c1) by rw [← hW]; exact two8_mk v2 h h1 A A1 n c n1 c1 _ rfl)
    have HR3 := hide (show Rs v3 none 3 Bk.vals A1 l1 by rw [← hW]; exact HR2.out.alloc _)
    have HB3 := hide (show Below w.heap.size w v3 by rw [← hW]; exact HB2.out.alloc HB2.out.size _)
    have HR0 := hide (HR.out.below HB3.out)
    obtain ⟨K, hK⟩ : ∃ K, K = v2.heap.size := ⟨_, rfl⟩
    rw [← hK] at HT ⊢
    clear a0 a1 a2 a3 a4 a5 a6 a7 az
    clear b0 b1 b2 b3 b4 b5 b6 b7 hW hK HC2 HX2 HR2 HB2
    go_loopw [32] (fun iv' wr => ∃ (k : Nat), iv' = .int .i64 (k : Int) ∧ k ≤ 2 ∧ Hid (Below v3.heap.size v3 wr)) (fun iv' _ => 2 - (intOf iv').toNat)
    case atStart => exact ⟨0, rfl, by omega, hide (Below.refl _ _)⟩
    case round =>
      obtain ⟨k, rfl, hk, HBr⟩ := hrel
      have HBw := hide (HB3.out.trans (HBr.out.mono HB3.out.size))
      by_cases hk2 : k = 2
      · subst hk2
        go_wp2_with (go_at_call 10; (with_reducible refine (vknown28_any _).mono ?_); rintro e w1 ⟨rfl, hb⟩; have HB1 := hide (HBw.out.trans (hb.mono HBw.out.size)); clear hb)
        refine bodyPost_ret (v := .bool true) (by simp [results, Try.results3, go_sem, *]) rfl ⟨rfl, HB1.out⟩
      · obtain ⟨y, A5, n5, c5, l5, hcy, hry, hny, hny6, hwy⟩ : ∃ (y : Hist) (A5 : Option Addr) (n5 c5 : Nat) (l5 : List Bk), (∀ j u, (y.cs A5 n5 c5)[j]? = some u → wr.cell? ⟨K, k * 8 + j, none⟩ = some u) ∧ Rs wr none 3 Bk.vals A5 l5 ∧ l5.length = n5 ∧ n5 ≤ 600 ∧ ∀ b ∈ l5, b.c ≤ 9223372036854775807 := by
          rcases (show k = 0 ∨ k = 1 by omega) with rfl | rfl
          · exact ⟨h, A, n, c, l, fun j u hu => (HBr.out.cell (p := ⟨K, 0 * 8 + j, none⟩) (by exact HT.out.2.2)).trans (HT.out.1 j u hu), HR0.out.below HBr.out, HN.out, hn3, HWC.out⟩
          · exact ⟨h1, A1, n1, c1, l1, fun j u hu => (HBr.out.cell (p := ⟨K, 1 * 8 + j, none⟩) (by exact HT.out.2.2)).trans (HT.out.2.1 j u hu), HR3.out.below HBr.out, HN1.out, by have h1 := HG1.out.len; have h2 := HG1.out.fr; have h3 := HN1.out; omega, gd_wc HG1.out (by have := HG1.out.fr; omega)⟩
        have hKz : K < wr.heap.size := Nat.lt_of_lt_of_le HT.out.2.2 HBr.out.size
        obtain ⟨a0, a1, a2, a3, a4, a5, a6, a7⟩ : _ ∧ _ ∧ _ ∧ _ ∧ _ ∧ _ ∧ _ ∧ _ := ⟨hcy 0 _ rfl, hcy 1 _ rfl, hcy 2 _ rfl, hcy 3 _ rfl, hcy 4 _ rfl, hcy 5 _ rfl, hcy 6 _ rfl, hcy 7 _ rfl⟩
        simp only [Nat.add_zero] at a0
        have HRY := hide hry
        have HNY := hide hny
        have HWY := hide hwy
        have hlt : (k : Int) < 2 := by omega
        have hk0 : (0 : Int) ≤ (k : Int) := by omega
        have hkn : k < 2 := by omega
        clear hcy hry hny hwy
        go_upto_region 9 with (fail)
        generalize hW : World.alloc wr _ = v4
        have HC4 := hide (show Cb v4 wr.heap.size (y.cs A5 n5 c5) by rw [← hW]; exact Cb.mk0 (y.cs A5 n5 c5) (y.cs_nb A5 n5 c5) _ rfl)
        have HR4 := hide (show Rs v4 none 3 Bk.vals A5 l5 by rw [← hW]; exact HRY.out.alloc _)
        have HB4 := hide (show Below v3.heap.size v3 v4 by rw [← hW]; exact HBr.out.alloc HBr.out.size _)
        obtain ⟨Y, hY⟩ : ∃ Y, Y = wr.heap.size := ⟨_, rfl⟩
        rw [← hY] at HC4 ⊢
        clear a0 a1 a2 a3 a4 a5 a6 a7 hW hY hKz
        obtain ⟨a0, a1, a2, a3, a4, a5, a6, a7⟩ : _ ∧ _ ∧ _ ∧ _ ∧ _ ∧ _ ∧ _ ∧ _ := ⟨HC4.out.cell 0 _ rfl, HC4.out.cell 1 _ rfl, HC4.out.cell 2 _ rfl, HC4.out.cell 3 _ rfl, HC4.out.cell 4 _ rfl, HC4.out.cell 5 _ rfl, HC4.out.cell 6 _ rfl, HC4.out.cell 7 _ rfl⟩; have az := HC4.out.sz
        obtain ⟨o, ee, hE, hF⟩ := ests_both v4 y A5 n5 c5 l5 HR4.out HNY.out hny6 HWY.out
        have HE := hide hE
        have HF := hide hF
        clear hE hF
        go_upto_region 10 with (go_at_call 12; (with_reducible refine (HE.out _ (Below.refl _ _)).mono ?_); rintro e w5 ⟨q1, rfl, ho, hb⟩; dsimp only at ho ⊢; have HO1 := hide ho; have HB5 := hide hb; clear ho hb)
        generalize hW : World.alloc w5 _ = v5
        have HQ5 := hide (show Bq v5 w5.heap.size q1 by rw [← hW]; exact Bq.mk0 _ q1 rfl)
        have HO5 := hide (show Fo v5 q1 o by rw [← hW]; exact HO1.out.alloc _)
        have HB6 := hide (show Below v4.heap.size v4 v5 by rw [← hW]; exact HB5.out.alloc HB5.out.size _)
        have HC5 := hide (HC4.out.below HB6.out)
        obtain ⟨g9, hg9⟩ : ∃ g, g = w5.heap.size := ⟨_, rfl⟩
        rw [← hg9] at HQ5 ⊢
        clear a0 a1 a2 a3 a4 a5 a6 a7 az
        obtain ⟨a0, a1, a2, a3, a4, a5, a6, a7⟩ : _ ∧ _ ∧ _ ∧ _ ∧ _ ∧ _ ∧ _ ∧ _ := ⟨HC5.out.cell 0 _ rfl, HC5.out.cell 1 _ rfl, HC5.out.cell 2 _ rfl, HC5.out.cell 3 _ rfl, HC5.out.cell 4 _ rfl, HC5.out.cell 5 _ rfl, HC5.out.cell 6 _ rfl, HC5.out.cell 7 _ rfl⟩; have az := HC5.out.sz
        clear hW hg9 HO1 HB5
        go_upto_region 11 with (go_at_call 13; (with_reducible refine (HF.out _ HB6.out).mono ?_); rintro e w6 ⟨q2, rfl, ho, hb⟩; dsimp only at ho ⊢; have HO2 := hide ho; have HB7 := hide hb; clear ho hb)
        generalize hW : World.alloc w6 _ = v6
        have HQ6 := hide (show Bq v6 w6.heap.size q2 by rw [← hW]; exact Bq.mk0 _ q2 rfl)
        have HO6 := hide (show Fo v6 q2 o by rw [← hW]; exact HO2.out.alloc _)
        have HQ7 := hide (show Bq v6 g9 q1 by rw [← hW]; exact (HQ5.out.below HB7.out).alloc _)
        have HO7 := hide (show Fo v6 q1 o by rw [← hW]; exact (HO5.out.below HB7.out).alloc _)
        have HB8 := hide (show Below v3.heap.size v3 v6 by rw [← hW]; exact ((HB4.out.trans (HB6.out.mono HB4.out.size)).trans (HB7.out.mono (Nat.le_trans HB4.out.size HB6.out.size))).alloc (Nat.le_trans HB4.out.size (Nat.le_trans HB6.out.size HB7.out.size)) _)
        obtain ⟨g11, hg11⟩ : ∃ g, g = w6.heap.size := ⟨_, rfl⟩
        rw [← hg11] at HQ6 ⊢
        clear a0 a1 a2 a3 a4 a5 a6 a7 az
        clear hW hg11 HO2 HB7 HQ5 HO5 HE HF
        obtain ⟨y0, y1, -, yz, -⟩ := HQ6.out
        obtain ⟨z0, z1, -, zz, -⟩ := HQ7.out
        go_wp2_with (go_at_call 14; (with_reducible refine (samefrac_eq _ q1 q2 o HO7.out HO6.out).mono ?_); rintro e w9 ⟨rfl, hb⟩; have HB9 := hide (HB8.out.trans (hb.mono HB8.out.size)); clear hb)
        go_roundw
        case rel => exact ⟨k + 1, by go_num, by omega, HB9⟩
        case measure => simp [intOf] <;> omega
end Go.Proofs.Ytnofljgmkdommaa
