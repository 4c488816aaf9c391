/- Contracts of the functions that these laws reach: part 11: Contracts: noise.row; A region that draws its order, its first operations in whatever order: one step for each operation, not one way for each order. -/
import Derived.Test.YtnofljgmkdommaaG10
import Derived.Deep.MidRow
import Derived.Test.YtnofljgmkdommaaG1
set_option linter.unusedVariables false
set_option linter.unusedSimpArgs false

/- Contracts: noise.row. -/
namespace Go.Proofs.Ytnofljgmkdommaa
open Go.RowKit

/-- The block g holds the 33 numbers F. -/
structure Rw (v : World) (g : Nat) (F : Nat → Nat) : Prop where
  c : ∀ j, j < 33 → v.cell? ⟨g, j, none⟩ = some (.int .u64 (F j : Int))
  fz : ∀ j, v.frozen? ⟨g, j, none⟩ = false
  sz : g < v.heap.size
theorem Rw.put {v : World} {g : Nat} {F G : Nat → Nat} (h : Rw v g F) {k : Nat} (hk : k < 33) (hG : ∀ j, j ≠ k → G j = F j) {x : Int} (hx : x = (G k : Int)) : Rw (v.setCell ⟨g, k, none⟩ (.int .u64 x)) g G := by
  subst hx
  refine ⟨fun j hj => ?_, fun j => by have := h.fz j; simp [go_sem, *], by have := h.sz; simpa using this⟩
  by_cases e : j = k
  · subst e
    exact World.cell?_setCell_same _ _ _ (h.c j hk)
  · rw [World.cell?_setCell_other _ _ _ _ (by intro h; injection h; omega), hG j e]
    exact h.c j hj
theorem Rw.congr {v : World} {g : Nat} {F G : Nat → Nat} (h : Rw v g F) (hG : ∀ j, G j = F j) : Rw v g G := ⟨fun j hj => by rw [hG]; exact h.c j hj, h.fz, h.sz⟩
def rowCells (n : Nat) : List Value := (List.range 33).map fun j => .int .u64 (ch n j : Int)
theorem rowCells_len (n : Nat) : (rowCells n).length = 33 := by simp [rowCells]
theorem rowCells_one (n : Nat) : ∀ v ∈ rowCells n, v.oneCell' = true := by
  intro v hv
  simp only [rowCells, List.mem_map] at hv
  obtain ⟨j, -, rfl⟩ := hv
  rfl
theorem rowCells_get {n j : Nat} (hj : j < 33) : (rowCells n)[j]? = some (.int .u64 (ch n j : Int)) := by
  simp [rowCells, hj]
theorem Rw.range {v : World} {g n : Nat} (h : Rw v g (ch n)) : v.rangeAt g 0 (rowCells n) := by
  intro j x hx
  have hj : j < 33 := by
    have := (List.getElem?_eq_some_iff.1 hx).1
    rwa [rowCells_len] at this
  rw [rowCells_get hj] at hx
  injection hx with hx
  rw [Nat.zero_add, ← hx]
  exact h.c j hj
theorem ch_succ (i k : Nat) : ch (i + 1) (k + 1) = ch i (k + 1) + ch i k := by show ch i k + ch i (k + 1) = _; omega
theorem below_cells {B g : Nat} {w : World} (hg : B ≤ g) : ∀ (vs : List Value) (o : Nat) {v : World}, Below B w v → Below B w (v.setCells g o vs)
  | [], _, _, h => h
  | _ :: vs, o, _, h => below_cells hg vs (o + 1) (h.setCell (by exact hg) _)
/-- A row in the making: beyond j the numbers of i + 1, up to j those of i. -/
def mixC (i j : Nat) (p : Nat) : Nat := if j < p then ch (i + 1) p else ch i p
theorem mixC_top (i p : Nat) : mixC i (i + 1) p = ch i p := by
  unfold mixC
  split
  · rw [ch_over (by omega), ch_over (by omega)]
  · rfl
theorem mixC_step {k m i : Nat} (hi : i ≠ m + 1) : mixC k m i = mixC k (m + 1) i := by
  unfold mixC
  by_cases h : m + 1 < i
  · rw [if_pos h, if_pos (by omega)]
  · rw [if_neg h, if_neg (by omega)]
theorem mixC_end (i p : Nat) : mixC i 0 p = ch (i + 1) p := by
  unfold mixC
  split
  · rfl
  · obtain rfl : p = 0 := by omega
    rw [ch_zero, ch_zero]
abbrev z33 : List Value := [.int .u64 0, .int .u64 0, .int .u64 0, .int .u64 0, .int .u64 0, .int .u64 0, .int .u64 0, .int .u64 0, .int .u64 0, .int .u64 0, .int .u64 0, .int .u64 0, .int .u64 0, .int .u64 0, .int .u64 0, .int .u64 0, .int .u64 0, .int .u64 0, .int .u64 0, .int .u64 0, .int .u64 0, .int .u64 0, .int .u64 0, .int .u64 0, .int .u64 0, .int .u64 0, .int .u64 0, .int .u64 0, .int .u64 0, .int .u64 0, .int .u64 0, .int .u64 0, .int .u64 0]
theorem zero33 {j : Nat} (hj : j < 33) : z33[j]? = some (.int .u64 0) := by
  have : z33 = List.replicate 33 (.int .u64 0) := rfl
  rw [this, List.getElem?_replicate, if_pos hj]
theorem Rw.mk0 (w : World) (t : TypeId) {g : Nat} (hg : g = w.heap.size) : Rw (w.alloc (.cells ⟨z33⟩ t)) g (fun _ => 0) := by
  subst hg
  refine ⟨fun j hj => ?_, fun j => by simp [go_sem], by simp⟩
  have h := zero33 hj
  simp only [go_sem, if_pos, List.getElem?_toArray]
  exact h
theorem Rw.below {v v' : World} {g : Nat} {F : Nat → Nat} (h : Rw v g F) (hb : Below v.heap.size v v') : Rw v' g F := by
  have h1 := h.sz
  refine ⟨fun j hj => ?_, fun j => ?_, Nat.lt_of_lt_of_le h.sz hb.size⟩
  · rw [hb.cell (by simp; omega)]; exact h.c j hj
  · rw [hb.frozen (by simp; omega)]; exact h.fz j
theorem Rw.alloc {v : World} {g : Nat} {F : Nat → Nat} (h : Rw v g F) (o : Obj) : Rw (v.alloc o) g F := h.below ((Below.refl _ _).alloc (Nat.le_refl _) _)
theorem Rw.drew {v : World} {g : Nat} {F : Nat → Nat} (h : Rw v g F) : Rw v.drew g F := ⟨h.c, h.fz, h.sz⟩
theorem Rw.far {v : World} {g g' : Nat} {F : Nat → Nat} (h : Rw v g F) (hg : g' ≠ g) (k : Nat) (x : Value) : Rw (v.setCell ⟨g', k, none⟩ x) g F := by
  refine ⟨fun j hj => ?_, fun j => by have := h.fz j; simp [go_sem, *], by have := h.sz; simpa using this⟩
  rw [World.cell?_setCell_other _ _ _ _ (by intro h; injection h; omega)]
  exact h.c j hj
theorem Rw.there {v : World} {g : Nat} {F : Nat → Nat} (h : Rw v g F) : v.there g 0 33 := fun j hj => by
  rw [Nat.zero_add, h.c j hj]
  exact ⟨rfl, h.fz j⟩
/-- The one result lies in a cell. -/
theorem results_cell {P : Program} {fn : Func} {a : Nat} {t : TypeId} (h : fn.results = #[.cell a t]) {tmps : Array Value} {p : Addr} (hp : tmps.getD a undef = .pointer (some p)) {w : World} {v : Value}
    (hl : (loadVar t p).run P w = .ok v w) : (results fn tmps).run P w = .ok v w := by
  have hp' : tmps[a]?.getD undef = .pointer (some p) := by simpa using hp
  simp [results, h, hp', asAddr, Sem.run_bind, Sem.run_pure, Result.andThen_ok, hl]
end Go.Proofs.Ytnofljgmkdommaa

/- A region that draws its order, its first operations in whatever order: one step for each operation, not one way for each order. -/
namespace Go.Proofs.Ytnofljgmkdommaa
open Go.RowKit

section
variable {P : Program} {md : Region.Mode} {ops : Array Oper} {Q : Exit → Act → World → Prop}

/-- What has come up: those of a list, and none of the rest. -/
def lst (ops : Array Oper) (l : List Bool) : Array Bool := (l ++ List.replicate (ops.size - l.length) false).toArray
def masks : Nat → List (List Bool)
  | 0 => [[]]
  | n + 1 => (masks n).flatMap fun l => [true :: l, false :: l]
theorem mem_masks : ∀ l : List Bool, l ∈ masks l.length
  | [] => by simp [masks]
  | b :: l => by
    show _ ∈ (masks l.length).flatMap _
    rw [List.mem_flatMap]
    exact ⟨l, mem_masks l, by cases b <;> simp⟩
/-- Whatever has come up has its conditions behind it. -/
def closedB (md : Region.Mode) (ops : Array Oper) (l : List Bool) : Bool :=
  (List.range l.length).all fun i => !(l.getD i false) || (match ops[i]? with | some o => o.after.all fun e => !(Region.binds md e) || l.getD e.on false | none => true)
/-- Before the first m have come up, one of them can. -/
def liveB (md : Region.Mode) (ops : Array Oper) (m : Nat) (opt : Nat → Bool := fun _ => false) : Bool :=
  (masks m).all fun l => (List.range m).all (fun i => opt i || l.getD i false) || !closedB md ops l || (!(Region.ready md ops (lst ops l)).isEmpty && (Region.ready md ops (lst ops l)).all (fun i => decide (i < m)))
theorem lst_get {l : List Bool} {i : Nat} (hi : i < ops.size) (hl : l.length ≤ ops.size) : (lst ops l)[i]? = some (l.getD i false) := by
  unfold lst
  rw [List.getElem?_toArray]
  by_cases h : i < l.length
  · rw [List.getElem?_append_left h, List.getD_eq_getElem?_getD, List.getElem?_eq_getElem h]; rfl
  · rw [List.getElem?_append_right (by omega), List.getElem?_replicate, if_pos (by omega), List.getD_eq_getElem?_getD, List.getElem?_eq_none (by omega)]; rfl
theorem lst_set {l : List Bool} {i : Nat} (hi : i < l.length) : (lst ops l).setIfInBounds i true = lst ops (l.set i true) := by
  unfold lst
  rw [List.setIfInBounds_toArray, List.set_append_left _ _ hi, List.length_set]
/-- Temporaries filled in. -/
def fillT : List Nat → List (Option Value) → Array Value → Array Value
  | d :: ds, some v :: xs, t => fillT ds xs (t.setIfInBounds d v)
  | _ :: ds, none :: xs, t => fillT ds xs t
  | _, _, t => t
theorem fillT_size : ∀ (ds : List Nat) (xs : List (Option Value)) (t : Array Value), (fillT ds xs t).size = t.size
  | [], xs, t => by cases xs with | nil => rfl | cons a l => cases a <;> rfl
  | d :: ds, [], t => rfl
  | d :: ds, some v :: xs, t => by show (fillT ds xs (t.setIfInBounds d v)).size = _; rw [fillT_size]; simp
  | d :: ds, none :: xs, t => fillT_size ds xs t
theorem fillT_off : ∀ (ds : List Nat) (xs : List (Option Value)) (t : Array Value) {k : Nat}, k ∉ ds → (fillT ds xs t)[k]? = t[k]?
  | [], xs, t, k, h => by cases xs with | nil => rfl | cons a l => cases a <;> rfl
  | d :: ds, [], t, k, h => rfl
  | d :: ds, some v :: xs, t, k, h => by
    show (fillT ds xs (t.setIfInBounds d v))[k]? = _
    simp only [List.mem_cons, not_or] at h
    rw [fillT_off ds xs _ h.2, Array.getElem?_setIfInBounds_ne (fun e => h.1 e.symm)]
  | d :: ds, none :: xs, t, k, h => fillT_off ds xs t (fun e => h (List.mem_cons_of_mem _ e))
theorem fillT_comm : ∀ (ds : List Nat) (xs : List (Option Value)) (t : Array Value) {k : Nat} (v : Value), k ∉ ds → fillT ds xs (t.setIfInBounds k v) = (fillT ds xs t).setIfInBounds k v
  | [], xs, t, k, v, h => by cases xs with | nil => rfl | cons a l => cases a <;> rfl
  | d :: ds, [], t, k, v, h => rfl
  | d :: ds, some u :: xs, t, k, v, h => by
    show fillT ds xs ((t.setIfInBounds k v).setIfInBounds d u) = (fillT ds xs (t.setIfInBounds d u)).setIfInBounds k v
    simp only [List.mem_cons, not_or] at h
    rw [Array.setIfInBounds_comm _ _ h.1, fillT_comm ds xs _ v h.2]
  | d :: ds, none :: xs, t, k, v, h => fillT_comm ds xs t v (fun e => h (List.mem_cons_of_mem _ e))
theorem fillT_set : ∀ (ds : List Nat) (xs : List (Option Value)) (t : Array Value) {i : Nat} (v : Value), ds.Nodup → i < ds.length → xs[i]? = some none →
    fillT ds (xs.set i (some v)) t = (fillT ds xs t).setIfInBounds (ds.getD i 0) v
  | [], xs, t, i, v, _, hi, _ => by simp at hi
  | d :: ds, [], t, i, v, _, _, hx => by simp at hx
  | d :: ds, x :: xs, t, 0, v, hn, _, hx => by
    simp at hx
    subst hx
    show fillT ds xs (t.setIfInBounds d v) = (fillT ds xs t).setIfInBounds d v
    exact fillT_comm ds xs t v (List.nodup_cons.1 hn).1
  | d :: ds, x :: xs, t, i + 1, v, hn, hi, hx => by
    have ih := fun t => fillT_set ds xs t (i := i) v (List.nodup_cons.1 hn).2 (by simpa using hi) (by simpa using hx)
    cases x with
    | none => exact ih t
    | some u => exact ih (t.setIfInBounds d u)
theorem fillT_at : ∀ (ds : List Nat) (xs : List (Option Value)) (t : Array Value) {i : Nat} {v : Value}, ds.Nodup → i < ds.length → xs[i]? = some (some v) → ds.getD i 0 < t.size →
    (fillT ds xs t).getD (ds.getD i 0) undef = v
  | [], xs, t, i, v, _, hi, _, _ => by simp at hi
  | d :: ds, [], t, i, v, _, _, hx, _ => by simp at hx
  | d :: ds, x :: xs, t, 0, v, hn, _, hx, hs => by
    simp at hx
    subst hx
    show (fillT ds xs (t.setIfInBounds d v)).getD d undef = v
    have hs' : d < t.size := hs
    have := fillT_off ds xs (t.setIfInBounds d v) (List.nodup_cons.1 hn).1
    rw [Array.getD_eq_getD_getElem?, this]
    simp [hs']
  | d :: ds, x :: xs, t, i + 1, v, hn, hi, hx, hs => by
    have hs' : ds.getD i 0 < t.size := hs
    cases x with
    | none => exact fillT_at ds xs t (List.nodup_cons.1 hn).2 (by simpa using hi) (by simpa using hx) hs'
    | some u => exact fillT_at ds xs (t.setIfInBounds d u) (List.nodup_cons.1 hn).2 (by simpa using hi) (by simpa using hx) (by simpa using hs')

/-- The first operations, in whatever order. m: how many; ds: their temporaries; R: what is known of each one's value, whatever comes behind it; al: those that make a new variable. -/
theorem wpAny_first_many (m : Nat) (ds : List Nat) (R : Nat → Value → World → Prop) (al opt : Nat → Bool) {a0 : Act} {v : World}
    (hm : m ≤ ops.size) (hds : ds.length = m) (hnd : ds.Nodup) (hsz : ∀ d ∈ ds, d < a0.tmps.size) (hlive : liveB md ops m opt = true)
    (hst : ∀ i x w w', R i x w → Below w.heap.size w w' → R i x w')
    (hstep : ∀ i, i < m → ∀ (a : Act) (w : World), Below v.heap.size v w → a.defers = a0.defers → (∀ t, ds.contains t = false → a.tmps.getD t undef = a0.tmps.getD t undef) →
      (∀ o, ops[i]? = some o → ∀ e ∈ o.after, Region.binds md e = true → R e.on (a.tmps.getD (ds.getD e.on 0) undef) w) →
      ∀ K : Act → World → Prop, (∀ x w', R i x w' → Below w.heap.size w w' → (al i = true → ∃ b, x = .pointer (some ⟨b, 0, none⟩) ∧ w.heap.size ≤ b ∧ b < w'.heap.size) → K (a.put (some (ds.getD i 0)) x) w') → wpOp P ops Q i K a w)
    (hfin : ∀ (x : Nat → Value) (o : Nat → Bool) (k : Nat) (w' : World), Below v.heap.size v w' → (∀ i, i < m → (opt i = false ∨ o i = true) → R i (x i) w') → (∀ i j, i < m → j < m → i < j → opt i = false → opt j = false → al i = true → al j = true → x i ≠ x j) →
      ((List.range m).map fun i => !opt i || o i).count false = k →
      wpAny P md ops Q (k + (ops.size - m)) (lst ops ((List.range m).map fun i => !opt i || o i)) ⟨fillT ds ((List.range m).map fun i => if !opt i || o i then some (x i) else none) a0.tmps, a0.defers⟩ w') :
    ∀ (k : Nat) (xs : List (Option Value)) (w : World), xs.length = m → (xs.map Option.isSome).count false = k → closedB md ops (xs.map Option.isSome) = true → Below v.heap.size v w →
      (∀ i x, xs[i]? = some (some x) → R i x w) → (∀ i x, xs[i]? = some (some x) → al i = true → ∃ b, x = .pointer (some ⟨b, 0, none⟩) ∧ b < w.heap.size) →
      (∀ i j x y, i ≠ j → xs[i]? = some (some x) → xs[j]? = some (some y) → al i = true → al j = true → x ≠ y) →
      wpAny P md ops Q (k + (ops.size - m)) (lst ops (xs.map Option.isSome)) ⟨fillT ds xs a0.tmps, a0.defers⟩ w := by
  have stop : ∀ (k : Nat) (xs : List (Option Value)) (w : World), xs.length = m → (xs.map Option.isSome).count false = k → Below v.heap.size v w →
      (∀ i x, xs[i]? = some (some x) → R i x w) →
      (∀ i j x y, i ≠ j → xs[i]? = some (some x) → xs[j]? = some (some y) → al i = true → al j = true → x ≠ y) →
      (List.range m).all (fun i => opt i || (xs.map Option.isSome).getD i false) = true →
      wpAny P md ops Q (k + (ops.size - m)) (lst ops (xs.map Option.isSome)) ⟨fillT ds xs a0.tmps, a0.defers⟩ w := by
    intro k xs w hl hc hb hR hne hst
    have hall : ∀ i, i < m → opt i = false → ∃ x, xs[i]? = some (some x) := fun i hi ho => by
      have h0 := List.all_eq_true.1 hst i (by simpa using hi)
      rw [ho, Bool.false_or, List.getD_eq_getElem?_getD, List.getElem?_map] at h0
      cases h2 : xs[i]? with
      | none => rw [h2] at h0; simp at h0
      | some y =>
        cases y with
        | none => rw [h2] at h0; simp at h0
        | some x => exact ⟨x, rfl⟩
    have hx : xs = (List.range m).map fun i => if !opt i || ((xs[i]?.getD none).isSome) then some ((xs[i]?.getD none).getD undef) else none := by
      apply List.ext_getElem?
      intro i
      by_cases hi : i < m
      · have h1 := List.getElem?_eq_getElem (l := xs) (i := i) (by omega)
        simp only [List.getElem?_map, List.getElem?_range hi, Option.map_some]
        cases ho : opt i with
        | false =>
          obtain ⟨x, hx⟩ := hall i hi ho
          simp [hx]
        | true =>
          cases h2 : xs[i]'(by omega) with
          | none => rw [h2] at h1; simp [h1]
          | some y => rw [h2] at h1; simp [h1]
      · rw [List.getElem?_eq_none (by omega), List.getElem?_eq_none (by simp; omega)]
    have hm2 : xs.map Option.isSome = (List.range m).map fun i => !opt i || ((xs[i]?.getD none).isSome) := by
      apply List.ext_getElem?
      intro i
      by_cases hi : i < m
      · have h1 := List.getElem?_eq_getElem (l := xs) (i := i) (by omega)
        simp only [List.getElem?_map, List.getElem?_range hi, Option.map_some]
        cases ho : opt i with
        | false =>
          obtain ⟨x, hx⟩ := hall i hi ho
          simp [hx]
        | true => simp [h1]
      · rw [List.getElem?_eq_none (by simp; omega), List.getElem?_eq_none (by simp; omega)]
    rw [hm2]
    have h := hfin (fun i => (xs[i]?.getD none).getD undef) (fun i => (xs[i]?.getD none).isSome) k w hb (fun i hi ho => by
      have hs : ∃ x, xs[i]? = some (some x) := by
        rcases ho with ho | ho
        · exact hall i hi ho
        · cases h2 : xs[i]? with
          | none => rw [h2] at ho; simp at ho
          | some y =>
            cases y with
            | none => rw [h2] at ho; simp at ho
            | some x => exact ⟨x, rfl⟩
      obtain ⟨x, hx⟩ := hs
      simp only [hx, Option.getD_some]
      exact hR i x hx) (fun i j hi hj hij o1 o2 h1 h2 => by
      obtain ⟨x, hx⟩ := hall i hi o1
      obtain ⟨y, hy⟩ := hall j hj o2
      simp only [hx, hy, Option.getD_some]
      exact hne i j x y (by omega) hx hy h1 h2) (by rw [← hm2]; exact hc)
    rwa [← hx] at h
  intro k
  induction k with
  | zero =>
    intro xs w hl hc hcl hb hR hal hne
    refine stop 0 xs w hl hc hb hR hne ?_
    rw [List.all_eq_true]
    intro i hi
    have hi' : i < m := by simpa using hi
    have h1 := List.getElem?_eq_getElem (l := xs) (i := i) (by omega)
    cases h2 : xs[i]'(by omega) with
    | none =>
      have : none ∈ xs := by rw [← h2]; exact List.getElem_mem _
      have := List.count_pos_iff.2 (List.mem_map.2 ⟨none, this, rfl⟩ : false ∈ xs.map Option.isSome)
      omega
    | some x =>
      rw [h2] at h1
      rw [List.getD_eq_getElem?_getD, List.getElem?_map, h1]
      simp
  | succ k ih =>
    intro xs w hl hc hcl hb hR hal hne
    have hmask : xs.map Option.isSome ∈ masks m := by
      have := mem_masks (xs.map Option.isSome)
      rwa [List.length_map, hl] at this
    have hlv := List.all_eq_true.1 hlive _ hmask
    cases hstop : (List.range m).all (fun i => opt i || (xs.map Option.isSome).getD i false) with
    | true => exact stop (k + 1) xs w hl hc hb hR hne hstop
    | false =>
    rw [hstop, hcl] at hlv
    simp only [Bool.false_or, Bool.not_true, Bool.and_eq_true, Bool.not_eq_true', List.all_eq_true, decide_eq_true_eq] at hlv
    obtain ⟨hr, hlt⟩ := hlv
    rw [show k + 1 + (ops.size - m) = (k + (ops.size - m)) + 1 by omega]
    refine ⟨fun h => by rw [h] at hr; simp at hr, fun i hi => ?_⟩
    have him := hlt i hi
    obtain ⟨hun, o, ho, hdep⟩ := mem_ready.1 hi
    have hios : i < ops.size := by omega
    have hml : (xs.map Option.isSome).length ≤ ops.size := by simp; omega
    have hxi : xs[i]? = some none := by
      have h1 := lst_get (ops := ops) hios hml
      rw [Array.getD_eq_getD_getElem?, h1] at hun
      have h2 := List.getElem?_eq_getElem (l := xs) (i := i) (by omega)
      simp only [Option.getD_some, List.getD_eq_getElem?_getD, List.getElem?_map, h2, Option.map_some] at hun
      rw [h2]
      cases h3 : xs[i]'(by omega) with
      | none => rfl
      | some y => rw [h3] at hun; simp at hun
    have hdx : ∀ e ∈ o.after, Region.binds md e = true → ∃ y, xs[e.on]? = some (some y) := fun e he hbd => by
      have h := hdep e he hbd
      rw [Array.getD_eq_getD_getElem?] at h
      by_cases hlo : e.on < ops.size
      · rw [lst_get hlo hml] at h
        simp only [Option.getD_some, List.getD_eq_getElem?_getD, List.getElem?_map] at h
        cases h3 : xs[e.on]? with
        | none => rw [h3] at h; simp at h
        | some z =>
          cases z with
          | none => rw [h3] at h; simp at h
          | some y => exact ⟨y, rfl⟩
      · have : (lst ops (xs.map Option.isSome))[e.on]? = none := by
          unfold lst
          rw [List.getElem?_toArray, List.getElem?_eq_none (by simp; omega)]
        rw [this] at h; simp at h
    refine hstep i him ⟨fillT ds xs a0.tmps, a0.defers⟩ w hb rfl (fun t ht => ?_) (fun o' ho' e he hbd => ?_) _ (fun x w' hx hbw hfr => ?_)
    · show (fillT ds xs a0.tmps).getD t undef = _
      rw [Array.getD_eq_getD_getElem?, Array.getD_eq_getD_getElem?, fillT_off ds xs _ (by simpa using ht)]
    · rw [ho] at ho'
      injection ho' with ho'
      subst ho'
      obtain ⟨y, hy⟩ := hdx e he hbd
      have hlo : e.on < ds.length := by
        have := (List.getElem?_eq_some_iff.1 hy).1
        omega
      rw [fillT_at ds xs _ hnd hlo hy (hsz _ (by rw [List.getD_eq_getElem?_getD, List.getElem?_eq_getElem hlo]; exact List.getElem_mem _))]
      exact hR _ _ hy
    · have e1 : (⟨fillT ds xs a0.tmps, a0.defers⟩ : Act).put (some (ds.getD i 0)) x = ⟨fillT ds (xs.set i (some x)) a0.tmps, a0.defers⟩ := by
        rw [fillT_set ds xs _ x hnd (by omega) hxi]; rfl
      have e2 : (xs.map Option.isSome).set i true = (xs.set i (some x)).map Option.isSome := by rw [List.map_set]; rfl
      rw [lst_set (by simp; omega), e1, e2]
      have hlen : i < xs.length := by omega
      have hget : ∀ j, (xs.set i (some x))[j]? = if j = i then some (some x) else xs[j]? := fun j => by
        rw [List.getElem?_set]
        by_cases hj : i = j
        · subst hj; simp [hlen]
        · simp [hj, Ne.symm hj]
      refine ih _ w' (by simpa using hl) ?_ ?_ (hb.trans (hbw.mono hb.size)) (fun j y hj => ?_) (fun j y hj ha => ?_) (fun j j' y y' hjj hy hy' ha ha' => ?_)
      · have h2 : xs[i]'hlen = none := by
          rw [List.getElem?_eq_getElem hlen] at hxi
          injection hxi
        rw [← e2, List.count_set (by simpa using hlen), hc]
        simp [h2]
      · rw [← e2]
        unfold closedB at hcl ⊢
        rw [List.all_eq_true] at hcl ⊢
        intro j hj
        have hj' : j < (xs.map Option.isSome).length := by simpa using hj
        have h1 := hcl j (by simpa using hj)
        have hmono : ∀ t, (xs.map Option.isSome).getD t false = true → ((xs.map Option.isSome).set i true).getD t false = true := fun t ht => by
          rw [List.getD_eq_getElem?_getD, List.getElem?_set]
          by_cases hti : i = t
          · subst hti; simp [hlen]
          · rw [if_neg hti, ← List.getD_eq_getElem?_getD]; exact ht
        by_cases hji : j = i
        · subst hji
          rw [ho]
          simp only [Bool.or_eq_true, Array.all_eq_true_iff_forall_mem]
          right
          intro e he
          by_cases hbd : Region.binds md e = true
          · obtain ⟨y, hy⟩ := hdx e he hbd
            right
            refine hmono _ ?_
            rw [List.getD_eq_getElem?_getD, List.getElem?_map, hy]; rfl
          · left; simpa using hbd
        · have h0 : ((xs.map Option.isSome).set i true).getD j false = (xs.map Option.isSome).getD j false := by
            rw [List.getD_eq_getElem?_getD, List.getElem?_set, if_neg (Ne.symm hji), ← List.getD_eq_getElem?_getD]
          rw [h0]
          simp only [Bool.or_eq_true] at h1 ⊢
          rcases h1 with h1 | h1
          · exact .inl h1
          · right
            cases hoj : ops[j]? with
            | none => rfl
            | some oj =>
              rw [hoj] at h1
              simp only [Array.all_eq_true_iff_forall_mem, Bool.or_eq_true] at h1 ⊢
              intro e he
              exact (h1 e he).imp id (hmono _)
      · rw [hget] at hj
        by_cases hji : j = i
        · rw [if_pos hji] at hj
          simp only [Option.some.injEq] at hj
          rw [← hj, hji]; exact hx
        · rw [if_neg hji] at hj
          exact hst _ _ _ _ (hR j y hj) hbw
      · rw [hget] at hj
        by_cases hji : j = i
        · rw [if_pos hji] at hj
          simp only [Option.some.injEq] at hj
          rw [hji] at ha
          obtain ⟨b, h1, -, h3⟩ := hfr ha
          exact ⟨b, by rw [← hj]; exact h1, h3⟩
        · rw [if_neg hji] at hj
          obtain ⟨b, h1, h2⟩ := hal j y hj ha
          exact ⟨b, h1, Nat.lt_of_lt_of_le h2 hbw.size⟩
      · rw [hget] at hy hy'
        by_cases hji : j = i
        · rw [if_pos hji] at hy
          rw [if_neg (by omega)] at hy'
          simp only [Option.some.injEq] at hy
          rw [hji] at ha
          obtain ⟨b, h1, h2, -⟩ := hfr ha
          obtain ⟨b', h1', h2'⟩ := hal j' y' hy' ha'
          rw [← hy, h1, h1']
          intro h
          injection h with h
          injection h with h
          injection h with h
          omega
        · rw [if_neg hji] at hy
          by_cases hji' : j' = i
          · rw [if_pos hji'] at hy'
            simp only [Option.some.injEq] at hy'
            rw [hji'] at ha'
            obtain ⟨b, h1, h2, -⟩ := hfr ha'
            obtain ⟨b', h1', h2'⟩ := hal j y hy ha
            rw [← hy', h1, h1']
            intro h
            injection h with h
            injection h with h
            injection h with h
            omega
          · rw [if_neg hji'] at hy'
            exact hne j j' y y' hjj hy hy' ha ha'

/-- The same at a region. -/
theorem region_first_opt {id : Nat} (m : Nat) (ds : List Nat) (R : Nat → Value → World → Prop) (al opt : Nat → Bool) {a0 : Act} {v : World}
    (hmo : P.follows .mixedOrders = true)
    (hm : m ≤ ops.size) (hds : ds.length = m) (hnd : ds.Nodup) (hsz : (ds.all fun d => decide (d < a0.tmps.size)) = true) (hlive : liveB .any ops m opt = true)
    (hst : ∀ i x w w', R i x w → Below w.heap.size w w' → R i x w')
    (hstep : ∀ i, i < m → ∀ (a : Act) (w : World), Below v.heap.size v w → a.defers = a0.defers → (∀ t, ds.contains t = false → a.tmps.getD t undef = a0.tmps.getD t undef) →
      (∀ o, ops[i]? = some o → ∀ e ∈ o.after, Region.binds .any e = true → R e.on (a.tmps.getD (ds.getD e.on 0) undef) w) →
      ∀ K : Act → World → Prop, (∀ x w', R i x w' → Below w.heap.size w w' → (al i = true → ∃ b, x = .pointer (some ⟨b, 0, none⟩) ∧ w.heap.size ≤ b ∧ b < w'.heap.size) → K (a.put (some (ds.getD i 0)) x) w') → wpOp P ops Q i K a w)
    (hfin : ∀ (x : Nat → Value) (o : Nat → Bool) (k : Nat) (w' : World), Below v.heap.size v w' → (∀ i, i < m → (opt i = false ∨ o i = true) → R i (x i) w') → (∀ i j, i < m → j < m → i < j → opt i = false → opt j = false → al i = true → al j = true → x i ≠ x j) →
      ((List.range m).map fun i => !opt i || o i).count false = k →
      wpAny P .any ops Q (k + (ops.size - m)) (lst ops ((List.range m).map fun i => !opt i || o i)) ⟨fillT ds ((List.range m).map fun i => if !opt i || o i then some (x i) else none) a0.tmps, a0.defers⟩ w') :
    (Code.region id ops true).wp P Q a0 v := by
  refine wp_region_any hmo ?_
  have h := wpAny_first_many (P := P) (Q := Q) (md := .any) (ops := ops) m ds R al opt (a0 := a0) (v := v) hm hds hnd (fun d hd => by simpa using List.all_eq_true.1 hsz d hd) hlive hst hstep hfin m (List.replicate m none) { v with drawn := v.drawn + 1 } (by simp) (by simp) ?_ ((Below.refl _ _).drew) ?_ ?_ ?_
  · have e1 : (List.replicate m (none : Option Value)).map Option.isSome = List.replicate m false := by simp
    have e2 : lst ops (List.replicate m false) = Array.replicate ops.size false := by
      unfold lst
      rw [List.length_replicate, List.replicate_append_replicate, show m + (ops.size - m) = ops.size by omega, List.toArray_replicate]
    have e3 : ∀ (ds : List Nat) (n : Nat) (t : Array Value), fillT ds (List.replicate n none) t = t := by
      intro ds
      induction ds with
      | nil => intro n t; cases n <;> rfl
      | cons d ds ih =>
        intro n t
        cases n with
        | zero => rfl
        | succ n => exact ih n t
    rw [e1, e2, e3, show m + (ops.size - m) = ops.size by omega] at h
    exact h
  · unfold closedB
    rw [List.all_eq_true]
    intro i hi
    have : ((List.replicate m (none : Option Value)).map Option.isSome).getD i false = false := by
      rw [List.getD_eq_getElem?_getD, List.getElem?_map, List.getElem?_replicate]
      split <;> rfl
    rw [this]; rfl
  · intro i x h; rw [List.getElem?_replicate] at h; split at h <;> simp at h
  · intro i x h; rw [List.getElem?_replicate] at h; split at h <;> simp at h
  · intro i j x y _ h; rw [List.getElem?_replicate] at h; split at h <;> simp at h

/-- The same at a region. -/
theorem region_first_many {id : Nat} (m : Nat) (ds : List Nat) (R : Nat → Value → World → Prop) (al : Nat → Bool) {a0 : Act} {v : World}
    (hmo : P.follows .mixedOrders = true)
    (hm : m ≤ ops.size) (hds : ds.length = m) (hnd : ds.Nodup) (hsz : (ds.all fun d => decide (d < a0.tmps.size)) = true) (hlive : liveB .any ops m = true)
    (hst : ∀ i x w w', R i x w → Below w.heap.size w w' → R i x w')
    (hstep : ∀ i, i < m → ∀ (a : Act) (w : World), Below v.heap.size v w → a.defers = a0.defers → (∀ t, ds.contains t = false → a.tmps.getD t undef = a0.tmps.getD t undef) →
      (∀ o, ops[i]? = some o → ∀ e ∈ o.after, Region.binds .any e = true → R e.on (a.tmps.getD (ds.getD e.on 0) undef) w) →
      ∀ K : Act → World → Prop, (∀ x w', R i x w' → Below w.heap.size w w' → (al i = true → ∃ b, x = .pointer (some ⟨b, 0, none⟩) ∧ w.heap.size ≤ b ∧ b < w'.heap.size) → K (a.put (some (ds.getD i 0)) x) w') → wpOp P ops Q i K a w)
    (hfin : ∀ (x : Nat → Value) (w' : World), Below v.heap.size v w' → (∀ i, i < m → R i (x i) w') → (∀ i j, i < m → j < m → i < j → al i = true → al j = true → x i ≠ x j) →
      wpAny P .any ops Q (ops.size - m) (lst ops (List.replicate m true)) ⟨fillT ds ((List.range m).map fun i => some (x i)) a0.tmps, a0.defers⟩ w') :
    (Code.region id ops true).wp P Q a0 v := by
  refine region_first_opt (P := P) (Q := Q) (ops := ops) m ds R al (fun _ => false) hmo hm hds hnd hsz hlive hst hstep ?_
  intro x o k w' hb hR hne hk
  have e1 : ((List.range m).map fun i => !(fun _ : Nat => false) i || o i) = List.replicate m true := by
    apply List.ext_getElem?
    intro i
    by_cases hi : i < m
    · simp [hi]
    · rw [List.getElem?_eq_none (by simp; omega), List.getElem?_eq_none (by simp; omega)]
  have e2 : ((List.range m).map fun i => if !(fun _ : Nat => false) i || o i then some (x i) else none) = (List.range m).map fun i => some (x i) := by
    apply List.map_congr_left
    intro i _
    simp
  rw [e1] at hk
  rw [e1, e2]
  have hk0 : k = 0 := by rw [← hk, List.count_replicate]; simp
  subst hk0
  rw [Nat.zero_add]
  exact hfin x w' hb (fun i hi => hR i hi (.inl rfl)) (fun i j hi hj hij h1 h2 => hne i j hi hj hij rfl rfl h1 h2)

/-! ### The kinds of operations -/
theorem rg_move {i : Nat} {o : Oper} {K : Act → World → Prop} {a : Act} {w : World} (x : Operand) (ho : ops[i]? = some o) (hg : o.guard = none) (hop : o.op = .move x ∨ o.op = .assign x) (h : K (a.put o.dst (a.eval x)) w) : wpOp P ops Q i K a w := by
  unfold wpOp
  have hw : Region.wanted o (yielded ops a.tmps) = true := by simp [Region.wanted, hg]
  simp only [ho, hw, if_true]
  left
  rcases hop with hop | hop <;> simp only [Oper.wp, execOp, hop, Sem.run_pure, Oper.upon] <;> exact h
theorem rg_in {i : Nat} {o : Oper} {K : Act → World → Prop} {a : Act} {w : World} (ho : ops[i]? = some o)
    (h : ∀ K' : Act → World → Prop, (∀ a w, K a w → K' a w) → if Region.wanted o (yielded ops a.tmps) = true then Oper.wp P o a w K' Q else K' (a.put o.dst undef) w) : wpOp P ops Q i K a w := by
  unfold wpOp
  simp only [ho]
  have := h K (fun _ _ h => h)
  split
  · rename_i hw; rw [if_pos hw] at this; exact .inl this
  · rename_i hw; rw [if_neg hw] at this; exact this
theorem wpAny_one {i fuel : Nat} {listed : Array Bool} {a : Act} {w : World} (hr : Region.ready md ops listed = [i]) (h : wpOp P ops Q i (wpAny P md ops Q fuel (listed.setIfInBounds i true)) a w) : wpAny P md ops Q (fuel + 1) listed a w :=
  ⟨fun e => (by rw [hr] at e; simp at e), fun j hj => (by rw [hr] at hj; simp at hj; subst hj; exact h)⟩
theorem wpAny_two {i j fuel : Nat} {listed : Array Bool} {a : Act} {w : World} (hr : Region.ready md ops listed = [i, j]) (h1 : wpOp P ops Q i (wpAny P md ops Q fuel (listed.setIfInBounds i true)) a w) (h2 : wpOp P ops Q j (wpAny P md ops Q fuel (listed.setIfInBounds j true)) a w) : wpAny P md ops Q (fuel + 1) listed a w :=
  ⟨fun e => (by rw [hr] at e; simp at e), fun k hk => (by rw [hr] at hk; simp at hk; rcases hk with rfl | rfl; exact h1; exact h2)⟩
theorem rg_store_mid {i : Nat} {o : Oper} {K : Act → World → Prop} {a : Act} {w : World} (ty : TypeId) (x y : Operand) (ho : ops[i]? = some o) (hg : o.guard = none) (hdst : o.dst = none) (hop : o.op = .store ty x y)
    (b off : Nat) (cells : Array Value) (hx : a.eval x = .pointer (some ⟨b, off, none⟩)) (hy : a.eval y = .agg cells)
    (ht : w.there b off cells.size) (hi : (P.info? ty).map (·.size) = some cells.size) (h1 : cells.all (·.oneCell') = true)
    (h : K a (w.setCells b off cells.toList)) : wpOp P ops Q i K a w := by
  unfold wpOp
  have hw : Region.wanted o (yielded ops a.tmps) = true := by simp [Region.wanted, hg]
  simp only [ho, hw, if_true]
  left
  refine wp_store_mid ty x y hop b off cells hx hy ht hi h1 ?_
  rw [hdst]
  exact h
theorem rg_extract {i : Nat} {o : Oper} {K : Act → World → Prop} {a : Act} {w : World} (x : Operand) (k d : Nat) (ho : ops[i]? = some o) (hg : o.guard = none) (hd : o.dst = some d) (hop : o.op = .extract x k) {vs : Array Value} (hx : a.eval x = .tuple vs) {v : Value} (hv : vs[k]? = some v) (h : K (a.put (some d) v) w) : wpOp P ops Q i K a w := by
  unfold wpOp
  have hw : Region.wanted o (yielded ops a.tmps) = true := by simp [Region.wanted, hg]
  simp only [ho, hw, if_true]
  left
  simp only [Oper.wp, execOp, hop, Instr.extract, hx, hv, Sem.run_bind, Sem.run_pure, Result.andThen_ok, Oper.upon, hd]
  exact h
theorem rg_assign {i : Nat} {o : Oper} {K : Act → World → Prop} {a : Act} {w : World} (x : Operand) (d : Nat) (ho : ops[i]? = some o) (hg : o.guard = none) (hd : o.dst = some d) (hop : o.op = .assign x) {v : Value} (hx : a.eval x = v) (h : K (a.put (some d) v) w) : wpOp P ops Q i K a w := by
  subst hx
  refine rg_move x ho hg (.inr hop) ?_
  rw [hd]
  exact h
theorem rg_run {i : Nat} {o : Oper} {K : Act → World → Prop} {a : Act} {w w' : World} {x : Value} (ho : ops[i]? = some o) (hg : o.guard = none) (hr : (execOp a.eval o).run P w = .ok (.value x) w') (h : K (a.put o.dst x) w') : wpOp P ops Q i K a w := by
  unfold wpOp
  have hw : Region.wanted o (yielded ops a.tmps) = true := by simp [Region.wanted, hg]
  simp only [ho, hw, if_true]
  left
  simp only [Oper.wp, hr, Oper.upon]
  exact h
theorem rg_call {i : Nat} {o : Oper} {K : Act → World → Prop} {a : Act} {w : World} (f : FuncId) (args : Array Operand) (tys : Array TypeId) (vs : Array Value) (ho : ops[i]? = some o) (hg : o.guard = none)
    (hop : o.op = .call { callee := .value (.func f), args := args, argTypes := tys }) (hv : args.map a.eval = vs)
    (hr : (execOp a.eval o).run P w = .ok (.enter f vs) w) (h : Calls P f vs w fun e w' => ∃ x, e = .returned x ∧ K (a.put o.dst x) w') : wpOp P ops Q i K a w := by
  unfold wpOp
  have hw : Region.wanted o (yielded ops a.tmps) = true := by simp [Region.wanted, hg]
  simp only [ho, hw, if_true]
  left
  simp only [Oper.wp, hr, Oper.upon]
  refine h.mono ?_
  rintro e w' ⟨x, rfl, hk⟩
  exact hk
end
end Go.Proofs.Ytnofljgmkdommaa
