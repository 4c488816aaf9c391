/- Contracts of the functions that these laws reach: part 15: A region that draws its order, all of whose operations only read or make memory: each operation once, in whatever order; Contracts: SameNat, SameFrac, and the law's one and known; Contracts: the tape beside limbs; Chance, Inner, Two. -/
import Derived.Test.YtnofljgmkdommaaG11
import Derived.Test.YtnofljgmkdommaaG12
set_option linter.unusedVariables false
set_option linter.unusedSimpArgs false

/- A region that draws its order, all of whose operations only read or make memory: each operation once, in whatever order. -/
namespace Go.Proofs.Ytnofljgmkdommaa
open Go.RowKit

section
variable {P : Program} {md : Region.Mode} {ops : Array Oper} {Q : Exit → Act → World → Prop}

/-- Each operation waits for earlier ones alone; those behind the first m wait for all of these. -/
def lowB (md : Region.Mode) (ops : Array Oper) (m : Nat) : Bool :=
  (List.range ops.size).all fun i => match ops[i]? with
    | some o => (o.after.all fun e => !Region.binds md e || decide (e.on < i)) && (decide (i < m) || (o.after.any fun e => Region.binds md e && decide (m ≤ e.on)) || (List.range m).all fun j => o.after.any fun e => Region.binds md e && decide (e.on = j))
    | none => true
theorem masks_len : ∀ {m : Nat} {l : List Bool}, l ∈ masks m → l.length = m
  | 0, l, h => by simp [masks] at h; subst h; rfl
  | m + 1, l, h => by
    have h2 : ∃ a ∈ masks m, l = true :: a ∨ l = false :: a := by simpa [masks] using h
    obtain ⟨a, ha, h3⟩ := h2
    have := masks_len ha
    rcases h3 with rfl | rfl <;> simp [this]
theorem least_false : ∀ {m : Nat} {l : List Bool}, (List.range m).all (fun i => l.getD i false) = false → ∃ i, i < m ∧ l.getD i false = false ∧ ∀ j, j < i → l.getD j false = true
  | 0, l, h => by simp at h
  | m + 1, l, h => by
    by_cases h1 : (List.range m).all (fun i => l.getD i false) = false
    · obtain ⟨i, h2, h3, h4⟩ := least_false h1
      exact ⟨i, by omega, h3, h4⟩
    · have h1 : (List.range m).all (fun i => l.getD i false) = true := by simpa using h1
      rw [List.range_succ, List.all_append, h1] at h
      refine ⟨m, by omega, by simpa using h, fun j hj => ?_⟩
      exact List.all_eq_true.1 h1 j (by simpa using hj)
theorem live_low {m : Nat} (hm : m ≤ ops.size) (h : lowB md ops m = true) : liveB md ops m = true := by
  unfold liveB
  rw [List.all_eq_true]
  intro l hl
  have hlen := masks_len hl
  have hlo : l.length ≤ ops.size := by omega
  cases hall : (List.range m).all (fun i => (fun _ : Nat => false) i || l.getD i false) with
  | true => rfl
  | false =>
    rw [Bool.false_or]
    cases hcl : closedB md ops l with
    | false => rfl
    | true =>
      rw [Bool.not_true, Bool.false_or]
      have hall' : (List.range m).all (fun i => l.getD i false) = false := by simpa using hall
      obtain ⟨i, him, hif, hil⟩ := least_false hall'
      have hlow : ∀ j o, ops[j]? = some o → (∀ e ∈ o.after, Region.binds md e = true → e.on < j) ∧ (j < m ∨ (∃ e ∈ o.after, Region.binds md e = true ∧ m ≤ e.on) ∨ ∀ k, k < m → ∃ e ∈ o.after, Region.binds md e = true ∧ e.on = k) := by
        intro j o ho
        have hj : j < ops.size := (Array.getElem?_eq_some_iff.1 ho).1
        have := List.all_eq_true.1 h j (by simpa using hj)
        rw [ho] at this
        simp only [Bool.and_eq_true, Bool.or_eq_true, decide_eq_true_eq, Array.all_eq_true_iff_forall_mem, Array.any_eq_true', List.all_eq_true, List.mem_range] at this
        refine ⟨fun e he hb => ?_, by
          rcases this.2 with (h1 | h1) | h1
          · exact .inl h1
          · exact .inr (.inl h1)
          · exact .inr (.inr h1)⟩
        have h2 := this.1 e he
        simpa [hb] using h2
      have hr : i ∈ Region.ready md ops (lst ops l) := by
        refine mem_ready.2 ⟨?_, ops[i]'(by omega), by simp, fun e he hb => ?_⟩
        · rw [Array.getD_eq_getD_getElem?, lst_get (by omega) hlo]; exact hif
        · have h1 := (hlow i _ (by simp : ops[i]? = some (ops[i]'(by omega)))).1 e he hb
          rw [Array.getD_eq_getD_getElem?, lst_get (by omega) hlo]; exact hil _ h1
      have hne : (Region.ready md ops (lst ops l)).isEmpty = false := by
        cases he : Region.ready md ops (lst ops l) with
        | nil => rw [he] at hr; simp at hr
        | cons a b => rfl
      rw [hne]
      simp only [Bool.not_false, Bool.true_and, List.all_eq_true, decide_eq_true_eq]
      intro j hj
      obtain ⟨hun, o, ho, hdep⟩ := mem_ready.1 hj
      rcases (hlow j o ho).2 with h1 | ⟨e, he, hb, hme⟩ | h1
      · exact h1
      · exfalso
        have h2 := hdep e he hb
        rw [Array.getD_eq_getD_getElem?] at h2
        by_cases hlo2 : e.on < ops.size
        · rw [lst_get hlo2 hlo, List.getD_eq_getElem?_getD, List.getElem?_eq_none (by omega)] at h2
          simp at h2
        · have : (lst ops l)[e.on]? = none := by
            unfold lst
            rw [List.getElem?_toArray, List.getElem?_eq_none (by simp; omega)]
          rw [this] at h2; simp at h2
      · exfalso
        obtain ⟨e, he, hb, hei⟩ := h1 i him
        have h2 := hdep e he hb
        rw [Array.getD_eq_getD_getElem?, lst_get (by omega) hlo, hei, Option.getD_some, hif] at h2
        exact absurd h2 (by simp)

/-- Those behind the first m wait for all of these but q. -/
def lowqB (md : Region.Mode) (ops : Array Oper) (m q : Nat) : Bool :=
  (List.range ops.size).all fun i => match ops[i]? with
    | some o => (o.after.all fun e => !Region.binds md e || decide (e.on < i)) && (decide (i < m) || (o.after.any fun e => Region.binds md e && decide (m ≤ e.on)) || (List.range m).all fun j => decide (j = q) || o.after.any fun e => Region.binds md e && decide (e.on = j))
    | none => true
theorem live_lowq {m q : Nat} (hm : m ≤ ops.size) (h : lowqB md ops m q = true) : liveB md ops m (fun i => decide (i = q)) = true := by
  unfold liveB
  rw [List.all_eq_true]
  intro l hl
  have hlen := masks_len hl
  have hlo : l.length ≤ ops.size := by omega
  cases hall : (List.range m).all (fun i => (fun i => decide (i = q)) i || l.getD i false) with
  | true => rfl
  | false =>
    rw [Bool.false_or]
    cases hcl : closedB md ops l with
    | false => rfl
    | true =>
      rw [Bool.not_true, Bool.false_or]
      obtain ⟨i1, hi1m, hi1q, hi1f⟩ : ∃ i, i < m ∧ i ≠ q ∧ l.getD i false = false := by
        obtain ⟨i, hi, h10⟩ := List.all_eq_false.1 hall
        simp only [Bool.or_eq_true, decide_eq_true_eq, not_or] at h10
        exact ⟨i, by simpa using hi, h10.1, by simpa using h10.2⟩
      have hall' : (List.range m).all (fun i => l.getD i false) = false := by
        rw [List.all_eq_false]
        exact ⟨i1, by simpa using hi1m, by rw [hi1f]; simp⟩
      obtain ⟨i, him, hif, hil⟩ := least_false hall'
      have hlow : ∀ j o, ops[j]? = some o → (∀ e ∈ o.after, Region.binds md e = true → e.on < j) ∧ (j < m ∨ (∃ e ∈ o.after, Region.binds md e = true ∧ m ≤ e.on) ∨ ∀ k, k < m → k = q ∨ ∃ e ∈ o.after, Region.binds md e = true ∧ e.on = k) := by
        intro j o ho
        have hj : j < ops.size := (Array.getElem?_eq_some_iff.1 ho).1
        have := List.all_eq_true.1 h j (by simpa using hj)
        rw [ho] at this
        simp only [Bool.and_eq_true, Bool.or_eq_true, decide_eq_true_eq, Array.all_eq_true_iff_forall_mem, Array.any_eq_true', List.all_eq_true, List.mem_range] at this
        refine ⟨fun e he hb => ?_, by
          rcases this.2 with (h1 | h1) | h1
          · exact .inl h1
          · exact .inr (.inl h1)
          · exact .inr (.inr h1)⟩
        have h2 := this.1 e he
        simpa [hb] using h2
      have hr : i ∈ Region.ready md ops (lst ops l) := by
        refine mem_ready.2 ⟨?_, ops[i]'(by omega), by simp, fun e he hb => ?_⟩
        · rw [Array.getD_eq_getD_getElem?, lst_get (by omega) hlo]; exact hif
        · have h1 := (hlow i _ (by simp : ops[i]? = some (ops[i]'(by omega)))).1 e he hb
          rw [Array.getD_eq_getD_getElem?, lst_get (by omega) hlo]; exact hil _ h1
      have hne : (Region.ready md ops (lst ops l)).isEmpty = false := by
        cases he : Region.ready md ops (lst ops l) with
        | nil => rw [he] at hr; simp at hr
        | cons a b => rfl
      rw [hne]
      simp only [Bool.not_false, Bool.true_and, List.all_eq_true, decide_eq_true_eq]
      intro j hj
      obtain ⟨hun, o, ho, hdep⟩ := mem_ready.1 hj
      rcases (hlow j o ho).2 with h1 | ⟨e, he, hb, hme⟩ | h1
      · exact h1
      · exfalso
        have h2 := hdep e he hb
        rw [Array.getD_eq_getD_getElem?] at h2
        by_cases hlo2 : e.on < ops.size
        · rw [lst_get hlo2 hlo, List.getD_eq_getElem?_getD, List.getElem?_eq_none (by omega)] at h2
          simp at h2
        · have : (lst ops l)[e.on]? = none := by
            unfold lst
            rw [List.getElem?_toArray, List.getElem?_eq_none (by simp; omega)]
          rw [this] at h2; simp at h2
      · exfalso
        obtain ⟨e, he, hb, hei⟩ := (h1 i1 hi1m).resolve_left hi1q
        have h2 := hdep e he hb
        rw [Array.getD_eq_getD_getElem?, lst_get (by omega) hlo, hei, Option.getD_some, hi1f] at h2
        exact absurd h2 (by simp)

/-- A value that is known. -/
def eqV (u : Value) : Value → World → Prop := fun x _ => x = u
def getR (Rs : List (Value → World → Prop)) (i : Nat) : Value → World → Prop := Rs.getD i (fun _ _ => True)
def Stb (R : Value → World → Prop) : Prop := ∀ x w w', R x w → Below w.heap.size w w' → R x w'
theorem stb_eq (u : Value) : Stb (eqV u) := fun _ _ _ h _ => h
def allStb : List (Value → World → Prop) → Prop
  | [] => True
  | R :: l => Stb R ∧ allStb l
theorem allStb.get : ∀ {Rs : List (Value → World → Prop)}, allStb Rs → ∀ i, Stb (getR Rs i)
  | [], _, i => fun _ _ _ _ _ => trivial
  | R :: l, h, 0 => h.1
  | R :: l, h, i + 1 => h.2.get i
/-- What is known of those that an operation waits for. -/
def depAll (Rs : List (Value → World → Prop)) (ds : List Nat) (a : Act) (w : World) : List Edge → Prop
  | [] => True
  | e :: l => (cond (Region.binds .any e) (getR Rs e.on (a.tmps.getD (ds.getD e.on 0) undef) w) True) ∧ depAll Rs ds a w l
theorem binds_data (k : Nat) : Region.binds .any ⟨k, .data⟩ = true := rfl
theorem binds_chain (k : Nat) : Region.binds .any ⟨k, .chain⟩ = true := rfl
theorem binds_guard (k : Nat) : Region.binds .any ⟨k, .guard⟩ = true := rfl
theorem binds_phase (k : Nat) : Region.binds .any ⟨k, .phase⟩ = true := rfl
theorem binds_text (k : Nat) (d : Departure) : Region.binds .any ⟨k, .textOnly d⟩ = false := rfl
theorem binds_gc (k : Nat) (d : Departure) : Region.binds .any ⟨k, .gcOnly d⟩ = false := rfl
/-- One operation of such a region. -/
def StepAt (P : Program) (ops : Array Oper) (Q : Exit → Act → World → Prop) (a0 : Act) (v : World) (ds : List Nat) (Rs : List (Value → World → Prop)) (al : Nat → Bool) (i : Nat) : Prop :=
  ∀ (a : Act) (w : World), Below v.heap.size v w → a.defers = a0.defers → (∀ t, ds.contains t = false → a.tmps.getD t undef = a0.tmps.getD t undef) →
    (∀ o, ops[i]? = some o → depAll Rs ds a w o.after.toList) →
    ∀ K : Act → World → Prop, (∀ x w', getR Rs i x w' → Below w.heap.size w w' → (al i = true → ∃ b, x = .pointer (some ⟨b, 0, none⟩) ∧ w.heap.size ≤ b ∧ b < w'.heap.size) → K (a.put (some (ds.getD i 0)) x) w') → wpOp P ops Q i K a w
def stepsFrom (P : Program) (ops : Array Oper) (Q : Exit → Act → World → Prop) (a0 : Act) (v : World) (ds : List Nat) (Rs : List (Value → World → Prop)) (al : Nat → Bool) : Nat → Nat → Prop
  | 0, _ => True
  | n + 1, i => StepAt P ops Q a0 v ds Rs al i ∧ stepsFrom P ops Q a0 v ds Rs al n (i + 1)
theorem stepsFrom.get {a0 : Act} {v : World} {ds : List Nat} {Rs : List (Value → World → Prop)} {al : Nat → Bool} : ∀ {n i : Nat}, stepsFrom P ops Q a0 v ds Rs al n i → ∀ j, i ≤ j → j < i + n → StepAt P ops Q a0 v ds Rs al j
  | 0, i, _, j, h1, h2 => by omega
  | n + 1, i, h, j, h1, h2 => by
    by_cases hj : j = i
    · subst hj; exact h.1
    · exact h.2.get j (by omega) (by omega)
theorem depAll_of {Rs : List (Value → World → Prop)} {ds : List Nat} {a : Act} {w : World} : ∀ {l : List Edge}, (∀ e ∈ l, Region.binds .any e = true → getR Rs e.on (a.tmps.getD (ds.getD e.on 0) undef) w) → depAll Rs ds a w l
  | [], _ => trivial
  | e :: l, h => by
    refine ⟨?_, depAll_of (fun e he => h e (by simp [he]))⟩
    cases hb : Region.binds .any e with
    | true => exact h e (by simp) hb
    | false => exact trivial
/-- What comes behind: each value with what is known of it; new variables differ. -/
def finFrom (w : World) (G : Array Value → Prop) : List Nat → List (Value → World → Prop) → List Bool → List Value → Array Value → Prop
  | d :: ds, R :: Rs, b :: bs, acc, t => ∀ x, R x w → (b = true → ∀ p ∈ acc, p ≠ x) → finFrom w G ds Rs bs (if b = true then x :: acc else acc) (t.setIfInBounds d x)
  | _, _, _, _, t => G t
theorem fin_eq {w : World} {G : Array Value → Prop} {d : Nat} {ds : List Nat} {u : Value} {Rs : List (Value → World → Prop)} {bs : List Bool} {acc : List Value} {t : Array Value} (h : finFrom w G ds Rs bs acc (t.setIfInBounds d u)) : finFrom w G (d :: ds) (eqV u :: Rs) (false :: bs) acc t := by
  intro x hx _
  have hx : x = u := hx
  subst hx
  exact h
theorem fin_any {w : World} {G : Array Value → Prop} {d : Nat} {ds : List Nat} {R : Value → World → Prop} {Rs : List (Value → World → Prop)} {bs : List Bool} {acc : List Value} {t : Array Value} (h : ∀ x, R x w → finFrom w G ds Rs bs acc (t.setIfInBounds d x)) : finFrom w G (d :: ds) (R :: Rs) (false :: bs) acc t :=
  fun x hx _ => h x hx
theorem fin_new {w : World} {G : Array Value → Prop} {d : Nat} {ds : List Nat} {R : Value → World → Prop} {Rs : List (Value → World → Prop)} {bs : List Bool} {acc : List Value} {t : Array Value} (h : ∀ x, R x w → (∀ p ∈ acc, p ≠ x) → finFrom w G ds Rs bs (x :: acc) (t.setIfInBounds d x)) : finFrom w G (d :: ds) (R :: Rs) (true :: bs) acc t :=
  fun x hx hne => h x hx (hne rfl)
theorem fin_nil {w : World} {G : Array Value → Prop} {Rs : List (Value → World → Prop)} {bs : List Bool} {acc : List Value} {t : Array Value} (h : G t) : finFrom w G [] Rs bs acc t := h
theorem fin_ofL {w : World} {G : Array Value → Prop} : ∀ (xs : List Value) (ds : List Nat) (Rs : List (Value → World → Prop)) (bs : List Bool) (acc : List Value) (t : Array Value),
    ds.length = xs.length → Rs.length = xs.length → bs.length = xs.length → (∀ j y, xs[j]? = some y → getR Rs j y w) → (∀ j y, xs[j]? = some y → bs.getD j false = true → ∀ p ∈ acc, p ≠ y) →
    (∀ j k y z, j < k → xs[j]? = some y → xs[k]? = some z → bs.getD j false = true → bs.getD k false = true → y ≠ z) →
    finFrom w G ds Rs bs acc t → G (fillT ds (xs.map some) t)
  | [], ds, Rs, bs, acc, t, h1, h2, h3, _, _, _, hf => by
    have e1 := List.eq_nil_of_length_eq_zero h1
    have e2 := List.eq_nil_of_length_eq_zero h2
    have e3 := List.eq_nil_of_length_eq_zero h3
    subst e1 e2 e3
    exact hf
  | x :: xs, ds, Rs, bs, acc, t, h1, h2, h3, hR, hacc, hne, hf => by
    match ds, Rs, bs, h1, h2, h3 with
    | d :: ds, R :: Rs, b :: bs, h1, h2, h3 =>
      have hf1 := hf x (hR 0 x rfl) (fun hb => hacc 0 x rfl hb)
      show G (fillT ds (xs.map some) (t.setIfInBounds d x))
      refine fin_ofL xs ds Rs bs _ _ (by simpa using h1) (by simpa using h2) (by simpa using h3) (fun j y hy => hR (j + 1) y hy) (fun j y hy hb p hp => ?_) (fun j k y z hjk hy hz h4 h5 => hne (j + 1) (k + 1) y z (by omega) hy hz h4 h5) hf1
      split at hp
      · rename_i hb0
        rcases List.mem_cons.1 hp with rfl | hp
        · exact hne 0 (j + 1) p y (by omega) rfl hy hb0 hb
        · exact hacc (j + 1) y hy hb p hp
      · exact hacc (j + 1) y hy hb p hp
theorem fillT_erase : ∀ (q : Nat) (ds : List Nat) (xs : List (Option Value)) (t : Array Value), ds.length = xs.length → xs[q]? = some none → fillT ds xs t = fillT (ds.eraseIdx q) (xs.eraseIdx q) t
  | _, [], [], _, _, h => by simp at h
  | 0, d :: ds, x :: xs, t, _, h => by
    simp at h
    subst h
    rfl
  | q + 1, d :: ds, none :: xs, t, hl, h => fillT_erase q ds xs t (by simpa using hl) (by simpa using h)
  | q + 1, d :: ds, some v :: xs, t, hl, h => fillT_erase q ds xs _ (by simpa using hl) (by simpa using h)
theorem erase_map : ∀ (q : Nat) (l : List Value), (l.map some).eraseIdx q = (l.eraseIdx q).map some
  | _, [] => rfl
  | 0, a :: l => rfl
  | q + 1, a :: l => by
    show some a :: (l.map some).eraseIdx q = some a :: (l.eraseIdx q).map some
    rw [erase_map q l]
theorem range_map_get {x : Nat → Value} {m j : Nat} {y : Value} (h : ((List.range m).map x)[j]? = some y) : j < m ∧ y = x j := by
  by_cases hj : j < m
  · simp [hj] at h
    exact ⟨hj, h.symm⟩
  · rw [List.getElem?_eq_none (by simp; omega)] at h
    cases h
theorem erase_get {α : Type} {l : List α} {q j : Nat} {y : α} (h : (l.eraseIdx q)[j]? = some y) : l[if j < q then j else j + 1]? = some y := by
  rw [List.getElem?_eraseIdx] at h
  split at h <;> rename_i hq
  · rw [if_pos hq]; exact h
  · rw [if_neg hq]; exact h
theorem getD_erase {α : Type} {l : List α} {q j : Nat} (d : α) : (l.eraseIdx q).getD j d = l.getD (if j < q then j else j + 1) d := by
  rw [List.getD_eq_getElem?_getD, List.getD_eq_getElem?_getD, List.getElem?_eraseIdx]
  split <;> rfl
theorem region_seq {id : Nat} (m : Nat) (ds : List Nat) (Rs : List (Value → World → Prop)) (bs : List Bool) {a0 : Act} {v : World}
    (hmo : P.follows .mixedOrders = true) (hm : m ≤ ops.size) (hds : ds.length = m) (hRs : Rs.length = m) (hbs : bs.length = m) (hnd : ds.Nodup) (hsz : (ds.all fun d => decide (d < a0.tmps.size)) = true) (hlow : lowB .any ops m = true)
    (hst : allStb Rs) (hstep : stepsFrom P ops Q a0 v ds Rs (fun i => bs.getD i false) m 0)
    (hfin : ∀ (w' : World), Below v.heap.size v w' → finFrom w' (fun t => wpAny P .any ops Q (ops.size - m) (lst ops (List.replicate m true)) ⟨t, a0.defers⟩ w') ds Rs bs [] a0.tmps) :
    (Code.region id ops true).wp P Q a0 v := by
  refine region_first_many m ds (getR Rs) (fun i => bs.getD i false) hmo hm hds hnd hsz (live_low hm hlow) (fun i x w w' h hb => (hst.get i) x w w' h hb) (fun i hi a w hb hd hoff hdep K hK => ?_) (fun x w' hb hR hne => ?_)
  · exact hstep.get i (by omega) (by omega) a w hb hd hoff (fun o ho => depAll_of (fun e he hb => hdep o ho e (by simpa using he) hb)) K hK
  · have := fin_ofL (G := fun t => wpAny P .any ops Q (ops.size - m) (lst ops (List.replicate m true)) ⟨t, a0.defers⟩ w') ((List.range m).map x) ds Rs bs [] a0.tmps (by simpa using hds) (by simpa using hRs) (by simpa using hbs) (fun j y hy => by
      obtain ⟨hj, rfl⟩ := range_map_get hy
      exact hR j hj) (fun j y _ _ p hp => by simp at hp) (fun j k y z hjk hy hz h1 h2 => by
      obtain ⟨hj, rfl⟩ := range_map_get hy
      obtain ⟨hk, rfl⟩ := range_map_get hz
      exact hne j k hj hk hjk h1 h2) (hfin w' hb)
    rwa [List.map_map] at this
/-- The same where one operation q of the first m may come behind what follows. -/
theorem region_seqo {id : Nat} (q m : Nat) (ds : List Nat) (Rs : List (Value → World → Prop)) (bs : List Bool) {a0 : Act} {v : World}
    (hmo : P.follows .mixedOrders = true) (hm : m ≤ ops.size) (hq : q < m) (hds : ds.length = m) (hRs : Rs.length = m) (hbs : bs.length = m) (hnd : ds.Nodup) (hsz : (ds.all fun d => decide (d < a0.tmps.size)) = true) (hlow : lowqB .any ops m q = true) (hqb : bs.getD q false = false)
    (hst : allStb Rs) (hstep : stepsFrom P ops Q a0 v ds Rs (fun i => bs.getD i false) m 0)
    (hfin1 : ∀ (w' : World), Below v.heap.size v w' → finFrom w' (fun t => wpAny P .any ops Q (ops.size - m) (lst ops (List.replicate m true)) ⟨t, a0.defers⟩ w') ds Rs bs [] a0.tmps)
    (hfin2 : ∀ (w' : World), Below v.heap.size v w' → finFrom w' (fun t => wpAny P .any ops Q (1 + (ops.size - m)) (lst ops ((List.replicate m true).set q false)) ⟨t, a0.defers⟩ w') (ds.eraseIdx q) (Rs.eraseIdx q) (bs.eraseIdx q) [] a0.tmps) :
    (Code.region id ops true).wp P Q a0 v := by
  refine region_first_opt m ds (getR Rs) (fun i => bs.getD i false) (fun i => decide (i = q)) hmo hm hds hnd hsz (live_lowq hm hlow) (fun i x w w' h hb => (hst.get i) x w w' h hb) (fun i hi a w hb hd hoff hdep K hK => ?_) (fun x o k w' hb hR hne hk => ?_)
  · exact hstep.get i (by omega) (by omega) a w hb hd hoff (fun o ho => depAll_of (fun e he hb => hdep o ho e (by simpa using he) hb)) K hK
  · have hbq : ∀ i, bs.getD i false = true → decide (i = q) = false := fun i h => by
      simp; rintro rfl; rw [hqb] at h; cases h
    cases ho : o q with
    | true =>
      have e1 : ((List.range m).map fun i => !decide (i = q) || o i) = List.replicate m true := by
        apply List.ext_getElem?
        intro i
        by_cases hi : i < m
        · by_cases hiq : i = q
          · subst hiq; simp [hi, ho]
          · simp [hi, hiq]
        · rw [List.getElem?_eq_none (by simp; omega), List.getElem?_eq_none (by simp; omega)]
      have e2 : ((List.range m).map fun i => if !decide (i = q) || o i then some (x i) else none) = (List.range m).map fun i => some (x i) := by
        apply List.map_congr_left
        intro i _
        by_cases hiq : i = q
        · subst hiq; simp [ho]
        · simp [hiq]
      rw [e1] at hk
      have hk0 : k = 0 := by rw [← hk, List.count_replicate]; simp
      subst hk0
      rw [e1, e2, Nat.zero_add]
      have := fin_ofL (G := fun t => wpAny P .any ops Q (ops.size - m) (lst ops (List.replicate m true)) ⟨t, a0.defers⟩ w') ((List.range m).map x) ds Rs bs [] a0.tmps (by simpa using hds) (by simpa using hRs) (by simpa using hbs) (fun j y hy => by
        obtain ⟨hj, rfl⟩ := range_map_get hy
        refine hR j hj ?_
        by_cases h : j = q
        · subst h; exact .inr ho
        · exact .inl (by simp [h])) (fun j y _ _ p hp => by simp at hp) (fun j k y z hjk hy hz h1 h2 => by
        obtain ⟨hj, rfl⟩ := range_map_get hy
        obtain ⟨hk, rfl⟩ := range_map_get hz
        exact hne j k hj hk hjk (hbq j h1) (hbq k h2) h1 h2) (hfin1 w' hb)
      rwa [List.map_map] at this
    | false =>
      have e1 : ((List.range m).map fun i => !decide (i = q) || o i) = (List.replicate m true).set q false := by
        apply List.ext_getElem?
        intro i
        by_cases hi : i < m
        · by_cases hiq : i = q
          · subst hiq; simp [hi, ho]
          · simp [hi, hiq, Ne.symm hiq]
        · rw [List.getElem?_eq_none (by simp; omega), List.getElem?_eq_none (by simp; omega)]
      have e2 : ((List.range m).map fun i => if !decide (i = q) || o i then some (x i) else none) = (((List.range m).map x).map some).set q none := by
        apply List.ext_getElem?
        intro i
        by_cases hi : i < m
        · by_cases hiq : i = q
          · subst hiq; simp [hi, ho]
          · simp [hi, hiq, Ne.symm hiq]
        · rw [List.getElem?_eq_none (by simp; omega), List.getElem?_eq_none (by simp; omega)]
      rw [e1] at hk
      have hk1 : k = 1 := by
        rw [← hk, List.count_set (by simpa using hq), List.count_replicate]
        simp
      subst hk1
      rw [e1, e2, fillT_erase q _ _ _ (by simp [hds]) (by rw [List.getElem?_set]; simp [hq])]
      have e3 : ((((List.range m).map x).map some).set q none).eraseIdx q = (((List.range m).map x).eraseIdx q).map some := by
        rw [List.eraseIdx_set_eq]
        exact erase_map _ _
      rw [e3]
      have hlen : (((List.range m).map x).eraseIdx q).length = m - 1 := by rw [List.length_eraseIdx]; simp [hq]
      refine fin_ofL (G := fun t => wpAny P .any ops Q (1 + (ops.size - m)) (lst ops ((List.replicate m true).set q false)) ⟨t, a0.defers⟩ w') (((List.range m).map x).eraseIdx q) (ds.eraseIdx q) (Rs.eraseIdx q) (bs.eraseIdx q) [] a0.tmps ?_ ?_ ?_ (fun j y hy => ?_) (fun j y _ _ p hp => by simp at hp) (fun j k y z hjk hy hz h1 h2 => ?_) (hfin2 w' hb)
      · rw [hlen, List.length_eraseIdx, hds, if_pos hq]
      · rw [hlen, List.length_eraseIdx, hRs, if_pos hq]
      · rw [hlen, List.length_eraseIdx, hbs, if_pos hq]
      · obtain ⟨hj, rfl⟩ := range_map_get (erase_get hy)
        unfold getR
        rw [getD_erase]
        refine hR _ hj (.inl ?_)
        split <;> simp <;> omega
      · obtain ⟨hj, rfl⟩ := range_map_get (erase_get hy)
        obtain ⟨hk, rfl⟩ := range_map_get (erase_get hz)
        rw [getD_erase] at h1 h2
        refine hne _ _ hj hk ?_ (hbq _ h1) (hbq _ h2) h1 h2
        split <;> split <;> omega
theorem undef_bool {b : Bool} : undef ≠ .bool b := by intro h; cases h
theorem yielded_of {tmps : Array Value} {j d : Nat} {b : Bool} (h : ((ops[j]?).bind (·.dst)) = some d) (hd : tmps.getD d undef = .bool b) : yielded ops tmps j = some b := by
  unfold yielded
  rw [h]
  rw [Array.getD_eq_getD_getElem?] at hd
  cases h2 : tmps[d]? with
  | none => rw [h2] at hd; exact absurd hd undef_bool
  | some x => rw [h2] at hd; simp only [Option.getD_some] at hd; simp [h2, hd]
/-- An operation whose guard asks for what came up. -/
theorem rg_wanted {i j d : Nat} {b b' : Bool} {o : Oper} {K : Act → World → Prop} {a : Act} {w : World} (ho : ops[i]? = some o) (hg : o.guard = some (j, b)) (hj : ((ops[j]?).bind (·.dst)) = some d) (hd : a.tmps.getD d undef = .bool b') (hb : b' = b)
    (h : ∀ K' : Act → World → Prop, (∀ a w, K a w → K' a w) → Oper.wp P o a w K' Q) : wpOp P ops Q i K a w := by
  subst hb
  refine rg_in ho (fun K' hK => ?_)
  have : Region.wanted o (yielded ops a.tmps) = true := by simp [Region.wanted, hg, yielded_of hj hd]
  rw [if_pos this]
  exact h K' hK
theorem rg_unwanted {i j d : Nat} {b b' : Bool} {o : Oper} {K : Act → World → Prop} {a : Act} {w : World} (ho : ops[i]? = some o) (hg : o.guard = some (j, b)) (hj : ((ops[j]?).bind (·.dst)) = some d) (hd : a.tmps.getD d undef = .bool b') (hb : b' ≠ b)
    (h : K (a.put o.dst undef) w) : wpOp P ops Q i K a w := by
  unfold wpOp
  have hw : Region.wanted o (yielded ops a.tmps) = false := by simp [Region.wanted, hg, yielded_of hj hd, hb]
  simp only [ho, hw]
  exact h
theorem rg_free {i : Nat} {o : Oper} {K : Act → World → Prop} {a : Act} {w : World} (ho : ops[i]? = some o) (hg : o.guard = none)
    (h : ∀ K' : Act → World → Prop, (∀ a w, K a w → K' a w) → Oper.wp P o a w K' Q) : wpOp P ops Q i K a w := by
  refine rg_in ho (fun K' hK => ?_)
  rw [if_pos (by simp [Region.wanted, hg])]
  exact h K' hK
end
end Go.Proofs.Ytnofljgmkdommaa

/- Contracts: SameNat, SameFrac, and the law's one and known. -/
namespace Go.Proofs.Ytnofljgmkdommaa
open Go.RowKit

theorem ul_at {w : World} {A : Option Addr} {n : Nat} {l : List Nat} (h : Ul w none A n l) {k : Nat} (hk : k < n) : ∃ b o x, A = some ⟨b, o, none⟩ ∧ b < w.heap.size ∧ l[k]? = some x ∧ w.cell? ⟨b, o + k, none⟩ = some (.int .u32 (x : Int)) := by
  obtain ⟨b, o, x, h1, -, h3, h4, -, h6⟩ := h.at hk
  exact ⟨b, o, x, h1, h3, h4, h6⟩
set_option maxRecDepth 100000 in
set_option maxHeartbeats 4000000 in
theorem samenat_eq (w : World) (A B : Option Addr) (n c d : Nat) (l : List Nat) (hA : Ul w none A n l) (hB : Ul w none B n l) (hn : n ≤ 4294967296) :
    Calls Try.prog 34 #[.slice A n c, .slice B n d] w fun e w' => e = .returned (.bool true) ∧ Below w.heap.size w w' := by
  have HA := hide hA
  have HB := hide hB
  clear hA hB
  go_enter Try.func34, Try.ntmps34
  go_wp2_with fail
  go_loopw [5] (fun x wr => ∃ k m : Nat, k ≤ n ∧ x = .int .i64 k ∧ wr = w.drewN m) (fun x _ => n - (intOf x).toNat)
  case atStart => exact ⟨0, 0, by omega, rfl, rfl⟩
  case round =>
    obtain ⟨k, m, hk, rfl, rfl⟩ := hrel
    by_cases hlt : k < n
    · obtain ⟨b, o, x, rfl, hb, hx, hc⟩ := ul_at HA.out hlt
      obtain ⟨b2, o2, x2, rfl, hb2, hx2, hc2⟩ := ul_at HB.out hlt
      rw [hx] at hx2
      injection hx2 with hx2
      subst hx2
      have hi1 : (0 : Int) ≤ (k : Int) := by omega
      have hi2 : (k : Int) < (n : Int) := by omega
      clear hx
      go_wp2_with fail
      go_region_held3 (fun W => W.cell? ⟨b, o + k, none⟩ = some (.int .u32 (x : Int)) ∧ W.cell? ⟨b2, o2 + k, none⟩ = some (.int .u32 (x : Int))) (first | (go_keep; done) | ((try dsimp only); (repeat' apply And.intro) <;> first | (go_keep; done) | ((repeat rw [World.cell?_setCell_other _ _ _ _ (by intro h; injection h; omega)]); go_keep; done))) (fail)
      go_wp2_with fail
      go_roundw
      case rel => exact ⟨k + 1, m + 1, by omega, by go_num, rfl⟩
      case measure => simp [intOf]; omega
    · have hkn : decide ((k : Int) < (n : Int)) = false := by simp; omega
      go_wp2_with fail
      go_ret
      exact ⟨rfl, Dr.below ⟨m, rfl⟩⟩
theorem samenat_eq2 (w : World) (A B : Option Addr) (n m c d : Nat) (h : n = m) (l : List Nat) (hA : Ul w none A n l) (hB : Ul w none B m l) (hn : n ≤ 4294967296) :
    Calls Try.prog 34 #[.slice A n c, .slice B m d] w fun e w' => e = .returned (.bool true) ∧ Below w.heap.size w w' := by
  subst h
  exact samenat_eq w A B n c d l hA hB hn
/-- Two boxes. -/
structure F2 (w0 v : World) (a b : Fa) : Prop where
  bw : Below w0.heap.size w0 v
  c0 : v.cell? ⟨w0.heap.size, 0, none⟩ = some (.slice a.A a.n a.c)
  c1 : v.cell? ⟨w0.heap.size, 1, none⟩ = some (.slice a.B a.m a.d)
  d0 : v.cell? ⟨w0.heap.size + 1, 0, none⟩ = some (.slice b.A b.n b.c)
  d1 : v.cell? ⟨w0.heap.size + 1, 1, none⟩ = some (.slice b.B b.m b.d)
  sz : w0.heap.size + 1 < v.heap.size
theorem F2.below {w0 v v' : World} {a b : Fa} (h : F2 w0 v a b) (hb : Below v.heap.size v v') : F2 w0 v' a b := by
  have h1 := h.sz
  refine ⟨h.bw.trans (hb.mono h.bw.size), ?_, ?_, ?_, ?_, Nat.lt_of_lt_of_le h.sz hb.size⟩
  · rw [hb.cell (by simp; omega)]; exact h.c0
  · rw [hb.cell (by simp; omega)]; exact h.c1
  · rw [hb.cell (by simp; omega)]; exact h.d0
  · rw [hb.cell (by simp; omega)]; exact h.d1
theorem F2.mk0 {w0 : World} (a b : Fa) (t t' : TypeId) : F2 w0 ((w0.alloc (.cells #[.slice a.A a.n a.c, .slice a.B a.m a.d] t)).alloc (.cells #[.slice b.A b.n b.c, .slice b.B b.m b.d] t')) a b :=
  ⟨((Below.refl _ _).alloc (Nat.le_refl _) _).alloc (by simp) _, by simp [go_sem], by simp [go_sem], by simp [go_sem], by simp [go_sem], by simp⟩
set_option maxRecDepth 100000 in
set_option maxHeartbeats 4000000 in
theorem samefrac_eq (w : World) (a b : Fa) (o : Option Rat) (ha : Fo w a o) (hb : Fo w b o) :
    Calls Try.prog 14 #[.agg #[.slice a.A a.n a.c, .slice a.B a.m a.d], .agg #[.slice b.A b.n b.c, .slice b.B b.m b.d]] w fun e w' => e = .returned (.bool true) ∧ Below w.heap.size w w' := by
  have e1 : a.n = b.n := ha.1.u.len.symm.trans hb.1.u.len
  have e2 : a.m = b.m := ha.1.v.len.symm.trans hb.1.v.len
  have hn := ha.small.1
  have hm := ha.small.2
  have HE1 := hide e1
  have HE2 := hide e2
  clear e1 e2
  go_enter Try.func14, Try.ntmps14
  go_upto_region 1 with (fail)
  generalize hW : World.alloc (World.alloc w _) _ = v
  have HF := hide (show F2 w v a b by rw [← hW]; exact F2.mk0 a b _ _)
  have HA := hide (show Fq v a (numL o) (denL o) by rw [← hW]; exact (ha.1.alloc _).alloc _)
  have HB := hide (show Fq v b (numL o) (denL o) by rw [← hW]; exact (hb.1.alloc _).alloc _)
  clear hW ha hb
  obtain ⟨-, c0, c1, d0, d1, sz⟩ := HF.out
  go_wp2_with (first
    | (go_at_call 34; (with_reducible refine (samenat_eq2 _ a.A b.A a.n b.n a.c b.c HE1.out _ HA.out.u HB.out.u (by omega)).mono ?_); rintro e w1 ⟨rfl, hb⟩; have HF1 := hide (HF.out.below hb); have HA1 := hide (HA.out.below hb); have HB1 := hide (HB.out.below hb); obtain ⟨-, g0, g1, h0, h1, gz⟩ := HF1.out; clear hb)
    | (go_at_call 34; (with_reducible refine (samenat_eq2 _ a.B b.B a.m b.m a.d b.d HE2.out _ HA1.out.v HB1.out.v (by omega)).mono ?_); rintro e w2 ⟨rfl, hb⟩; have HF2 := hide (HF1.out.below hb); clear hb))
  go_ret
  exact ⟨rfl, HF2.out.bw⟩
end Go.Proofs.Ytnofljgmkdommaa

/- Contracts: the tape beside limbs; Chance, Inner, Two. -/
namespace Go.Proofs.Ytnofljgmkdommaa
open Go.RowKit

/-- The tape, with no limbs in its block. -/
structure Tp (w : World) (T : Nat) (A : Option Addr) (n c : Nat) (l : List Int) (a : Nat) : Prop where
  t : TapeAt w T A n c l a
  nb : NB w T
theorem Tp.below {w w' : World} {T : Nat} {A : Option Addr} {n c : Nat} {l : List Int} {a : Nat} (h : Tp w T A n c l a) (hb : Below w.heap.size w w') : Tp w' T A n c l a := ⟨h.t.below hb, h.nb.below h.t.1 hb⟩
theorem Tp.alloc {w : World} {T : Nat} {A : Option Addr} {n c : Nat} {l : List Int} {a : Nat} (h : Tp w T A n c l a) (o : Obj) : Tp (w.alloc o) T A n c l a := h.below ((Below.refl _ _).alloc (Nat.le_refl _) _)
theorem NB.one {w w' : World} {g g' : Nat} (h : NB w g) (hf : Fr w w' (fun b => b = g')) (hs : g < w.heap.size) (hg : g ≠ g') : NB w' g := by
  intro j x
  rw [World.cell?_of_block (w := w) (a := ⟨g, j, none⟩) (hf.block g hs hg)]
  exact h j x
/-- A later block changes. -/
theorem Tp.one {w0 w w' : World} {T : Nat} {A : Option Addr} {n c : Nat} {l : List Int} {a0 a : Nat} (h0 : Tp w0 T A n c l a0) (h : Tp w T A n c l a) {g : Nat} (hg : w0.heap.size ≤ g) (hf : Fr w w' (fun b => b = g)) : Tp w' T A n c l a := by
  have hT := h0.t.1
  refine ⟨h.t.fr hf (by show ¬ T = g; omega) (fun b o hA hl => ?_), h.nb.one hf h.t.1 (by omega)⟩
  obtain ⟨b', o', h1, -, h3, -⟩ := h0.t.2.2.2.2.1 hl
  rw [hA] at h1
  injection h1 with h1
  injection h1 with h1
  show ¬ b = g
  omega
set_option maxHeartbeats 1000000 in
theorem nextp_any (w : World) (T : Nat) (A : Option Addr) (n c : Nat) (l : List Int) (a : Nat) (N : Int) (hP : Tp w T A n c l a) (ha : a ≤ 4294967296) (hN : N ≤ 4294967296) :
    Calls Try.prog 22 #[.pointer (some ⟨T, 0, none⟩), .int .i64 N] w fun e w' => e = .returned (.int .i64 (tapeV l a N)) ∧ Tp w' T A n c l (a + 1) ∧ Fr w w' (fun b => b = T) := by
  have hT := hP.t
  have HP := hide hP
  clear hP
  have HT := hide hT
  obtain ⟨h1, h2, h3, h4, h5, h6⟩ := hT
  by_cases hlt : a < n
  · obtain ⟨b, o, rfl, hne, hb, hc⟩ := ints_at h5 (k := a) (by omega)
    obtain ⟨x, hx⟩ : ∃ x, x = l[a]'(by omega) := ⟨_, rfl⟩
    rw [← hx] at hc
    have HV := hide (fold_next l a N x (by rw [dif_pos (by omega)]; exact hx))
    have ht : decide (a < n) = true := by simpa using hlt
    have hi1 : (0 : Int) ≤ (a : Int) := by omega
    have hi2 : (a : Int) < (n : Int) := by omega
    have hbT : ¬ b = T := fun e => hne (by rw [e])
    clear h5 h6 hx
    go_enter Try.func22, Try.ntmps22
    go_wp2_with fail
    go_region_held3 (fun W => W.cell? ⟨T, 0, none⟩ = some (.slice (some ⟨b, o, none⟩) n c) ∧ W.cell? ⟨T, 1, none⟩ = some (.int .i64 a)) (first | (go_keep; done) | ((try dsimp only); (repeat' apply And.intro) <;> first | (go_keep; done) | ((repeat rw [World.cell?_setCell_other _ _ _ _ (by intro h; injection h; omega)]); go_keep; done))) (fail)
    go_wp2_with fail
    go_region_held3 (fun W => W.cell? ⟨T, 0, none⟩ = some (.slice (some ⟨b, o, none⟩) n c) ∧ W.cell? ⟨T, 1, none⟩ = some (.int .i64 a) ∧ W.cell? ⟨b, o + a, none⟩ = some (.int .i64 x)) (first | (go_keep; done) | ((try dsimp only); (repeat' apply And.intro) <;> first | (go_keep; done) | ((repeat rw [World.cell?_setCell_other _ _ _ _ (by intro h; injection h; omega)]); go_keep; done))) (fail)
    go_wp2_with (go_at_call 15; refine (fold_any _ _ _ hN).mono ?_; rintro e w1 ⟨rfl, rfl⟩)
    go_ret
    exact ⟨ret_int HV.out, ⟨tape_put HT.out, HP.out.nb.put 1 (by simp)⟩, fr_put.drew.drew⟩
  · have HV := hide (fold_next l a N ((a : Int) * 7 % 11) (by rw [dif_neg (by omega)]))
    have ht : decide (a < n) = false := by simpa using hlt
    clear h5 h6
    go_enter Try.func22, Try.ntmps22
    go_wp2_with fail
    go_region_held3 (fun W => W.cell? ⟨T, 0, none⟩ = some (.slice A n c) ∧ W.cell? ⟨T, 1, none⟩ = some (.int .i64 a)) (first | (go_keep; done) | ((try dsimp only); (repeat' apply And.intro) <;> first | (go_keep; done) | ((repeat rw [World.cell?_setCell_other _ _ _ _ (by intro h; injection h; omega)]); go_keep; done))) (fail)
    go_wp2_with (go_at_call 15; refine (fold_any _ _ _ hN).mono ?_; rintro e w1 ⟨rfl, rfl⟩)
    go_ret
    exact ⟨ret_int HV.out, ⟨tape_put HT.out, HP.out.nb.put 1 (by simp)⟩, fr_put.drew⟩

set_option maxHeartbeats 400000 in
theorem pickp_any (w : World) (T : Nat) (A : Option Addr) (n c : Nat) (l : List Int) (a : Nat) (g m d : Nat) (xs : List Int) (hT : Tp w T A n c l a) (ha : a ≤ 4294967296)
    (hx : Rs w (some T) 1 iv (some ⟨g, 0, none⟩) xs) (hl : xs.length = m) (h0 : 0 < m) (hm : m ≤ 4294967296) :
    Calls Try.prog 44 #[.pointer (some ⟨T, 0, none⟩), .slice (some ⟨g, 0, none⟩) m d] w fun e w' => (∃ v, v ∈ xs ∧ e = .returned (.int .i64 v)) ∧ Tp w' T A n c l (a + 1) ∧ Fr w w' (fun b => b = T) := by
  have hv := tapeV_lo l a m
  obtain ⟨k, hk⟩ : ∃ k : Nat, tapeV l a m = k := ⟨(tapeV l a m).toNat, by omega⟩
  have hkm : k < m := by omega
  obtain ⟨b, o, hA, hne, hb, hc⟩ := ints_at hx (k := k) (by omega)
  obtain ⟨rfl, rfl⟩ : b = g ∧ o = 0 := by simp at hA; omega
  have hbT : ¬ b = T := fun e => hne (by rw [e])
  obtain ⟨x, hxx⟩ : ∃ x, x = xs[k]'(by omega) := ⟨_, rfl⟩
  rw [← hxx] at hc
  have HM := hide (show x ∈ xs from by rw [hxx]; exact List.getElem_mem _)
  have hmI : (0 : Int) < (m : Int) := by omega
  have hkI : (k : Int) < (m : Int) := by omega
  have hkJ : (0 : Int) ≤ (k : Int) := by omega
  have HK := hide hk
  have HX := hide hx
  clear hA hxx hl hv hk hx
  have hm0 : ((m : Int) == 0) = false := by simp; omega
  go_enter Try.func44, Try.ntmps44
  go_wp2_with (go_at_call 22; refine (nextp_any _ T A n c l a m hT ha (by omega)).mono ?_; rintro e w1 ⟨rfl, ht1, hf1⟩; rw [HK.out]; have hc1 : w1.cell? ⟨b, 0 + k, none⟩ = some (.int .i64 x) := (by rw [← hc]; exact World.cell?_of_block (w := w) (hf1.block b hb hbT)); simp only [Nat.zero_add] at hc1)
  go_ret
  exact ⟨⟨_, HM.out, rfl⟩, ht1, hf1⟩


theorem mk_den_le (x y : Nat) (hy : 0 < y) : (mkRat x y).den ≤ y := by rw [mk_den x y hy]; exact Nat.div_le_self _ _
theorem mk_le_one {x y : Nat} (hy : 0 < y) (h : x ≤ y) : mkRat x y ≤ 1 := by
  rw [le_iff_n (mk_nonneg x y) (by decide), mk_num x y hy, mk_den x y hy, show rn 1 = 1 from rfl, show (1 : Rat).den = 1 from rfl, Nat.mul_one, Nat.one_mul]
  exact Nat.div_le_div_right h
theorem mk_chn {x y : Nat} (hy : 0 < y) (h : x ≤ y) (hd : y ≤ 1000) : Chn (mkRat x y) := ⟨mk_nonneg x y, mk_le_one hy h, Nat.le_trans (mk_den_le x y hy) hd⟩
/-- What a maker of chances returns. -/
def Mk (w : World) (T : Nat) (A : Option Addr) (n c : Nat) (l : List Int) (a : Nat) (e : Ending) (w' : World) : Prop :=
  ∃ (f : Fa) (r : Rat), e = .returned (.agg #[.slice f.A f.n f.c, .slice f.B f.m f.d]) ∧ Fo w' f (some r) ∧ Chn r ∧ Tp w' T A n c l a ∧ Fr w w' (fun b => b = T)
theorem mem_nat {v : Int} {l : List Int} (h : v ∈ l) (hl : (l.all fun i => decide (1 ≤ i) && decide (i ≤ 1000)) = true) : ∃ d : Nat, v = d ∧ 1 ≤ d ∧ d ≤ 1000 := by
  have := List.all_eq_true.1 hl v h
  simp at this
  exact ⟨v.toNat, by omega, by omega, by omega⟩
set_option maxRecDepth 100000 in
set_option maxHeartbeats 4000000 in
theorem chancem_any (w : World) (T : Nat) (A : Option Addr) (n c : Nat) (l : List Int) (a : Nat) (hP : Tp w T A n c l a) (ha : a ≤ 4294967000) :
    Calls Try.prog 21 #[.pointer (some ⟨T, 0, none⟩)] w fun e w' => Mk w T A n c l (a + 2) e w' := by
  have HP0 := hide hP
  have hTl := hP.t.1
  go_enter Try.func21, Try.ntmps21
  go_upto_region 1 with (fail)
  generalize hW : World.alloc w _ = v
  have HR := hide (show Rb v w.heap.size by rw [← hW]; exact Rb.mk0 _ rfl)
  have HF := hide (show Fr w v (fun b => b = T) by rw [← hW]; exact (Fr.refl _ _).alloc _)
  have HP := hide (show Tp v T A n c l a by rw [← hW]; exact hP.alloc _)
  clear hW hP
  have hvz := HR.out.sz
  go_upto_region 2 with (go_at_call 44; refine (pickp_any _ T A n c l a _ 9 9 [1, 2, 3, 4, 10, 100, 1000, 997, 7] (HP.out.alloc _) (by omega) (rs_new (by omega) [1, 2, 3, 4, 10, 100, 1000, 997, 7] 3) rfl (by decide) (by decide)).mono ?_; rintro e w1 ⟨⟨v1, hv, rfl⟩, hp1, hf1⟩; have HV := hide (mem_nat hv (by decide)); have HP1 := hide hp1; have HR1 := hide (((HR.out.bq.alloc _).one hf1 (by omega)).rb); have HF1 := hide ((HF.out.alloc _).trans hf1); clear hv hp1 hf1)
  obtain ⟨d, rfl, hd1, hd2⟩ := HV.out
  have hw : IntKind.i64.wrap ((d : Int) + 1) = (d : Int) + 1 := IntWalk.i64_in _ (by omega)
  go_wp2_with (first
    | (go_at_call 22; refine (nextp_any _ T A n c l (a + 1) ((d : Int) + 1) HP1.out (by omega) (by omega)).mono ?_; rintro e w2 ⟨rfl, hp2, hf2⟩; have HX := hide (show ∃ x : Nat, tapeV l (a + 1) ((d : Int) + 1) = (x : Int) ∧ x ≤ d by have := tapeV_lo l (a + 1) ((d : Int) + 1); exact ⟨(tapeV l (a + 1) ((d : Int) + 1)).toNat, by omega, by omega⟩); have HP2 := hide hp2; have HR2 := hide ((HR1.out.bq.one hf2 (by omega)).rb); have HF2 := hide (HF1.out.trans (hf2.mono (fun _ _ h => h))); clear hp2 hf2; obtain ⟨x, hx, hxd⟩ := HX.out; rw [hx]; clear hx HX)
    | (go_at_call 18; (with_reducible refine (small_any _ x d (by omega) (by omega) (by omega)).mono ?_); rintro e w3 ⟨f, rfl, ho, hb⟩; have HO := hide ho; have HP3 := hide (HP2.out.below hb); have HR3 := hide (HR2.out.below hb); have HF3 := hide (HF2.out.below_ hb); obtain ⟨r0, r1, rf, rz, -⟩ := HR3.out; clear ho hb))
  refine bodyPost_ret (v := .agg #[.slice f.A f.n f.c, .slice f.B f.m f.d]) (by simp [results, Try.results21, go_sem, *]) rfl ⟨f, mkRat x d, rfl, HO.out.put2 HR3.out.nb _ _ (by simp), mk_chn (by omega) hxd hd2, HP0.out.one HP3.out (Nat.le_refl _) (fr_fill _ _), (HF3.out.setCell (.inl (Nat.le_refl _)) _).setCell (.inl (Nat.le_refl _)) _⟩
end Go.Proofs.Ytnofljgmkdommaa
