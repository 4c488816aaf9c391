/- Contracts of the functions that these laws reach: part 17: A region that draws its order, all of whose operations only read or make memory: each operation once, in whatever order; Boxes of any number of cells; contract: Noise; Contracts: the reference's noise: Of, Rest; Contract: the reference's Chance; Contracts: Check of a noise model, the program's and the reference's; Words for specifications; contracts: sequential.inner, Check; Contracts: the reference's inner, Check of a specification; Contracts: sequential.power, ratio; Contracts: counts, the program's and the reference's; Contracts: sequential.Ratio, decide, Decide; Contracts: sequential.decide, Decide; Contract: sequential.Limits; Contract: sequential.Run; A box whose cells are set; the tape's Chance beside limbs; contract: the law's spec; Contract: the maker of specifications of the sequential laws; Contract: the maker of specifications of the rerun laws; Contracts: the sequential laws' example and known; Plain laws of the verdicts of attempts; Contracts: rerun.after, rerun.check; Contracts: rerun.taken; the iterator. -/
import Derived.Test.YtjkffgcikbkjeaaGreatP9
import Derived.Test.YtjkffgcikbkjeaaGreatP11
import Derived.Test.YtjkffgcikbkjeaaGreatP16
import Derived.RangeFuncNested
import Derived.RangeFuncBound
import Derived.RangeFuncCalls
import Derived.RangeFuncLeaves
import Derived.Shelf.Abstract
import Derived.Shelf.RegionOpen
import Derived.OwnWalkIn
import Derived.TacticsInMore
import Derived.LoopNIn
import Derived.LoopIn
set_option linter.unusedVariables false
set_option linter.unusedSimpArgs false

/- A region that draws its order, all of whose operations only read or make memory: each operation once, in whatever order. -/
namespace Go.Proofs.YtjkffgcikbkjeaaGreat
open Go.RowKit

section
variable {P : Program} {md : Region.Mode} {ops : Array Oper} {Q : Exit → Act → World → Prop}

/-- Each operation waits for earlier ones alone; those behind the first m wait for all of these. -/
def lowB (md : Region.Mode) (ops : Array Oper) (m : Nat) : Bool :=
  (List.range ops.size).all fun i => match ops[i]? with
    | some o => (o.after.all fun e => !Region.binds md e || decide (e.on < i)) && (decide (i < m) || (o.after.any fun e => Region.binds md e && decide (m ≤ e.on)) || (List.range m).all fun j => o.after.any fun e => Region.binds md e && decide (e.on = j))
    | none => true
theorem masks_len : ∀ {m : Nat} {l : List Bool}, l ∈ masks m → l.length = m
  | 0, l, h => by simp [masks] at h; subst h; rfl
  | m + 1, l, h => by
    have h2 : ∃ a ∈ masks m, l = true :: a ∨ l = false :: a := by simpa [masks] using h
    obtain ⟨a, ha, h3⟩ := h2
    have := masks_len ha
    rcases h3 with rfl | rfl <;> simp [this]
theorem least_false : ∀ {m : Nat} {l : List Bool}, (List.range m).all (fun i => l.getD i false) = false → ∃ i, i < m ∧ l.getD i false = false ∧ ∀ j, j < i → l.getD j false = true
  | 0, l, h => by simp at h
  | m + 1, l, h => by
    by_cases h1 : (List.range m).all (fun i => l.getD i false) = false
    · obtain ⟨i, h2, h3, h4⟩ := least_false h1
      exact ⟨i, by omega, h3, h4⟩
    · have h1 : (List.range m).all (fun i => l.getD i false) = true := by simpa using h1
      rw [List.range_succ, List.all_append, h1] at h
      refine ⟨m, by omega, by simpa using h, fun j hj => ?_⟩
      exact List.all_eq_true.1 h1 j (by simpa using hj)
theorem live_low {m : Nat} (hm : m ≤ ops.size) (h : lowB md ops m = true) : liveB md ops m = true := by
  unfold liveB
  rw [List.all_eq_true]
  intro l hl
  have hlen := masks_len hl
  have hlo : l.length ≤ ops.size := by omega
  cases hall : (List.range m).all (fun i => (fun _ : Nat => false) i || l.getD i false) with
  | true => rfl
  | false =>
    rw [Bool.false_or]
    cases hcl : closedB md ops l with
    | false => rfl
    | true =>
      rw [Bool.not_true, Bool.false_or]
      have hall' : (List.range m).all (fun i => l.getD i false) = false := by simpa using hall
      obtain ⟨i, him, hif, hil⟩ := least_false hall'
      have hlow : ∀ j o, ops[j]? = some o → (∀ e ∈ o.after, Region.binds md e = true → e.on < j) ∧ (j < m ∨ (∃ e ∈ o.after, Region.binds md e = true ∧ m ≤ e.on) ∨ ∀ k, k < m → ∃ e ∈ o.after, Region.binds md e = true ∧ e.on = k) := by
        intro j o ho
        have hj : j < ops.size := (Array.getElem?_eq_some_iff.1 ho).1
        have := List.all_eq_true.1 h j (by simpa using hj)
        rw [ho] at this
        simp only [Bool.and_eq_true, Bool.or_eq_true, decide_eq_true_eq, Array.all_eq_true_iff_forall_mem, Array.any_eq_true', List.all_eq_true, List.mem_range] at this
        refine ⟨fun e he hb => ?_, by
          rcases this.2 with (h1 | h1) | h1
          · exact .inl h1
          · exact .inr (.inl h1)
          · exact .inr (.inr h1)⟩
        have h2 := this.1 e he
        simpa [hb] using h2
      have hr : i ∈ Region.ready md ops (lst ops l) := by
        refine mem_ready.2 ⟨?_, ops[i]'(by omega), by simp, fun e he hb => ?_⟩
        · rw [Array.getD_eq_getD_getElem?, lst_get (by omega) hlo]; exact hif
        · have h1 := (hlow i _ (by simp : ops[i]? = some (ops[i]'(by omega)))).1 e he hb
          rw [Array.getD_eq_getD_getElem?, lst_get (by omega) hlo]; exact hil _ h1
      have hne : (Region.ready md ops (lst ops l)).isEmpty = false := by
        cases he : Region.ready md ops (lst ops l) with
        | nil => rw [he] at hr; simp at hr
        | cons a b => rfl
      rw [hne]
      simp only [Bool.not_false, Bool.true_and, List.all_eq_true, decide_eq_true_eq]
      intro j hj
      obtain ⟨hun, o, ho, hdep⟩ := mem_ready.1 hj
      rcases (hlow j o ho).2 with h1 | ⟨e, he, hb, hme⟩ | h1
      · exact h1
      · exfalso
        have h2 := hdep e he hb
        rw [Array.getD_eq_getD_getElem?] at h2
        by_cases hlo2 : e.on < ops.size
        · rw [lst_get hlo2 hlo, List.getD_eq_getElem?_getD, List.getElem?_eq_none (by omega)] at h2
          simp at h2
        · have : (lst ops l)[e.on]? = none := by
            unfold lst
            rw [List.getElem?_toArray, List.getElem?_eq_none (by simp; omega)]
          rw [this] at h2; simp at h2
      · exfalso
        obtain ⟨e, he, hb, hei⟩ := h1 i him
        have h2 := hdep e he hb
        rw [Array.getD_eq_getD_getElem?, lst_get (by omega) hlo, hei, Option.getD_some, hif] at h2
        exact absurd h2 (by simp)

/-- Those behind the first m wait for all of these but q. -/
def lowqB (md : Region.Mode) (ops : Array Oper) (m q : Nat) : Bool :=
  (List.range ops.size).all fun i => match ops[i]? with
    | some o => (o.after.all fun e => !Region.binds md e || decide (e.on < i)) && (decide (i < m) || (o.after.any fun e => Region.binds md e && decide (m ≤ e.on)) || (List.range m).all fun j => decide (j = q) || o.after.any fun e => Region.binds md e && decide (e.on = j))
    | none => true
/-- A value that is known. -/
def eqV (u : Value) : Value → World → Prop := fun x _ => x = u
def getR (Rs : List (Value → World → Prop)) (i : Nat) : Value → World → Prop := Rs.getD i (fun _ _ => True)
def Stb (R : Value → World → Prop) : Prop := ∀ x w w', R x w → Below w.heap.size w w' → R x w'
theorem stb_eq (u : Value) : Stb (eqV u) := fun _ _ _ h _ => h
def allStb : List (Value → World → Prop) → Prop
  | [] => True
  | R :: l => Stb R ∧ allStb l
theorem allStb.get : ∀ {Rs : List (Value → World → Prop)}, allStb Rs → ∀ i, Stb (getR Rs i)
  | [], _, i => fun _ _ _ _ _ => trivial
  | R :: l, h, 0 => h.1
  | R :: l, h, i + 1 => h.2.get i
/-- What is known of those that an operation waits for. -/
def depAll (Rs : List (Value → World → Prop)) (ds : List Nat) (a : Act) (w : World) : List Edge → Prop
  | [] => True
  | e :: l => (cond (Region.binds .any e) (getR Rs e.on (a.tmps.getD (ds.getD e.on 0) undef) w) True) ∧ depAll Rs ds a w l
theorem binds_data (k : Nat) : Region.binds .any ⟨k, .data⟩ = true := rfl
theorem binds_chain (k : Nat) : Region.binds .any ⟨k, .chain⟩ = true := rfl
theorem binds_guard (k : Nat) : Region.binds .any ⟨k, .guard⟩ = true := rfl
theorem binds_phase (k : Nat) : Region.binds .any ⟨k, .phase⟩ = true := rfl
theorem binds_text (k : Nat) (d : Departure) : Region.binds .any ⟨k, .textOnly d⟩ = false := rfl
theorem binds_gc (k : Nat) (d : Departure) : Region.binds .any ⟨k, .gcOnly d⟩ = false := rfl
/-- One operation of such a region. -/
def StepAt (P : Program) (ops : Array Oper) (Q : Exit → Act → World → Prop) (a0 : Act) (v : World) (ds : List Nat) (Rs : List (Value → World → Prop)) (al : Nat → Bool) (i : Nat) : Prop :=
  ∀ (a : Act) (w : World), Below v.heap.size v w → a.defers = a0.defers → (∀ t, ds.contains t = false → a.tmps.getD t undef = a0.tmps.getD t undef) →
    (∀ o, ops[i]? = some o → depAll Rs ds a w o.after.toList) →
    ∀ K : Act → World → Prop, (∀ x w', getR Rs i x w' → Below w.heap.size w w' → (al i = true → ∃ b, x = .pointer (some ⟨b, 0, none⟩) ∧ w.heap.size ≤ b ∧ b < w'.heap.size) → K (a.put (some (ds.getD i 0)) x) w') → wpOp P ops Q i K a w
def stepsFrom (P : Program) (ops : Array Oper) (Q : Exit → Act → World → Prop) (a0 : Act) (v : World) (ds : List Nat) (Rs : List (Value → World → Prop)) (al : Nat → Bool) : Nat → Nat → Prop
  | 0, _ => True
  | n + 1, i => StepAt P ops Q a0 v ds Rs al i ∧ stepsFrom P ops Q a0 v ds Rs al n (i + 1)
theorem stepsFrom.get {a0 : Act} {v : World} {ds : List Nat} {Rs : List (Value → World → Prop)} {al : Nat → Bool} : ∀ {n i : Nat}, stepsFrom P ops Q a0 v ds Rs al n i → ∀ j, i ≤ j → j < i + n → StepAt P ops Q a0 v ds Rs al j
  | 0, i, _, j, h1, h2 => by omega
  | n + 1, i, h, j, h1, h2 => by
    by_cases hj : j = i
    · subst hj; exact h.1
    · exact h.2.get j (by omega) (by omega)
theorem depAll_of {Rs : List (Value → World → Prop)} {ds : List Nat} {a : Act} {w : World} : ∀ {l : List Edge}, (∀ e ∈ l, Region.binds .any e = true → getR Rs e.on (a.tmps.getD (ds.getD e.on 0) undef) w) → depAll Rs ds a w l
  | [], _ => trivial
  | e :: l, h => by
    refine ⟨?_, depAll_of (fun e he => h e (by simp [he]))⟩
    cases hb : Region.binds .any e with
    | true => exact h e (by simp) hb
    | false => exact trivial
/-- What comes behind: each value with what is known of it; new variables differ. -/
def finFrom (w : World) (G : Array Value → Prop) : List Nat → List (Value → World → Prop) → List Bool → List Value → Array Value → Prop
  | d :: ds, R :: Rs, b :: bs, acc, t => ∀ x, R x w → (b = true → ∀ p ∈ acc, p ≠ x) → finFrom w G ds Rs bs (if b = true then x :: acc else acc) (t.setIfInBounds d x)
  | _, _, _, _, t => G t
theorem fin_eq {w : World} {G : Array Value → Prop} {d : Nat} {ds : List Nat} {u : Value} {Rs : List (Value → World → Prop)} {bs : List Bool} {acc : List Value} {t : Array Value} (h : finFrom w G ds Rs bs acc (t.setIfInBounds d u)) : finFrom w G (d :: ds) (eqV u :: Rs) (false :: bs) acc t := by
  intro x hx _
  have hx : x = u := hx
  subst hx
  exact h
theorem fin_any {w : World} {G : Array Value → Prop} {d : Nat} {ds : List Nat} {R : Value → World → Prop} {Rs : List (Value → World → Prop)} {bs : List Bool} {acc : List Value} {t : Array Value} (h : ∀ x, R x w → finFrom w G ds Rs bs acc (t.setIfInBounds d x)) : finFrom w G (d :: ds) (R :: Rs) (false :: bs) acc t :=
  fun x hx _ => h x hx
theorem fin_nil {w : World} {G : Array Value → Prop} {Rs : List (Value → World → Prop)} {bs : List Bool} {acc : List Value} {t : Array Value} (h : G t) : finFrom w G [] Rs bs acc t := h
theorem fin_ofL {w : World} {G : Array Value → Prop} : ∀ (xs : List Value) (ds : List Nat) (Rs : List (Value → World → Prop)) (bs : List Bool) (acc : List Value) (t : Array Value),
    ds.length = xs.length → Rs.length = xs.length → bs.length = xs.length → (∀ j y, xs[j]? = some y → getR Rs j y w) → (∀ j y, xs[j]? = some y → bs.getD j false = true → ∀ p ∈ acc, p ≠ y) →
    (∀ j k y z, j < k → xs[j]? = some y → xs[k]? = some z → bs.getD j false = true → bs.getD k false = true → y ≠ z) →
    finFrom w G ds Rs bs acc t → G (fillT ds (xs.map some) t)
  | [], ds, Rs, bs, acc, t, h1, h2, h3, _, _, _, hf => by
    have e1 := List.eq_nil_of_length_eq_zero h1
    have e2 := List.eq_nil_of_length_eq_zero h2
    have e3 := List.eq_nil_of_length_eq_zero h3
    subst e1 e2 e3
    exact hf
  | x :: xs, ds, Rs, bs, acc, t, h1, h2, h3, hR, hacc, hne, hf => by
    match ds, Rs, bs, h1, h2, h3 with
    | d :: ds, R :: Rs, b :: bs, h1, h2, h3 =>
      have hf1 := hf x (hR 0 x rfl) (fun hb => hacc 0 x rfl hb)
      show G (fillT ds (xs.map some) (t.setIfInBounds d x))
      refine fin_ofL xs ds Rs bs _ _ (by simpa using h1) (by simpa using h2) (by simpa using h3) (fun j y hy => hR (j + 1) y hy) (fun j y hy hb p hp => ?_) (fun j k y z hjk hy hz h4 h5 => hne (j + 1) (k + 1) y z (by omega) hy hz h4 h5) hf1
      split at hp
      · rename_i hb0
        rcases List.mem_cons.1 hp with rfl | hp
        · exact hne 0 (j + 1) p y (by omega) rfl hy hb0 hb
        · exact hacc (j + 1) y hy hb p hp
      · exact hacc (j + 1) y hy hb p hp
theorem range_map_get {x : Nat → Value} {m j : Nat} {y : Value} (h : ((List.range m).map x)[j]? = some y) : j < m ∧ y = x j := by
  by_cases hj : j < m
  · simp [hj] at h
    exact ⟨hj, h.symm⟩
  · rw [List.getElem?_eq_none (by simp; omega)] at h
    cases h
theorem region_seq {id : Nat} (m : Nat) (ds : List Nat) (Rs : List (Value → World → Prop)) (bs : List Bool) {a0 : Act} {v : World}
    (hmo : P.follows .mixedOrders = true) (hm : m ≤ ops.size) (hds : ds.length = m) (hRs : Rs.length = m) (hbs : bs.length = m) (hnd : ds.Nodup) (hsz : (ds.all fun d => decide (d < a0.tmps.size)) = true) (hlow : lowB .any ops m = true)
    (hst : allStb Rs) (hstep : stepsFrom P ops Q a0 v ds Rs (fun i => bs.getD i false) m 0)
    (hfin : ∀ (w' : World), Below v.heap.size v w' → finFrom w' (fun t => wpAny P .any ops Q (ops.size - m) (lst ops (List.replicate m true)) ⟨t, a0.defers⟩ w') ds Rs bs [] a0.tmps) :
    (Code.region id ops true).wp P Q a0 v := by
  refine region_first_many m ds (getR Rs) (fun i => bs.getD i false) hmo hm hds hnd hsz (live_low hm hlow) (fun i x w w' h hb => (hst.get i) x w w' h hb) (fun i hi a w hb hd hoff hdep K hK => ?_) (fun x w' hb hR hne => ?_)
  · exact hstep.get i (by omega) (by omega) a w hb hd hoff (fun o ho => depAll_of (fun e he hb => hdep o ho e (by simpa using he) hb)) K hK
  · have := fin_ofL (G := fun t => wpAny P .any ops Q (ops.size - m) (lst ops (List.replicate m true)) ⟨t, a0.defers⟩ w') ((List.range m).map x) ds Rs bs [] a0.tmps (by simpa using hds) (by simpa using hRs) (by simpa using hbs) (fun j y hy => by
      obtain ⟨hj, rfl⟩ := range_map_get hy
      exact hR j hj) (fun j y _ _ p hp => by simp at hp) (fun j k y z hjk hy hz h1 h2 => by
      obtain ⟨hj, rfl⟩ := range_map_get hy
      obtain ⟨hk, rfl⟩ := range_map_get hz
      exact hne j k hj hk hjk h1 h2) (hfin w' hb)
    rwa [List.map_map] at this
theorem undef_bool {b : Bool} : undef ≠ .bool b := by intro h; cases h
theorem yielded_of {tmps : Array Value} {j d : Nat} {b : Bool} (h : ((ops[j]?).bind (·.dst)) = some d) (hd : tmps.getD d undef = .bool b) : yielded ops tmps j = some b := by
  unfold yielded
  rw [h]
  rw [Array.getD_eq_getD_getElem?] at hd
  cases h2 : tmps[d]? with
  | none => rw [h2] at hd; exact absurd hd undef_bool
  | some x => rw [h2] at hd; simp only [Option.getD_some] at hd; simp [h2, hd]
/-- An operation whose guard asks for what came up. -/
theorem rg_wanted {i j d : Nat} {b b' : Bool} {o : Oper} {K : Act → World → Prop} {a : Act} {w : World} (ho : ops[i]? = some o) (hg : o.guard = some (j, b)) (hj : ((ops[j]?).bind (·.dst)) = some d) (hd : a.tmps.getD d undef = .bool b') (hb : b' = b)
    (h : ∀ K' : Act → World → Prop, (∀ a w, K a w → K' a w) → Oper.wp P o a w K' Q) : wpOp P ops Q i K a w := by
  subst hb
  refine rg_in ho (fun K' hK => ?_)
  have : Region.wanted o (yielded ops a.tmps) = true := by simp [Region.wanted, hg, yielded_of hj hd]
  rw [if_pos this]
  exact h K' hK
theorem rg_unwanted {i j d : Nat} {b b' : Bool} {o : Oper} {K : Act → World → Prop} {a : Act} {w : World} (ho : ops[i]? = some o) (hg : o.guard = some (j, b)) (hj : ((ops[j]?).bind (·.dst)) = some d) (hd : a.tmps.getD d undef = .bool b') (hb : b' ≠ b)
    (h : K (a.put o.dst undef) w) : wpOp P ops Q i K a w := by
  unfold wpOp
  have hw : Region.wanted o (yielded ops a.tmps) = false := by simp [Region.wanted, hg, yielded_of hj hd, hb]
  simp only [ho, hw]
  exact h
theorem rg_free {i : Nat} {o : Oper} {K : Act → World → Prop} {a : Act} {w : World} (ho : ops[i]? = some o) (hg : o.guard = none)
    (h : ∀ K' : Act → World → Prop, (∀ a w, K a w → K' a w) → Oper.wp P o a w K' Q) : wpOp P ops Q i K a w := by
  refine rg_in ho (fun K' hK => ?_)
  rw [if_pos (by simp [Region.wanted, hg])]
  exact h K' hK
end
end Go.Proofs.YtjkffgcikbkjeaaGreat

/- Boxes of any number of cells; contract: Noise. -/
namespace Go.Proofs.YtjkffgcikbkjeaaGreat
open Go.RowKit

/-- A box with these cells, no limbs among them. -/
structure Cb (v : World) (g : Nat) (cs : List Value) : Prop where
  cell : ∀ i x, cs[i]? = some x → v.cell? ⟨g, i, none⟩ = some x
  fz : ∀ j, v.frozen? ⟨g, j, none⟩ = false
  sz : g < v.heap.size
  nb : NB v g
theorem Cb.below {v v' : World} {g : Nat} {cs : List Value} (h : Cb v g cs) (hb : Below v.heap.size v v') : Cb v' g cs := by
  have h1 := h.sz
  refine ⟨fun i x hx => ?_, fun j => ?_, Nat.lt_of_lt_of_le h.sz hb.size, h.nb.below h.sz hb⟩
  · rw [hb.cell (by simp; omega)]; exact h.cell i x hx
  · rw [World.frozen?_of_block (w := v) (a := ⟨g, j, none⟩) (hb.block g h1)]; exact h.fz j
theorem Cb.one {v v' : World} {g g' : Nat} {cs : List Value} (h : Cb v g cs) (hf : Fr v v' (fun b => b = g')) (hn : g ≠ g') : Cb v' g cs := by
  have h1 := h.sz
  refine ⟨fun i x hx => ?_, fun j => ?_, Nat.lt_of_lt_of_le h.sz hf.size, h.nb.one hf h.sz hn⟩
  · rw [World.cell?_of_block (w := v) (a := ⟨g, i, none⟩) (hf.block g h1 hn)]; exact h.cell i x hx
  · rw [World.frozen?_of_block (w := v) (a := ⟨g, j, none⟩) (hf.block g h1 hn)]; exact h.fz j
theorem Cb.mk0 {w : World} (cs : List Value) (hc : ∀ x ∈ cs, ∀ i, x ≠ .int .u32 i) (t : TypeId) {g : Nat} (hg : g = w.heap.size) : Cb (w.alloc (.cells cs.toArray t)) g cs := by
  subst hg
  have hcell : ∀ i, (w.alloc (.cells cs.toArray t)).cell? ⟨w.heap.size, i, none⟩ = cs[i]? := by
    intro i
    rw [World.cell?_alloc_new]
    simp
  refine ⟨fun i x hx => by rw [hcell]; exact hx, fun j => by go_simp, by simp, fun j x h => ?_⟩
  rw [hcell] at h
  exact hc _ (List.mem_of_getElem? h) x rfl
theorem Cb.alloc {v : World} {g : Nat} {cs : List Value} (h : Cb v g cs) (o : Obj) : Cb (v.alloc o) g cs := h.below ((Below.refl _ _).alloc (Nat.le_refl _) _)
/-- What a maker of noise models returns. -/
def MkN (w : World) (T : Nat) (A : Option Addr) (n c : Nat) (l : List Int) (a : Nat) (e : Ending) (w' : World) : Prop :=
  ∃ (f g : Fa) (r s : Rat), e = .returned (.agg #[.slice f.A f.n f.c, .slice f.B f.m f.d, .slice g.A g.n g.c, .slice g.B g.m g.d]) ∧ Fo w' f (some r) ∧ Fo w' g (some s) ∧ Chn r ∧ Chn s ∧ r ≤ s ∧ Tp w' T A n c l a ∧ Fr w w' (fun b => b = T)
end Go.Proofs.YtjkffgcikbkjeaaGreat

/- Contracts: the reference's noise: Of, Rest. -/
namespace Go.Proofs.YtjkffgcikbkjeaaGreat
open Go.RowKit

set_option maxRecDepth 100000 in
set_option maxHeartbeats 8000000 in
theorem rzof_any (w : World) (x y : Int) (X Y : Nat) (hx : x = (X : Int)) (hy : y = (Y : Int)) (hX : X < 9223372036854775808) (hY : Y < 9223372036854775808) (h0 : 0 < Y) :
    Calls Tryz.prog 60 #[.int .i64 x, .int .i64 y] w fun e w' => Ret1 w (some (mkRat X Y)) e w' := by
  subst hx
  subst hy
  go_enter Tryz.func60, Tryz.ntmps60
  go_upto_region 1 with (fail)
  generalize hW : World.alloc w _ = v
  have HRB := hide (show Rb v w.heap.size by rw [← hW]; exact Rb.mk0 _ rfl)
  have HBV := hide (show Below w.heap.size w v by rw [← hW]; exact (Below.refl _ _).alloc (Nat.le_refl _) _)
  clear hW
  go_upto_region 2 with (go_at_call 85; (with_reducible refine (r2of_any _ X Y hX hY h0).mono ?_); rintro e w1 ⟨q, rfl, ho, hb1⟩; have HO := hide ho; have HB1 := hide (HBV.out.trans (hb1.mono HBV.out.size)); have HR1 := hide (HRB.out.below hb1); clear ho hb1)
  generalize hW : World.alloc w1 _ = v2
  have hsz := HR1.out.sz
  have HQ2 := hide (show Bq v2 w1.heap.size q by rw [← hW]; exact Bq.mk0 _ q rfl)
  have HO2 := hide (show Fo v2 q (some (mkRat X Y)) by rw [← hW]; exact HO.out.alloc _)
  have HR2 := hide (show Rb v2 w.heap.size by rw [← hW]; exact (HR1.out.bq.alloc _).rb)
  have HB2 := hide (show Below w.heap.size w v2 by rw [← hW]; exact HB1.out.alloc HB1.out.size _)
  obtain ⟨c0, c1, cf, cz, -⟩ := HQ2.out
  obtain ⟨r0, r1, rf, rz, -⟩ := HR2.out
  clear hW
  go_wp2_with fail
  refine bodyPost_ret (v := .agg #[.slice q.A q.n q.c, .slice q.B q.m q.d]) (by simp [results, Tryz.results60, go_sem, *]) rfl ⟨q, rfl, HO2.out.put2 HR2.out.nb _ _ (by simp), Rb.end0 HB2.out (Nat.le_refl _) _ _⟩
theorem rzof_one (w : World) : Calls Tryz.prog 60 #[.int .i64 1, .int .i64 1] w fun e w' => Ret1 w (some 1) e w' :=
  rzof_any w 1 1 1 1 rfl rfl (by omega) (by omega) (by omega)
theorem rzof_zero (w : World) : Calls Tryz.prog 60 #[.int .i64 0, .int .i64 1] w fun e w' => Ret1 w (some 0) e w' :=
  rzof_any w 0 1 0 1 rfl rfl (by omega) (by omega) (by omega)
theorem r2sub_o (w : World) (a b : Fa) (o o' : Option Rat) (ha : Fo w a o) (hb : Fo w b o') : Calls Tryz.prog 137 #[.agg #[.slice a.A a.n a.c, .slice a.B a.m a.d], .agg #[.slice b.A b.n b.c, .slice b.B b.m b.d]] w fun e w' => Ret w (subR o o') e w' := by
  have := r2sub_any w a b _ _ _ _ ha.1 hb.1
  rwa [fracOf_self ha.2, fracOf_self hb.2] at this
theorem r2add_o (w : World) (a b : Fa) (o o' : Option Rat) (ha : Fo w a o) (hb : Fo w b o') : Calls Tryz.prog 102 #[.agg #[.slice a.A a.n a.c, .slice a.B a.m a.d], .agg #[.slice b.A b.n b.c, .slice b.B b.m b.d]] w fun e w' => Ret w (addR o o') e w' := by
  have := r2add_any w a b _ _ _ _ ha.1 hb.1
  rwa [fracOf_self ha.2, fracOf_self hb.2] at this
theorem r2mul_o (w : World) (a b : Fa) (o o' : Option Rat) (ha : Fo w a o) (hb : Fo w b o') : Calls Tryz.prog 120 #[.agg #[.slice a.A a.n a.c, .slice a.B a.m a.d], .agg #[.slice b.A b.n b.c, .slice b.B b.m b.d]] w fun e w' => Ret w (mulR o o') e w' := by
  have := r2mul_any w a b _ _ _ _ ha.1 hb.1
  rwa [fracOf_self ha.2, fracOf_self hb.2] at this
theorem r2cmp_o (w : World) (a b : Fa) (o o' : Option Rat) (ha : Fo w a o) (hb : Fo w b o') : Calls Tryz.prog 61 #[.agg #[.slice a.A a.n a.c, .slice a.B a.m a.d], .agg #[.slice b.A b.n b.c, .slice b.B b.m b.d]] w fun e w' => e = .returned (.int .i64 (cmpO o o')) ∧ Below w.heap.size w w' := by
  have := r2cmp_any w a b _ _ _ _ ha.1 hb.1
  rwa [fracOf_self ha.2, fracOf_self hb.2] at this
theorem r2pow_o (w : World) (a : Fa) (o : Option Rat) (n : Int) (ha : Fo w a o) (hn : -9223372036854775808 ≤ n) (hn2 : n < 9223372036854775808) : Calls Tryz.prog 118 #[.agg #[.slice a.A a.n a.c, .slice a.B a.m a.d], .int .i64 n] w fun e w' => Ret w (powR o n) e w' := by
  have := r2pow_any w a _ _ n ha.1 hn hn2
  rwa [fracOf_self ha.2] at this
set_option maxRecDepth 100000 in
set_option maxHeartbeats 8000000 in
theorem rzrest_any (w : World) (a : Fa) (r : Rat) (ha : Fo w a (some r)) (h1 : r ≤ 1) (hf : fitsR (1 - r) = true) :
    Calls Tryz.prog 119 #[.agg #[.slice a.A a.n a.c, .slice a.B a.m a.d]] w fun e w' => Ret1 w (some (1 - r)) e w' := by
  have HX := hide (show subR (some 1) (some r) = (some (1 - r), 0) by
    show (if 1 < r then (none, 5) else limR (1 - r)) = _
    rw [if_neg (Rat.not_lt.2 h1), limR_fit hf])
  go_enter Tryz.func119, Tryz.ntmps119
  go_upto_region 1 with (fail)
  generalize hW : World.alloc (World.alloc w _) _ = v
  have HRB := hide (show Rb v (w.heap.size + 1) by rw [← hW]; exact Rb.mk0 _ (by simp))
  have HBV := hide (show Below w.heap.size w v by rw [← hW]; exact ((Below.refl _ _).alloc (Nat.le_refl _) _).alloc (by simp) _)
  have HA := hide (show Fo v a (some r) by rw [← hW]; exact (ha.alloc _).alloc _)
  have a0 : v.cell? ⟨w.heap.size, 0, none⟩ = some (.slice a.A a.n a.c) := by rw [← hW]; clear hW; go_simp
  have a1 : v.cell? ⟨w.heap.size, 1, none⟩ = some (.slice a.B a.m a.d) := by rw [← hW]; clear hW; go_simp
  obtain ⟨r0, r1, rf, rz, -⟩ := HRB.out
  clear hW ha
  go_cut [3] from 3 to 12 (fun s3 wx => ∃ (b : Nat) (c : Fa), s3 = .pointer (some ⟨b, 0, none⟩) ∧ Hid (Bq wx b c) ∧ Hid (Fo wx c (some (1 - r))) ∧ Hid (Rb wx (w.heap.size + 1)) ∧ Hid (Below w.heap.size w wx))
  case first =>
    go_region_held3 (fun W => W.cell? ⟨w.heap.size, 0, none⟩ = some (.slice a.A a.n a.c) ∧ W.cell? ⟨w.heap.size, 1, none⟩ = some (.slice a.B a.m a.d)) (first | exact ⟨a0, a1⟩ | exact ⟨e0, e1⟩ | exact ⟨g0, g1⟩ | (constructor <;> (repeat rw [World.cell?_setCell_other _ _ _ _ (by intro h; injection h; omega)]) <;> first | exact g0 | exact g1 | go_keep)) (first
      | (go_at_call 60; (with_reducible refine (rzof_one _).mono ?_); rintro e w1 ⟨c1, rfl, ho, hb⟩; have HO1 := hide ho; have hb' : Below v.heap.size v w1 := (by first | exact Below.of_drew hb | exact Below.of_drew (Below.of_alloc hb)); have HB1 := hide hb'; (try (have HQ := hide (Bq.below (g := v.heap.size) (Bq.mk0 (w := v.drew) 52 fa0 rfl) hb))); have e0 := (hb'.cell (p := ⟨w.heap.size, 0, none⟩) (by simp; omega)).trans a0; have e1 := (hb'.cell (p := ⟨w.heap.size, 1, none⟩) (by simp; omega)).trans a1; have q3 := hb'.size; clear ho hb hb')
      | (go_at_call 137; (with_reducible refine (r2sub_o _ c1 a (some 1) (some r) (by first | exact HO1.out | exact HO1.out.alloc _) (by first | exact HA.out.below HB1.out | exact (HA.out.below HB1.out).alloc _)).mono ?_); rintro e w2 ⟨c, rfl, ho, hb⟩; rw [HX.out] at ho; have HO := hide ho; have hb' : Below w1.heap.size w1 w2 := (by first | exact hb | exact Below.of_alloc hb); have HB2 := hide (HB1.out.trans (hb'.mono HB1.out.size)); have g0 := (HB2.out.cell (p := ⟨w.heap.size, 0, none⟩) (by simp; omega)).trans a0; have g1 := (HB2.out.cell (p := ⟨w.heap.size, 1, none⟩) (by simp; omega)).trans a1; (try (have HQ2 := hide (HQ.out.below hb))); (try (have HQ2 := hide (Bq.below (g := w1.heap.size) (Bq.mk0 (w := w1) 52 fa0 rfl) hb))); (try (obtain ⟨s0, s1, s2, s3, -⟩ := HQ2.out)); clear ho hb hb'))
    all_goals
      have HR2 := hide (HRB.out.below HB2.out)
      have HBW := hide (HBV.out.trans (HB2.out.mono HBV.out.size))
      have hz := HB1.out.size
      have hz2 := HB2.out.size
      have hz3 := HBV.out.size
      go_wp2_with fail
      go_meet
      case rel => first
        | exact ⟨_, c, rfl, hide (HQ2.out.fill c), hide (HO.out.fill HQ2.out c), hide (HR2.out.bq.far (by omega) _ _).rb, hide (Rb.end0 HBW.out (by omega) _ _)⟩
        | exact ⟨_, c, rfl, hide (Bq.mk0 _ c rfl), hide (HO.out.alloc _), hide (HR2.out.bq.alloc _).rb, hide (HBW.out.alloc (by omega) _)⟩
  case rest =>
    obtain ⟨b, c, rfl, HQ, HO, HR, HB⟩ := hcut
    obtain ⟨z0, z1, z2, z3, -⟩ := HR.out
    obtain ⟨c0, c1, -, -, -⟩ := HQ.out
    go_wp2_with fail
    refine bodyPost_ret (v := .agg #[.slice c.A c.n c.c, .slice c.B c.m c.d]) (by simp [results, Tryz.results119, go_sem, *]) rfl ⟨c, rfl, (HO.out.put2 HR.out.nb _ _ (by simp)), (Rb.end0 HB.out (by omega) _ _)⟩
end Go.Proofs.YtjkffgcikbkjeaaGreat

/- Contract: the reference's Chance. -/
namespace Go.Proofs.YtjkffgcikbkjeaaGreat
open Go.RowKit

theorem r1of1000 (w : World) : Calls Tryz.prog 100 #[.int .u64 1000] w fun e w' => ∃ A m c, e = .returned (.slice A m c) ∧ m ≤ c ∧ m ≤ 2 ∧ Ul w' none A m (lm 1000) ∧ Below w.heap.size w w' := r1of_any w 1000 (by omega)
set_option maxRecDepth 100000 in
set_option maxHeartbeats 8000000 in
theorem rzchance_any (w : World) (a : Fa) (l k : List Nat) (hq : Fq w a l k) :
    Calls Tryz.prog 81 #[.agg #[.slice a.A a.n a.c, .slice a.B a.m a.d]] w fun e w' => e = .returned (.bool (chO (fracOf l k))) ∧ Below w.heap.size w w' := by
  have hn := hq.n
  have hm := hq.m
  rcases hA : fracOf l k with _ | r
  · have HA := hide hA
    clear hA
    go_enter Tryz.func81, Tryz.ntmps81
    go_upto_region 1 with (fail)
    generalize hW : World.alloc w _ = v
    have HBV := hide (show Below w.heap.size w v by rw [← hW]; exact (Below.refl _ _).alloc (Nat.le_refl _) _)
    have HQ := hide (show Fq v a l k by rw [← hW]; exact hq.alloc _)
    have a0 : v.cell? ⟨w.heap.size, 0, none⟩ = some (.slice a.A a.n a.c) := by rw [← hW]; clear hW; go_simp
    have a1 : v.cell? ⟨w.heap.size, 1, none⟩ = some (.slice a.B a.m a.d) := by rw [← hW]; clear hW; go_simp
    have rz : w.heap.size < v.heap.size := by rw [← hW]; simp
    clear hW hq
    go_cut [2] from 2 to 18 (fun s2 wx => s2 = .bool false ∧ Hid (Below v.heap.size v wx))
    case first =>
      first | (go_region_with (first | (go_at_call 86; (with_reducible refine (r2check_any _ a l k (by first | exact HQ.out | exact HQ.out.drew)).mono ?_); rintro e w1 ⟨he, hb⟩; rw [HA.out] at he; subst he; have hb' : Below v.heap.size v w1 := (by first | exact hb | exact Below.of_drew hb); have HB1 := hide hb'; have e0 := (hb'.cell (p := ⟨w.heap.size, 0, none⟩) (by simp; omega)).trans a0; have e1 := (hb'.cell (p := ⟨w.heap.size, 1, none⟩) (by simp; omega)).trans a1; clear hb hb'))) | fail
      all_goals
        go_wp2_with fail
        go_meet
        case rel => exact ⟨rfl, HB1⟩
    case rest =>
      obtain ⟨rfl, HB1⟩ := hcut
      go_wp2_with fail
      refine bodyPost_ret (v := .bool false) (by simp [results, Tryz.results81, go_sem, *]) rfl ⟨rfl, HBV.out.trans (HB1.out.mono HBV.out.size)⟩
  · have HA := hide hA
    have HQo0 : Fo w a (some r) := ⟨by have h := fracOf_some hA; rw [h.1, h.2.1] at hq; exact hq, (fracOf_some hA).2.2⟩
    have hm128 := HQo0.small.2
    have HN := hide (show (if natB k && natB (lm 1000) then cmpN (lv k) (lv (lm 1000)) else 0) = cmpN r.den 1000 by
      obtain ⟨h1, h2, h3, h4⟩ := fracOf_some hA
      have h5 : natB k = true := by
        rw [h2, natB_lm]
        simp only [fitsR, Bool.and_eq_true, decide_eq_true_eq] at h4
        simp [h4.2]
      rw [h5, natB64 (by omega), if_pos (by rfl), h2, lv_lm, lv_lm])
    have HCX := hide (show cmpO (some r) (some 1) = cmpQ r 1 from rfl)
    clear hA
    by_cases h1 : r ≤ 1
    · have d1 : decide (cmpQ r 1 ≤ 0) = true := decide_eq_true (cmpQ_le.2 h1)
      have HE := hide (show chO (some r) = decide (cmpN r.den 1000 ≤ 0) by
        show (decide (r ≤ 1) && _) = _
        rw [decide_eq_true h1, Bool.true_and]
        exact decide_eq_decide.2 cmpN_le.symm)
      clear h1
      go_enter Tryz.func81, Tryz.ntmps81
      go_upto_region 1 with (fail)
      generalize hW : World.alloc w _ = v
      have HBV := hide (show Below w.heap.size w v by rw [← hW]; exact (Below.refl _ _).alloc (Nat.le_refl _) _)
      have HQ := hide (show Fq v a l k by rw [← hW]; exact hq.alloc _)
      have a0 : v.cell? ⟨w.heap.size, 0, none⟩ = some (.slice a.A a.n a.c) := by rw [← hW]; clear hW; go_simp
      have a1 : v.cell? ⟨w.heap.size, 1, none⟩ = some (.slice a.B a.m a.d) := by rw [← hW]; clear hW; go_simp
      have rz : w.heap.size < v.heap.size := by rw [← hW]; simp
      clear hW hq
      have HQo := hide (show Fo v a (some r) from HQo0.below HBV.out)
      clear HQo0
      go_region_held3 (fun W => W.cell? ⟨w.heap.size, 0, none⟩ = some (.slice a.A a.n a.c) ∧ W.cell? ⟨w.heap.size, 1, none⟩ = some (.slice a.B a.m a.d)) (first | exact ⟨a0, a1⟩ | exact ⟨e0, e1⟩ | exact ⟨g0, g1⟩ | exact ⟨i0, i1⟩ | exact ⟨j0, j1⟩ | exact ⟨k0, k1⟩) (first | (go_at_call 86; (with_reducible refine (r2check_any _ a l k (by first | exact HQ.out | exact HQ.out.drew)).mono ?_); rintro e w1 ⟨he, hb⟩; rw [HA.out] at he; subst he; have hb' : Below v.heap.size v w1 := (by first | exact hb | exact Below.of_drew hb); have HB1 := hide hb'; have e0 := (hb'.cell (p := ⟨w.heap.size, 0, none⟩) (by simp; omega)).trans a0; have e1 := (hb'.cell (p := ⟨w.heap.size, 1, none⟩) (by simp; omega)).trans a1; clear hb hb') | (go_at_call 60; (with_reducible refine (rzof_one _).mono ?_); rintro e w2 ⟨c1, rfl, ho, hb⟩; have HO1 := hide ho; have hb' : Below w1.heap.size w1 w2 := hb; have HB2 := hide (HB1.out.trans (hb'.mono HB1.out.size)); have g0 := (HB2.out.cell (p := ⟨w.heap.size, 0, none⟩) (by simp; omega)).trans a0; have g1 := (HB2.out.cell (p := ⟨w.heap.size, 1, none⟩) (by simp; omega)).trans a1; clear ho hb hb') | (go_at_call 61; (with_reducible refine (r2cmp_o _ a c1 (some r) (some 1) (HQo.out.below HB2.out) HO1.out).mono ?_); rintro e w3 ⟨he, hb⟩; rw [HCX.out] at he; subst he; have HB3 := hide (HB2.out.trans (hb.mono HB2.out.size)); have i0 := (HB3.out.cell (p := ⟨w.heap.size, 0, none⟩) (by simp; omega)).trans a0; have i1 := (HB3.out.cell (p := ⟨w.heap.size, 1, none⟩) (by simp; omega)).trans a1; clear hb) | (go_at_call 100; (with_reducible refine (r1of1000 _).mono ?_); rintro e w4 ⟨A4, m4, c4, rfl, h4, h42, hu, hb⟩; have HU4 := hide hu; have HB4 := hide (HB3.out.trans (hb.mono HB3.out.size)); have j0 := (HB4.out.cell (p := ⟨w.heap.size, 0, none⟩) (by simp; omega)).trans a0; have j1 := (HB4.out.cell (p := ⟨w.heap.size, 1, none⟩) (by simp; omega)).trans a1; clear hu hb) | (go_at_call 99; (with_reducible refine (r1cmp_any _ none none a.B a.m a.d A4 m4 c4 _ _ (HQ.out.below HB4.out).v HU4.out (by omega) (by omega)).mono ?_); rintro e w5 ⟨rfl, hb⟩; rw [HN.out]; have HB5 := hide (HB4.out.trans (hb.mono HB4.out.size)); have k0 := (HB5.out.cell (p := ⟨w.heap.size, 0, none⟩) (by simp; omega)).trans a0; have k1 := (HB5.out.cell (p := ⟨w.heap.size, 1, none⟩) (by simp; omega)).trans a1; clear hb))
      go_wp2_with fail
      refine bodyPost_ret (v := .bool (decide (cmpN r.den 1000 ≤ 0))) (by simp [results, Tryz.results81, go_sem, *]) rfl ⟨by rw [HE.out], HBV.out.trans (HB5.out.mono HBV.out.size)⟩
    · have d1 : decide (cmpQ r 1 ≤ 0) = false := decide_eq_false (fun h => h1 (cmpQ_le.1 h))
      have HE := hide (show chO (some r) = false by
        show (decide (r ≤ 1) && _) = _
        rw [decide_eq_false h1, Bool.false_and])
      clear h1
      go_enter Tryz.func81, Tryz.ntmps81
      go_upto_region 1 with (fail)
      generalize hW : World.alloc w _ = v
      have HBV := hide (show Below w.heap.size w v by rw [← hW]; exact (Below.refl _ _).alloc (Nat.le_refl _) _)
      have HQ := hide (show Fq v a l k by rw [← hW]; exact hq.alloc _)
      have a0 : v.cell? ⟨w.heap.size, 0, none⟩ = some (.slice a.A a.n a.c) := by rw [← hW]; clear hW; go_simp
      have a1 : v.cell? ⟨w.heap.size, 1, none⟩ = some (.slice a.B a.m a.d) := by rw [← hW]; clear hW; go_simp
      have rz : w.heap.size < v.heap.size := by rw [← hW]; simp
      clear hW hq
      have HQo := hide (show Fo v a (some r) from HQo0.below HBV.out)
      clear HQo0
      go_cut [2] from 2 to 18 (fun s2 wx => s2 = .bool false ∧ Hid (Below v.heap.size v wx))
      case first =>
        first | (go_region_with (first | (go_at_call 86; (with_reducible refine (r2check_any _ a l k (by first | exact HQ.out | exact HQ.out.drew)).mono ?_); rintro e w1 ⟨he, hb⟩; rw [HA.out] at he; subst he; have hb' : Below v.heap.size v w1 := (by first | exact hb | exact Below.of_drew hb); have HB1 := hide hb'; have e0 := (hb'.cell (p := ⟨w.heap.size, 0, none⟩) (by simp; omega)).trans a0; have e1 := (hb'.cell (p := ⟨w.heap.size, 1, none⟩) (by simp; omega)).trans a1; clear hb hb') | (go_at_call 60; (with_reducible refine (rzof_one _).mono ?_); rintro e w2 ⟨c1, rfl, ho, hb⟩; have HO1 := hide ho; have hb' : Below w1.heap.size w1 w2 := hb; have HB2 := hide (HB1.out.trans (hb'.mono HB1.out.size)); have g0 := (HB2.out.cell (p := ⟨w.heap.size, 0, none⟩) (by simp; omega)).trans a0; have g1 := (HB2.out.cell (p := ⟨w.heap.size, 1, none⟩) (by simp; omega)).trans a1; clear ho hb hb') | (go_at_call 61; (with_reducible refine (r2cmp_o _ a c1 (some r) (some 1) (HQo.out.below HB2.out) HO1.out).mono ?_); rintro e w3 ⟨he, hb⟩; rw [HCX.out] at he; subst he; have HB3 := hide (HB2.out.trans (hb.mono HB2.out.size)); have i0 := (HB3.out.cell (p := ⟨w.heap.size, 0, none⟩) (by simp; omega)).trans a0; have i1 := (HB3.out.cell (p := ⟨w.heap.size, 1, none⟩) (by simp; omega)).trans a1; clear hb))) | fail
        all_goals
          go_wp2_with fail
          go_meet
          case rel => exact ⟨rfl, HB3⟩
      case rest =>
        obtain ⟨rfl, HB3⟩ := hcut
        go_wp2_with fail
        refine bodyPost_ret (v := .bool false) (by simp [results, Tryz.results81, go_sem, *]) rfl ⟨by rw [HE.out], HBV.out.trans (HB3.out.mono HBV.out.size)⟩
end Go.Proofs.YtjkffgcikbkjeaaGreat

/- Contracts: Check of a noise model, the program's and the reference's. -/
namespace Go.Proofs.YtjkffgcikbkjeaaGreat
open Go.RowKit

/-- A right noise model. -/
def nzO : Option Rat → Option Rat → Bool
  | some r, some s => chO (some r) && chO (some s) && decide (0 < r) && decide (r < s) && decide (s < 1)
  | _, _ => false
/-- The box of two fractions. -/
structure FN (w0 v : World) (a b : Fa) (la ka lb kb : List Nat) : Prop where
  bw : Below w0.heap.size w0 v
  ca : v.cell? ⟨w0.heap.size, 0, none⟩ = some (.slice a.A a.n a.c) ∧ v.cell? ⟨w0.heap.size, 1, none⟩ = some (.slice a.B a.m a.d) ∧ v.cell? ⟨w0.heap.size, 2, none⟩ = some (.slice b.A b.n b.c) ∧ v.cell? ⟨w0.heap.size, 3, none⟩ = some (.slice b.B b.m b.d)
  sz : w0.heap.size < v.heap.size
  qa : Fq v a la ka
  qb : Fq v b lb kb
theorem chO_some {x : Option Rat} (h : chO x = true) : ∃ r, x = some r := by
  cases x with
  | none => cases h
  | some r => exact ⟨r, rfl⟩
theorem fo_of {w : World} {a : Fa} {l k : List Nat} {r : Rat} (h : Fq w a l k) (hA : fracOf l k = some r) : Fo w a (some r) := ⟨by have h1 := fracOf_some hA; rw [h1.1, h1.2.1] at h; exact h, (fracOf_some hA).2.2⟩
theorem fq_len {w : World} {a : Fa} {l k : List Nat} {r : Rat} (h : Fq w a l k) (hA : fracOf l k = some r) : (0 < a.n ↔ 0 < r) ∧ 0 ≤ r := by
  have h1 := fracOf_some hA
  have h2 := h.u.len
  rw [h1.1] at h2
  have h3 := rn_eq_zero h1.2.2.1
  refine ⟨?_, h1.2.2.1⟩
  rw [← h2, List.length_pos_iff, Ne, lm_eq_nil, h3]
  constructor
  · intro h4; exact Rat.lt_of_le_of_ne h1.2.2.1 (fun e => h4 e.symm)
  · intro h4 h5; rw [h5] at h4; exact absurd h4 (by decide)
end Go.Proofs.YtjkffgcikbkjeaaGreat

/- Words for specifications; contracts: sequential.inner, Check. -/
namespace Go.Proofs.YtjkffgcikbkjeaaGreat
open Go.RowKit

/-- A specification: its fractions, their limbs, the most runs. -/
structure Sv where
  l : Fa
  h : Fa
  a : Fa
  b : Fa
  m : Int
  ll : List Nat
  lk : List Nat
  hl : List Nat
  hk : List Nat
  al : List Nat
  ak : List Nat
  bl : List Nat
  bk : List Nat
/-- Its cells. -/
def Sv.cs (s : Sv) : List Value := [.slice s.l.A s.l.n s.l.c, .slice s.l.B s.l.m s.l.d, .slice s.h.A s.h.n s.h.c, .slice s.h.B s.h.m s.h.d, .slice s.a.A s.a.n s.a.c, .slice s.a.B s.a.m s.a.d, .slice s.b.A s.b.n s.b.c, .slice s.b.B s.b.m s.b.d, .int .i64 s.m]
structure SQ (w : World) (s : Sv) : Prop where
  l : Fq w s.l s.ll s.lk
  h : Fq w s.h s.hl s.hk
  a : Fq w s.a s.al s.ak
  b : Fq w s.b s.bl s.bk
def Sv.ok (s : Sv) : Bool := okS (fracOf s.ll s.lk) (fracOf s.hl s.hk) (fracOf s.al s.ak) (fracOf s.bl s.bk) s.m
/-- The box of a specification. -/
structure FS (w0 v : World) (g : Nat) (s : Sv) : Prop where
  bw : Below w0.heap.size w0 v
  cb : Cb v g s.cs
  q : SQ v s
theorem cmp_lt (o o' : Option Rat) : decide (cmpO o o' < 0) = ltO o o' := by
  cases o with
  | none => cases o' <;> rfl
  | some r =>
    cases o' with
    | none => rfl
    | some s => exact decide_eq_decide.2 cmpQ_neg
theorem innO_no {o : Option Rat} (h : chO o = false) : innO o = false := by
  cases o with
  | none => rfl
  | some r => simp [innO, h]
theorem innO_some {r : Rat} (h : chO (some r) = true) : innO (some r) = (decide (0 < r) && decide (r < 1)) := by simp [innO, h]
end Go.Proofs.YtjkffgcikbkjeaaGreat

/- Contracts: the reference's inner, Check of a specification. -/
namespace Go.Proofs.YtjkffgcikbkjeaaGreat
open Go.RowKit

theorem cmpQ_pos {r s : Rat} : 0 < cmpQ r s ↔ s < r := by
  unfold cmpQ
  by_cases h1 : r < s
  · rw [if_pos h1]
    exact ⟨fun h => by omega, fun h => absurd h (Rat.not_lt.2 (Rat.le_of_lt h1))⟩
  · rw [if_neg h1]
    by_cases h2 : r = s
    · rw [if_pos h2]; subst h2; exact ⟨fun h => by omega, fun h => absurd h Rat.lt_irrefl⟩
    · rw [if_neg h2]
      exact ⟨fun _ => Rat.lt_of_le_of_ne (Rat.not_lt.1 h1) (fun e => h2 e.symm), fun _ => by omega⟩
end Go.Proofs.YtjkffgcikbkjeaaGreat

/- Contracts: sequential.power, ratio. -/
namespace Go.Proofs.YtjkffgcikbkjeaaGreat
open Go.RowKit

/-- A right specification's numbers. -/
structure OKs (s : Sv) (l h a b : Rat) (M : Nat) : Prop where
  fl : fracOf s.ll s.lk = some l
  fh : fracOf s.hl s.hk = some h
  fa : fracOf s.al s.ak = some a
  fb : fracOf s.bl s.bk = some b
  il : Inn l
  ih : Inn h
  ia : Inn a
  ib : Inn b
  lt : l < h
  m : s.m = (M : Int)
  m1 : 1 ≤ M
  m2 : M ≤ 32
end Go.Proofs.YtjkffgcikbkjeaaGreat

/- Contracts: counts, the program's and the reference's. -/
namespace Go.Proofs.YtjkffgcikbkjeaaGreat
open Go.RowKit

/-- The first error of counts. -/
def cntE (s : Sv) (p f : Int) : Int := if s.ok = false then 1 else if p < 0 ∨ f < 0 ∨ s.m < p ∨ s.m < f ∨ s.m < p + f then 3 else 0
end Go.Proofs.YtjkffgcikbkjeaaGreat

/- Contracts: sequential.Ratio, decide, Decide. -/
namespace Go.Proofs.YtjkffgcikbkjeaaGreat
open Go.RowKit

/-- What Ratio returns. -/
def ratR (s : Sv) (p f : Int) (r : Rat) : Option Rat × Int := if cntE s p f = 0 then (some r, 0) else (none, cntE s p f)
end Go.Proofs.YtjkffgcikbkjeaaGreat

/- Contracts: sequential.decide, Decide. -/
namespace Go.Proofs.YtjkffgcikbkjeaaGreat
open Go.RowKit

end Go.Proofs.YtjkffgcikbkjeaaGreat

/- Contract: sequential.Limits. -/
namespace Go.Proofs.YtjkffgcikbkjeaaGreat
open Go.RowKit

end Go.Proofs.YtjkffgcikbkjeaaGreat

/- Contract: sequential.Run. -/
namespace Go.Proofs.YtjkffgcikbkjeaaGreat
open Go.RowKit

/-- How many outcomes may be taken. -/
def cutL (outs : List Bool) (M : Nat) : List Bool := outs.take (min outs.length M)
end Go.Proofs.YtjkffgcikbkjeaaGreat

/- A box whose cells are set; the tape's Chance beside limbs; contract: the law's spec. -/
namespace Go.Proofs.YtjkffgcikbkjeaaGreat
open Go.RowKit

theorem chancetp_any (w : World) (T : Nat) (A : Option Addr) (n c : Nat) (l : List Int) (a : Nat) (M N : Int) (hT : Tp w T A n c l a) (ha : a ≤ 4294967296) (hN : N ≤ 4294967296) :
    Calls Tryz.prog 7 #[.pointer (some ⟨T, 0, none⟩), .int .i64 M, .int .i64 N] w fun e w' => e = .returned (.bool (decide (tapeV l a N < M))) ∧ Tp w' T A n c l (a + 1) ∧ Fr w w' (fun b => b = T) := by
  go_enter Tryz.func7, Tryz.ntmps7
  go_wp2_with (go_at_call 5; refine (nextp_any _ T A n c l a N hT ha hN).mono ?_; rintro e w1 ⟨rfl, ht1, hf1⟩)
  go_ret
  exact ⟨rfl, ht1, hf1⟩
/-- The cells of a specification not yet filled. -/
def z9 : List Value := [.slice none 0 0, .slice none 0 0, .slice none 0 0, .slice none 0 0, .slice none 0 0, .slice none 0 0, .slice none 0 0, .slice none 0 0, .int .i64 0]
/-- A specification in the making: the tape, the result's box, its box. -/
structure SpS (w0 v : World) (T : Nat) (A : Option Addr) (n c : Nat) (l : List Int) (a g0 g1 : Nat) (s : Sv) : Prop where
  tp : Tp v T A n c l a
  r : Cb v g0 z9
  b : Cb v g1 s.cs
  q : SQ v s
  fr : Fr w0 v (fun b => b = T)
section
variable {w0 v v' : World} {T n c a g0 g1 : Nat} {A : Option Addr} {l : List Int} {s s' : Sv}
end
end Go.Proofs.YtjkffgcikbkjeaaGreat

/- Contract: the maker of specifications of the sequential laws. -/
namespace Go.Proofs.YtjkffgcikbkjeaaGreat
open Go.RowKit

/-- What the maker returns. -/
def MkS (w : World) (T : Nat) (A : Option Addr) (n c : Nat) (l : List Int) (a most : Nat) (e : Ending) (w' : World) : Prop :=
  ∃ (s : Sv) (lo hi al be : Rat) (M b : Nat), e = .returned (.agg #[.slice s.l.A s.l.n s.l.c, .slice s.l.B s.l.m s.l.d, .slice s.h.A s.h.n s.h.c, .slice s.h.B s.h.m s.h.d, .slice s.a.A s.a.n s.a.c, .slice s.a.B s.a.m s.a.d, .slice s.b.A s.b.n s.b.c, .slice s.b.B s.b.m s.b.d, .int .i64 s.m]) ∧ SQ w' s ∧ OKs s lo hi al be M ∧ M ≤ most ∧ Tp w' T A n c l b ∧ b ≤ a + 12 ∧ Fr w w' (fun b => b = T)
theorem small1_any (w : World) (d : Nat) (h : 1 ≤ d) (h2 : d ≤ 1000) : Calls Tryz.prog 20 #[.int .i64 1, .int .i64 (d : Int)] w fun e w' => Ret1 w (some (mkRat ((1 : Nat) : Int) d)) e w' := small_any w 1 d (by omega) (by omega) (by omega)
def sv0 : Sv := ⟨fa0, fa0, fa0, fa0, 0, [], [], [], [], [], [], [], []⟩
theorem inn_of {r : Rat} (hc : Chn r) (h : 0 < r ∧ r < 1) : Inn r := ⟨hc, h.1, h.2⟩
theorem inn_mk {d : Nat} (h2 : 2 ≤ d) (h3 : d ≤ 1000) : Inn (mkRat ((1 : Nat) : Int) d) := ⟨mk_chn (by omega) (by omega) h3, mk_pos (by omega) (by omega), mk_lt1 (by omega) (by omega)⟩
end Go.Proofs.YtjkffgcikbkjeaaGreat

/- Contract: the maker of specifications of the rerun laws. -/
namespace Go.Proofs.YtjkffgcikbkjeaaGreat
open Go.RowKit

end Go.Proofs.YtjkffgcikbkjeaaGreat

/- Contracts: the sequential laws' example and known. -/
namespace Go.Proofs.YtjkffgcikbkjeaaGreat
open Go.RowKit

theorem sm20 (w : World) : Calls Tryz.prog 20 #[.int .i64 1, .int .i64 20] w fun e w' => Ret1 w (some (mkRat 1 20)) e w' := small_any w 1 20 (by omega) (by omega) (by omega)
theorem inn20 : Inn (mkRat 1 20) := inn_mk (d := 20) (by omega) (by omega)
abbrev OKex (s : Sv) : Prop := OKs s (mkRat 1 10) (mkRat 1 2) (mkRat 1 20) (mkRat 1 10) 10
end Go.Proofs.YtjkffgcikbkjeaaGreat

/- Plain laws of the verdicts of attempts. -/
namespace Go.Proofs.YtjkffgcikbkjeaaGreat
open Go.RowKit

/-- What a number of runs that passed and one of runs that failed mean. -/
def aftQ (d : Nat → Nat → Int) (M p f : Nat) : Int := if d p f = 2 then 1 else if d p f = 1 then 2 else if p + f = M then 3 else 0
/-- The attempts behind the first one: (failed, random). -/
def judL (g : Nat → Nat → Int) (r0 : Bool) : List (Bool × Bool) → Nat → Nat → Nat → Int × Nat
  | [], k, _, _ => (0, k)
  | (fl, rd) :: t, k, p, f =>
    if rd ≠ r0 then (4, k + 1)
    else if rd = false then (if fl then (1, k + 1) else (4, k + 1))
    else if g (if fl then p else p + 1) (if fl then f + 1 else f) = 0 then judL g r0 t (k + 1) (if fl then p else p + 1) (if fl then f + 1 else f)
    else (g (if fl then p else p + 1) (if fl then f + 1 else f), k + 1)
def jud (g : Nat → Nat → Int) : List (Bool × Bool) → Int × Nat
  | [] => (0, 0)
  | (fl, rd) :: t => if fl = false then (5, 1) else judL g rd t 1 0 0
/-- Two cells of an attempt. -/
def atv (x : Bool × Bool) : List Value := [.bool x.1, .bool x.2]
end Go.Proofs.YtjkffgcikbkjeaaGreat

/- Contracts: rerun.after, rerun.check. -/
namespace Go.Proofs.YtjkffgcikbkjeaaGreat
open Go.RowKit

/-- The first error of a specification and attempts. -/
def vckE (s : Sv) (n : Nat) : Int := if s.ok = false then 1 else if 33 < n then 2 else 0
end Go.Proofs.YtjkffgcikbkjeaaGreat

/- Contracts: rerun.taken; the iterator. -/
namespace Go.Proofs.YtjkffgcikbkjeaaGreat
open Go.RowKit Go.Shelf
attribute [local go_sem] Oper.semAt_some

end Go.Proofs.YtjkffgcikbkjeaaGreat
