/- Contracts of the functions that these laws reach: part 1: Small general words over the model's memory: slices that read as lists of structured elements, kept over calls; copy and append for elements of several cells; append onto a row of the call's own, the source any slice that reads as a list; More small words over the model's memory; Seven stores into one block, and what a world that has grown reads; Blocks of seven cells, known whole; Plain laws of natural numbers as lists of limbs of 32 bits, the least significant one first. -/
import Derived.WalkKit
import Derived.WalkSpells
import Derived.WalkLawsBesides
import Derived.Deep.QuietTactic
import Derived.BigQuiet
import Derived.Deep.AppendLies
set_option linter.unusedVariables false
set_option linter.unusedSimpArgs false

/- Small general words over the model's memory: slices that read as lists of structured elements, kept over calls; copy and append for elements of several cells. -/
namespace Go.Proofs.YtnokfhkcfebimaaGreat
open Go.RowKit

theorem hide {p : Prop} (h : p) : Hid p := h
theorem ret_int {k : IntKind} {a b : Int} (h : a = b) : Ending.returned (.int k a) = .returned (.int k b) := by rw [h]

section
variable {α : Type} {w w' : World} {av : Option Nat} {s : Nat} {f : α → List Value} {A : Option Addr} {l : List α}

/-- The slice with the address A reads as the list l: element k takes s cells, which hold f of it; its block is not av. -/
def Rs (w : World) (av : Option Nat) (s : Nat) (f : α → List Value) (A : Option Addr) (l : List α) : Prop :=
  l ≠ [] → ∃ b o, A = some ⟨b, o, none⟩ ∧ some b ≠ av ∧ b < w.heap.size ∧ ∀ k a, l[k]? = some a → ∀ j u, (f a)[j]? = some u → w.cell? ⟨b, o + k * s + j, none⟩ = some u

theorem Rs.nil : Rs w av s f A ([] : List α) := fun h => absurd rfl h

theorem Rs.at (h : Rs w av s f A l) {k : Nat} {a : α} (hk : l[k]? = some a) : ∃ b o, A = some ⟨b, o, none⟩ ∧ some b ≠ av ∧ b < w.heap.size ∧ ∀ j u, (f a)[j]? = some u → w.cell? ⟨b, o + k * s + j, none⟩ = some u := by
  obtain ⟨b, o, hA, hn, hb, hc⟩ := h (by rintro rfl; simp at hk)
  exact ⟨b, o, hA, hn, hb, hc k a hk⟩

theorem Rs.grown (h : Rs w av s f A l) {row : Option Nat} (hg : w.grownBy w' row) (hr : row = av ∨ row = none) : Rs w' av s f A l := by
  intro hl
  obtain ⟨b, o, hA, hn, hb, hc⟩ := h hl
  refine ⟨b, o, hA, hn, Nat.lt_of_lt_of_le hb hg.size, fun k a hk j u hu => ?_⟩
  rw [World.cell?_of_block (w := w) (hg.block b hb (by rcases hr with rfl | rfl <;> simp_all))]
  exact hc k a hk j u hu

theorem grown_of_below {a w : World} (h : Below a.heap.size a w) (row : Option Nat) : a.grownBy w row := ⟨h.os, h.tape, h.output, h.size, fun i hi _ => h.block i hi⟩
theorem below_of_grown {a w : World} (h : a.grownBy w none) : Below a.heap.size a w := ⟨h.os, h.tape, h.output, h.size, fun i hi => h.block i hi (by simp)⟩

theorem Rs.below (h : Rs w av s f A l) (hb : Below w.heap.size w w') : Rs w' av s f A l := h.grown (grown_of_below hb none) (.inr rfl)
theorem Rs.alloc (h : Rs w av s f A l) (o : Obj) : Rs (w.alloc o) av s f A l := h.below ((Below.refl _ _).alloc (Nat.le_refl _) _)
theorem Rs.weak (h : Rs w av s f A l) : Rs w none s f A l := fun hl => by
  obtain ⟨b, o, hA, _, hb, hc⟩ := h hl
  exact ⟨b, o, hA, by simp, hb, hc⟩

theorem flat_at (hs : ∀ a, (f a).length = s) : ∀ (l : List α) (i : Nat) (u : Value), (l.flatMap f)[i]? = some u → 0 < s ∧ ∃ a, l[i / s]? = some a ∧ (f a)[i % s]? = some u
  | [], i, u, h => by simp at h
  | a :: l, i, u, h => by
    rw [List.flatMap_cons, List.getElem?_append] at h
    split at h
    · rename_i hi
      rw [hs] at hi
      have : 0 < s := by omega
      exact ⟨this, a, by rw [Nat.div_eq_of_lt hi]; rfl, by rw [Nat.mod_eq_of_lt hi]; exact h⟩
    · rename_i hi
      rw [hs] at hi h
      obtain ⟨h0, a', h1, h2⟩ := flat_at hs l (i - s) u h
      refine ⟨h0, a', ?_, ?_⟩
      · have e : i / s = (i - s) / s + 1 := by rw [← Nat.add_div_right _ h0]; congr 1; omega
        rw [e]; simpa using h1
      · have e : i % s = (i - s) % s := by conv => lhs; rw [show i = (i - s) + s by omega, Nat.add_mod_right]
        rw [e]; exact h2

theorem flat_get (hs : ∀ a, (f a).length = s) : ∀ (l : List α) (k : Nat) (a : α) (j : Nat) (u : Value), l[k]? = some a → (f a)[j]? = some u → (l.flatMap f)[k * s + j]? = some u
  | [], k, a, j, u, h, _ => by simp at h
  | b :: l, 0, a, j, u, h, hu => by
    simp at h
    subst h
    have hj : j < (f b).length := (List.getElem?_eq_some_iff.1 hu).1
    rw [List.flatMap_cons, List.getElem?_append, if_pos (by simpa using hj)]
    simpa using hu
  | b :: l, k + 1, a, j, u, h, hu => by
    have := flat_get hs l k a j u (by simpa using h) hu
    rw [List.flatMap_cons, List.getElem?_append, if_neg (by rw [hs, Nat.add_mul]; omega), hs]
    rw [show (k + 1) * s + j - s = k * s + j by rw [Nat.add_mul]; omega]
    exact this

theorem flat_len (hs : ∀ a, (f a).length = s) : ∀ (l : List α), (l.flatMap f).length = l.length * s
  | [] => by simp
  | a :: l => by rw [List.flatMap_cons, List.length_append, hs, flat_len hs l, List.length_cons, Nat.add_mul]; omega

/-- The flat cells of a slice that reads as l. -/
theorem Rs.flat (h : Rs w av s f A l) (hs : ∀ a, (f a).length = s) (hl : l ≠ []) : ∃ b o, A = some ⟨b, o, none⟩ ∧ some b ≠ av ∧ b < w.heap.size ∧ ∀ j u, (l.flatMap f)[j]? = some u → w.cell? ((⟨b, o, none⟩ : Addr).add j) = some u := by
  obtain ⟨b, o, hA, hn, hb, hc⟩ := h hl
  refine ⟨b, o, hA, hn, hb, fun j u hu => ?_⟩
  obtain ⟨h0, a, h1, h2⟩ := flat_at hs l j u hu
  have := hc _ a h1 _ u h2
  rw [Addr.add_lit]
  rw [← this]
  congr 2
  have := Nat.div_add_mod j s
  rw [Nat.mul_comm] at this
  omega

/-- What the call owns reads as the list. -/
theorem Rs.of_own {base : Nat} {e : TypeId} {c n : Nat} (h : w.ownsRow base e s (.slice A n c) n (l.flatMap f)) (hs : ∀ a, (f a).length = s) (hn : l.length = n) (hav : ∀ t, av = some t → t < base) : Rs w av s f A l := by
  intro hl
  have hn0 : 0 < n := by rw [← hn]; exact List.length_pos_iff.2 hl
  obtain ⟨g, cap, hv, hb, hlt⟩ := h.form hn0
  have hA : A = some ⟨g, 0, none⟩ := by injection hv
  subst hA
  refine ⟨g, 0, rfl, fun e => by have := hav _ e.symm; omega, hlt, fun k a hk j u hu => ?_⟩
  have := h.cells (g := g) rfl _ u (flat_get hs l k a j u hk hu)
  rw [Addr.add_lit] at this
  rw [← this]
  congr 2
  omega
end

section
variable {P : Program} (w : World)

theorem run_copy_s (dT sT ty elem : TypeId) (size : Nat) (g o dLen dCap : Nat) (sA : Option Addr) (sLen sCap : Nat) (cur : Array Value) (t : TypeId) (cs : List Value)
    (hu : P.underlying dT = some (.slice elem)) (hs : (P.info? elem).map (·.size) = some size)
    (hg : w.heap[g]? = some (.cells cur t (0, 0))) (hn : cs.length = Nat.min sLen dLen * size)
    (hsrc : cs ≠ [] → ∃ a, sA = some a ∧ ∀ j v, cs[j]? = some v → w.cell? (a.add j) = some v) (hfit : o + cs.length ≤ cur.size) (h1 : ∀ v ∈ cs, v.oneCell' = true) :
    (Builtin.copy_ #[dT, sT] ty #[.slice (some ⟨g, o, none⟩) dLen dCap, .slice sA sLen sCap]).run P w =
      .ok (goInt (Nat.min sLen dLen)) (w.setRow g (cur.toList.take o ++ cs ++ cur.toList.drop (o + cs.length)).toArray) := by
  have hst := run_storeCells_at P g o t cs 0 cur w hg (by simpa using hfit) h1
  cases hq : P.info? elem with
  | none => simp [hq] at hs
  | some i =>
    have hi : i.size = size := by simpa [hq] using hs
    have hfc : (Builtin.firstCells size (Nat.min sLen dLen) (.slice sA sLen sCap)).run P w = .ok cs.toArray w := by
      by_cases hc : cs = []
      · subst hc
        have h0 : Nat.min sLen dLen * size = 0 := by simpa using hn.symm
        cases sA with
        | none => simp [Builtin.firstCells]
        | some a =>
          have hl := run_loadCells_list (P := P) w a [] (by simp)
          simp only [List.length_nil] at hl
          simpa [Builtin.firstCells, h0] using hl
      · obtain ⟨a, rfl, hsrc'⟩ := hsrc hc
        have hl := run_loadCells_list (P := P) w a cs hsrc'
        simpa [Builtin.firstCells, ← hn] using hl
    simp [Builtin.copy_, run_underlying hu, Builtin.lenOf, sizeOf, typeInfo, hq, hi, hfc, hst]

/-- 'copy(dst, src)', both of n elements, dst the call's own. -/
theorem wl_copy {α : Type} {f : α → List Value} {av : Option Nat} {ops : Array Oper} {rest : List Oper} {o : Oper} {a : Act} {Q : Exit → Act → World → Prop} (hgd : o.guard = none) (d s : Operand) (dT sT : TypeId)
    (ho : o.op = .call { callee := .builtin .copy, args := #[d, s], argTypes := #[dT, sT] }) (elem : TypeId) (size : Nat) (hu : P.underlying dT = some (.slice elem)) (hsz : (P.info? elem).map (·.size) = some size)
    (base g n cap c : Nat) (ys : List Value) (A : Option Addr) (hd : a.eval d = .slice (some ⟨g, 0, none⟩) n cap) (hs : a.eval s = .slice A n c) (hown : w.ownsRow base elem size (.slice (some ⟨g, 0, none⟩) n cap) n ys)
    (l : List α) (hR : Rs w av size f A l) (hl : l.length = n) (hf : ∀ a, (f a).length = size) (h1 : ∀ a, ∀ u ∈ f a, u.oneCell' = true)
    (h : ∀ w', w'.ownsRow base elem size (.slice (some ⟨g, 0, none⟩) n cap) n (l.flatMap f) → w.grownBy w' (some g) → wpList P ops Q rest (a.put o.dst (goInt n)) w') :
    wpList P ops Q (o :: rest) a w := by
  have hfl := flat_len hf l
  rcases hown.2 with ⟨h', _⟩ | ⟨g', cap', cur, h', hbg, hg, hnc, hcm, hcs, htake⟩
  · simp at h'
  · simp only [Value.slice.injEq, Option.some.injEq, Addr.mk.injEq, and_true, true_and] at h'
    obtain ⟨rfl, rfl⟩ := h'
    have hle : n * size ≤ cap * size := Nat.mul_le_mul_right _ hnc
    have hr := run_copy_s (P := P) w dT sT o.type elem size g 0 n cap A n c cur elem (l.flatMap f) hu hsz hg (by rw [hfl, hl]; show _ = min n n * size; rw [Nat.min_self]) (by
      intro hne
      obtain ⟨b, o', hA, _, _, hc⟩ := hR.flat hf (by rintro rfl; simp at hne)
      exact ⟨_, hA, hc⟩) (by rw [hfl, hl, hcs]; omega) (by
      intro u hu'
      obtain ⟨x, _, hx⟩ := List.mem_flatMap.1 hu'
      exact h1 x u hx)
    have e : Nat.min n n = n := Nat.min_self n
    rw [e, List.take_zero, List.nil_append, Nat.zero_add] at hr
    generalize l.flatMap f = xs at h hfl hr
    rw [hl] at hfl
    refine wpList_plain hgd fun K hK' => ?_
    unfold Oper.wp
    simp only [execOp, ho, resolve, invoke, builtin, hd, hs, hr, Result.andThen, Sem.run_bind, Sem.run_pure, List.map_toArray, List.map_cons, List.map_nil, Oper.upon]
    refine hK' _ _ (h _ ⟨hfl, .inr ⟨g, cap, (xs ++ cur.toList.drop xs.length).toArray, rfl, hbg, setRow_heap w g cur _ elem _ hg, hnc, hcm, ?_, ?_⟩⟩ ⟨rfl, rfl, rfl, by simp, fun k _ hk => ?_⟩)
    · simp only [List.size_toArray, List.length_append, List.length_drop, Array.length_toList, hfl]
      omega
    · rw [← hfl]; simp
    · exact setRow_other w g k _ (fun e => hk (by simp [e]))
end

section
variable {P : Program} (w : World)
/-- 'make([]T, n, c)'. -/
theorem wl_make {ops : Array Oper} {rest : List Oper} {o : Oper} {a : Act} {Q : Exit → Act → World → Prop}
    (hg : o.guard = none) (l k : Operand) (t : TypeId) (hop : o.op = Op.makeSlice t l k)
    (base : Nat) (e : TypeId) (z : Value) (size bytes : Nat) (h1 : P.underlying t = some (.slice e)) (h2 : (P.info? e).map (fun i => (i.zero, i.size, i.bytes)) = some (some z, size, bytes))
    (H n c : Nat) (hH : w.heap.size = H) (N C : Int) (hl : a.eval l = .int .i64 N) (hc : a.eval k = .int .i64 C) (hN : N = (n : Int)) (hC : C = (c : Int)) (hnc : n ≤ c) (hzs : z.cells.size = size) (b2 : bytes * c ≤ 281474976710656) (b3 : c ≤ maxLen) (b4 : base ≤ w.heap.size)
    (hK : ∀ w' ys, w'.ownsRow base e size (.slice (some ⟨H, 0, none⟩) n c) n ys → Hid (ys = (madeCells z.cells (c * size)).toList.take (n * size)) → w.grownBy w' none → wpList P ops Q rest (a.put o.dst (.slice (some ⟨H, 0, none⟩) n c)) w') :
    wpList P ops Q (o :: rest) a w := by
  obtain ⟨i, hi, hz, hsz, hby⟩ := info_parts h2
  subst hN hC hsz hby hH
  have hb : (i.bytes : Int) * (c : Int) ≤ 281474976710656 := by
    have h : ((i.bytes * c : Nat) : Int) ≤ 281474976710656 := by omega
    rwa [Int.natCast_mul] at h
  have hm : c ≤ 9223372036854775807 := by simp only [maxLen] at b3; omega
  have hr := run_make (P := P) w t e i z h1 hi hz .i64 .i64 n c (by omega) (by omega) hb (by omega)
  simp only [Int.toNat_natCast] at hr
  refine wpList_plain hg fun K hK' => ?_
  unfold Oper.wp
  simp only [execOp, hop, hl, hc, hr, Result.andThen, Sem.run_bind, Sem.run_pure, Oper.upon]
  have hs : (madeCells z.cells (c * i.size)).size = c * i.size := size_madeCells _ _
  refine hK' _ _ (hK _ _ ⟨?_, .inr ⟨w.heap.size, c, _, rfl, b4, heap_alloc_new w _, hnc, b3, hs, rfl⟩⟩ (hide rfl) (World.grownBy_alloc w _ _))
  rw [List.length_take, Array.length_toList, hs]
  have : n * i.size ≤ c * i.size := Nat.mul_le_mul_right _ hnc
  omega
end

/-! ### What a call leaves alone: all old blocks but those of S. -/
structure Fr (w w' : World) (S : Nat → Prop) : Prop where
  os : w'.os = w.os
  tape : w'.tape = w.tape
  output : w'.output = w.output
  size : w.heap.size ≤ w'.heap.size
  block : ∀ k, k < w.heap.size → ¬ S k → w'.heap[k]? = w.heap[k]?

theorem Fr.refl (w : World) (S : Nat → Prop) : Fr w w S := ⟨rfl, rfl, rfl, Nat.le_refl _, fun _ _ _ => rfl⟩
theorem Fr.trans {a b c : World} {S : Nat → Prop} (h : Fr a b S) (k : Fr b c S) : Fr a c S :=
  ⟨k.os.trans h.os, k.tape.trans h.tape, k.output.trans h.output, Nat.le_trans h.size k.size, fun i hi hS => (k.block i (Nat.lt_of_lt_of_le hi h.size) hS).trans (h.block i hi hS)⟩
theorem Fr.below_ {a b c : World} {S : Nat → Prop} (h : Fr a b S) (k : Below b.heap.size b c) : Fr a c S :=
  ⟨k.os.trans h.os, k.tape.trans h.tape, k.output.trans h.output, Nat.le_trans h.size k.size, fun i hi hS => (k.block i (Nat.lt_of_lt_of_le hi h.size)).trans (h.block i hi hS)⟩
theorem Fr.of_below {a b : World} (S : Nat → Prop) (k : Below a.heap.size a b) : Fr a b S := ⟨k.os, k.tape, k.output, k.size, fun i hi _ => k.block i hi⟩
theorem Fr.mono {a b : World} {S T : Nat → Prop} (h : Fr a b S) (hst : ∀ k, k < a.heap.size → S k → T k) : Fr a b T :=
  ⟨h.os, h.tape, h.output, h.size, fun i hi hT => h.block i hi (fun hs => hT (hst i hi hs))⟩
theorem Fr.step {a b c : World} {S T : Nat → Prop} (h : Fr a b S) (k : Fr b c T) (hT : ∀ i, i < a.heap.size → T i → S i) : Fr a c S :=
  ⟨k.os.trans h.os, k.tape.trans h.tape, k.output.trans h.output, Nat.le_trans h.size k.size, fun i hi hS => (k.block i (Nat.lt_of_lt_of_le hi h.size) (fun ht => hS (hT i hi ht))).trans (h.block i hi hS)⟩
theorem Fr.drew {a w : World} {S : Nat → Prop} (h : Fr a w S) : Fr a w.drew S := ⟨h.os, h.tape, h.output, h.size, h.block⟩
theorem Fr.drewN {a w : World} {S : Nat → Prop} (h : Fr a w S) (n : Nat) : Fr a (w.drewN n) S := ⟨h.os, h.tape, h.output, h.size, h.block⟩
theorem Fr.alloc {a w : World} {S : Nat → Prop} (h : Fr a w S) (o : Obj) : Fr a (w.alloc o) S := h.below_ ((Below.refl _ _).alloc (Nat.le_refl _) o)
theorem Fr.setCell {a w : World} {S : Nat → Prop} (h : Fr a w S) {p : Addr} (hp : a.heap.size ≤ p.block ∨ S p.block) (u : Value) : Fr a (w.setCell p u) S :=
  ⟨h.os, h.tape, h.output, by simpa [World.setCell] using h.size, fun i hi hS => (Below.heap_setCell w p u i (by
    rintro rfl
    rcases hp with hp | hp
    · omega
    · exact hS hp)).trans (h.block i hi hS)⟩
theorem Fr.grown {a b c : World} {S : Nat → Prop} {row : Option Nat} (h : Fr a b S) (k : b.grownBy c row) (hr : ∀ g, row = some g → a.heap.size ≤ g ∨ S g) : Fr a c S :=
  ⟨k.os.trans h.os, k.tape.trans h.tape, k.output.trans h.output, Nat.le_trans h.size k.size, fun i hi hS => (k.block i (Nat.lt_of_lt_of_le hi h.size) (by
    intro e
    rcases hr i e.symm with h1 | h1
    · omega
    · exact hS h1)).trans (h.block i hi hS)⟩
theorem Fr.below {a b : World} {S : Nat → Prop} {B : Nat} (h : Fr a b S) (hB : B ≤ a.heap.size) (hS : ∀ k, k < B → ¬ S k) : Below B a b :=
  ⟨h.os, h.tape, h.output, h.size, fun i hi => h.block i (by omega) (hS i hi)⟩
section
variable {α : Type} {w : World} {f : α → List Value} {s : Nat}
theorem flat_set (hs : ∀ a, (f a).length = s) : ∀ (l : List α) (k : Nat) (t t' : α) (j : Nat) (u : Value), l[k]? = some t → j < s → f t' = (f t).set j u → (l.flatMap f).set (k * s + j) u = (l.set k t').flatMap f
  | [], k, t, t', j, u, h, _, _ => by simp at h
  | b :: l, 0, t, t', j, u, h, hj, hu => by
    simp at h
    subst h
    rw [List.set_cons_zero, List.flatMap_cons, List.flatMap_cons, hu, List.set_append, if_pos (by rw [hs]; omega)]
    simp
  | b :: l, k + 1, t, t', j, u, h, hj, hu => by
    have ih := flat_set hs l k t t' j u (by simpa using h) hj hu
    rw [List.set_cons_succ, List.flatMap_cons, List.flatMap_cons, List.set_append, if_neg (by rw [hs, Nat.add_mul]; omega), hs, ← ih]
    congr 2
    rw [Nat.add_mul]; omega

/-- One cell of element k is set. -/
theorem own_put (hs : ∀ a, (f a).length = s) {base g n cap k j : Nat} {e : TypeId} {l : List α} {t0 t1 : α} {u : Value} (h : w.ownsRow base e s (.slice (some ⟨g, 0, none⟩) n cap) n ((l.set k t0).flatMap f)) (hk : k < l.length) (hj : j < s) (hu : f t1 = (f t0).set j u) :
    (w.setCell ⟨g, k * s + j, none⟩ u).ownsRow base e s (.slice (some ⟨g, 0, none⟩) n cap) n ((l.set k t1).flatMap f) := by
  have := (h.stored (k * s + j) u).1
  rwa [flat_set hs (l.set k t0) k t0 t1 j u (by simp [hk]) hj hu, List.set_set] at this
theorem own_start {base g n cap k : Nat} {e : TypeId} {l : List α} {t0 : α} (h : w.ownsRow base e s (.slice (some ⟨g, 0, none⟩) n cap) n (l.flatMap f)) (hk : l[k]? = some t0) :
    w.ownsRow base e s (.slice (some ⟨g, 0, none⟩) n cap) n ((l.set k t0).flatMap f) := by
  have : l.set k t0 = l := by
    apply List.ext_getElem?
    intro i
    rw [List.getElem?_set]
    split
    · rename_i h; subst h; split
      · exact hk.symm
      · rename_i h2; rw [List.getElem?_eq_none (by omega)]
    · rfl
  rwa [this]
theorem own_cells (hs : ∀ a, (f a).length = s) {base g n cap k : Nat} {e : TypeId} {l : List α} {t : α} (h : w.ownsRow base e s (.slice (some ⟨g, 0, none⟩) n cap) n (l.flatMap f)) (hk : l[k]? = some t) :
    ∀ j u, (f t)[j]? = some u → w.cell? ⟨g, k * s + j, none⟩ = some u := by
  intro j u hu
  have := h.cells (g := g) rfl _ u (flat_get hs l k t j u hk hu)
  rw [Addr.add_lit] at this
  rw [← this]
  congr 2
  omega
theorem own_below {w' : World} {base : Nat} {e : TypeId} {v : Value} {n : Nat} {xs : List Value} (h : w.ownsRow base e s v n xs) (hb : Below w.heap.size w w') : w'.ownsRow base e s v n xs :=
  h.kept (grown_of_below hb none) (by cases hv : v.ownBlock <;> simp)
theorem own_base {base base' : Nat} {e : TypeId} {v : Value} {n : Nat} {xs : List Value} (h : w.ownsRow base e s v n xs) (hb : base' ≤ base) : w.ownsRow base' e s v n xs := by
  refine ⟨h.1, ?_⟩
  rcases h.2 with hn | ⟨g, cap, cur, rfl, hbb, rest⟩
  · exact .inl hn
  · exact .inr ⟨g, cap, cur, rfl, Nat.le_trans hb hbb, rest⟩
theorem own_fr {w' : World} {S : Nat → Prop} {base : Nat} {e : TypeId} {v : Value} {n : Nat} {xs : List Value} (h : w.ownsRow base e s v n xs) (hb : Fr w w' S) (hS : ∀ g, v.ownBlock = some g → ¬ S g) : w'.ownsRow base e s v n xs := by
  refine ⟨h.1, ?_⟩
  rcases h.2 with hn | ⟨g, cap, cur, rfl, hbb, hgg, rest⟩
  · exact .inl hn
  · refine .inr ⟨g, cap, cur, rfl, hbb, ?_, rest⟩
    rw [hb.block g (Array.getElem?_eq_some_iff.1 hgg).1 (hS g rfl)]
    exact hgg
end

end Go.Proofs.YtnokfhkcfebimaaGreat

/- append onto a row of the call's own, the source any slice that reads as a list. -/
namespace Go.Proofs.YtnokfhkcfebimaaGreat
open Go.RowKit

section
variable {P : Program} (w : World) {α : Type} {f : α → List Value} {av : Option Nat}

theorem run_append_rs (base : Nat) (t ty e : TypeId) (z : Value) (size bytes : Nat) (ht : P.underlying t = some (.slice e)) (h2 : (P.info? e).map (fun i => (i.zero, i.size, i.bytes)) = some (some z, size, bytes))
    (hzs : z.cells.size = size) (hsz : 0 < size) (v : Value) (n : Nat) (l0 : List α) (hown : w.ownsRow base e size v n (l0.flatMap f))
    (A : Option Addr) (m c : Nat) (l : List α) (hR : Rs w av size f A l) (hl : l.length = m) (hf : ∀ a, (f a).length = size) (h1 : ∀ a, ∀ u ∈ f a, u.oneCell' = true)
    (h63 : n + m ≤ 4294967296) (hby : bytes ≤ 4096) (hbase : base ≤ w.heap.size) :
    ∃ A' c' w', (Builtin.append_ #[t, t] ty #[v, .slice A m c]).run P w = .ok (.slice A' (n + m) c') w' ∧ w'.ownsRow base e size (.slice A' (n + m) c') (n + m) ((l0 ++ l).flatMap f) ∧ w.grownBy w' v.ownBlock ∧
      (∀ g, (Value.slice A' (n + m) c').ownBlock = some g → v.ownBlock = some g ∨ g = w.heap.size) := by
  obtain ⟨i, hi, hz, hsize, hbyt⟩ := info_parts h2
  have hform : ∃ A0 c0, v = .slice A0 n c0 := by
    rcases hown.2 with ⟨rfl, rfl⟩ | ⟨g, cap, cur, rfl, _⟩
    · exact ⟨_, _, rfl⟩
    · exact ⟨_, _, rfl⟩
  by_cases hm : m = 0
  · subst hm
    have hn : l = [] := List.eq_nil_of_length_eq_zero hl
    subst hn
    obtain ⟨A0, c0, rfl⟩ := hform
    refine ⟨A0, c0, w, ?_, by simpa using hown, ⟨rfl, rfl, rfl, Nat.le_refl _, fun _ _ _ => rfl⟩, fun g hg => .inl hg⟩
    rcases hown.2 with ⟨h, rfl⟩ | ⟨g, cap, cur, h, _, _, hnc, _⟩
    · injection h with h3 h4 h5
      subst h3; subst h5
      cases A <;> simp [Builtin.append_, run_underlying ht, sizeOf, typeInfo, hi, Builtin.lenOf, Builtin.firstCells, loadCells, loadCellsFrom]
    · injection h with h3 h4 h5
      subst h3; subst h5
      cases A <;> simp [Builtin.append_, run_underlying ht, sizeOf, typeInfo, hi, Builtin.lenOf, Builtin.firstCells, hnc, storeCells, loadCells, loadCellsFrom]
  · obtain ⟨b, o, rfl, hne, hb, hc⟩ := hR.flat hf (by rintro rfl; simp at hl; omega)
    have hbb : (n + m) * bytes ≤ 140737488355328 := by
      have : (n + m) * bytes ≤ 4294967296 * 4096 := Nat.mul_le_mul h63 hby
      omega
    obtain ⟨v', w', hr, h3, h4, _, h5⟩ := run_append_own_at (P := P) w base t ty e i z size bytes ht hi hz hsize hbyt hzs hsz v n _ hown ⟨b, o, none⟩ m c (l.flatMap f) (by rw [flat_len hf, hl]) hc (by
      intro u hu
      obtain ⟨x, _, hx⟩ := List.mem_flatMap.1 hu
      exact h1 x u hx) (by simp only [maxLen]; omega) hbb hbase
    obtain ⟨g, cap, rfl, _, _⟩ := h3.form (by omega)
    refine ⟨_, _, w', hr, by simpa using h3, h4, fun g' hg' => ?_⟩
    rcases h5 with h5 | h5
    · exact .inl (by rw [← h5]; exact hg')
    · right
      rw [hg'] at h5
      injection h5

theorem wl_append {ops : Array Oper} {rest : List Oper} {o : Oper} {a : Act} {Q : Exit → Act → World → Prop} (hgd : o.guard = none) (s x : Operand) (t : TypeId)
    (ho : o.op = .call { callee := .builtin .append, args := #[s, x], argTypes := #[t, t] })
    (base : Nat) (e : TypeId) (z : Value) (size bytes : Nat) (ht : P.underlying t = some (.slice e)) (h2 : (P.info? e).map (fun i => (i.zero, i.size, i.bytes)) = some (some z, size, bytes))
    (hzs : z.cells.size = size) (hsz : 0 < size) (v : Value) (n : Nat) (l0 : List α) (hs : a.eval s = v) (hown : w.ownsRow base e size v n (l0.flatMap f))
    (A : Option Addr) (m c : Nat) (l : List α) (hx : a.eval x = .slice A m c) (hR : Rs w av size f A l) (hl : l.length = m) (hf : ∀ a, (f a).length = size) (h1 : ∀ a, ∀ u ∈ f a, u.oneCell' = true)
    (h63 : n + m ≤ 4294967296) (hby : bytes ≤ 4096) (hbase : base ≤ w.heap.size)
    (h : ∀ A' c' w', w'.ownsRow base e size (.slice A' (n + m) c') (n + m) ((l0 ++ l).flatMap f) → w.grownBy w' v.ownBlock →
      (∀ g, (Value.slice A' (n + m) c').ownBlock = some g → v.ownBlock = some g ∨ g = w.heap.size) → wpList P ops Q rest (a.put o.dst (.slice A' (n + m) c')) w') : wpList P ops Q (o :: rest) a w := by
  obtain ⟨A', c', w', hr, h3, h4, h5⟩ := run_append_rs (P := P) w base t o.type e z size bytes ht h2 hzs hsz v n l0 hown A m c l hR hl hf h1 h63 hby hbase
  refine wpList_plain hgd fun K hK' => ?_
  unfold Oper.wp
  simp only [execOp, ho, resolve, invoke, builtin, hs, hx, hr, Result.andThen, Sem.run_bind, Sem.run_pure, List.map_toArray, List.map_cons, List.map_nil, Oper.upon]
  exact hK' _ _ (h A' c' w' h3 h4 h5)

end

/-- One element that lies in a block of its own. -/
theorem rs_one {w : World} {av : Option Nat} {α : Type} {f : α → List Value} {s b : Nat} {x : α} (hb : some b ≠ av) (hlt : b < w.heap.size) (h : ∀ j u, (f x)[j]? = some u → w.cell? ⟨b, j, none⟩ = some u) : Rs w av s f (some ⟨b, 0, none⟩) [x] := by
  intro _
  refine ⟨b, 0, rfl, hb, hlt, fun k a hk j u hu => ?_⟩
  cases k with
  | zero => simp at hk; subst hk; simpa using h j u hu
  | succ k => simp at hk

end Go.Proofs.YtnokfhkcfebimaaGreat

/- More small words over the model's memory. -/
namespace Go.Proofs.YtnokfhkcfebimaaGreat
open Go.RowKit

/-- A store makes no cell and takes none away. -/
@[go_sem] theorem isSome_setCell (w : World) (p q : Addr) (v : Value) : ((w.setCell p v).cell? q).isSome = (w.cell? q).isSome := by
  by_cases h : p = q
  · subst h
    cases hc : w.cell? p with
    | some u => rw [World.cell?_setCell_same w p v hc]; rfl
    | none =>
      simp only [World.setCell, World.cell?, Array.getElem?_modify, ↓reduceIte] at hc ⊢
      cases hb : w.heap[p.block]? with
      | none => rfl
      | some x =>
        rw [hb] at hc
        cases x with
        | cells c e f =>
          simp only [Option.map_some] at hc ⊢
          cases hs : p.spot.isSome
          · simp only [hs, Bool.false_eq_true, if_false] at hc ⊢
            rw [Array.getElem?_setIfInBounds]
            simp only [↓reduceIte]
            rcases Nat.lt_or_ge p.off c.size with h1 | h1
            · rw [Array.getElem?_eq_getElem h1] at hc; cases hc
            · rw [if_neg (by omega)]
          · simp
        | _ => rfl
  · rw [World.cell?_setCell_other _ _ _ _ h]

end Go.Proofs.YtnokfhkcfebimaaGreat

/- Seven stores into one block, and what a world that has grown reads. -/
namespace Go.Proofs.YtnokfhkcfebimaaGreat
open Go.RowKit

def put7 (w : World) (B : Nat) (v0 v1 v2 v3 v4 v5 v6 : Value) : World :=
  ((((((w.setCell ⟨B, 0, none⟩ v0).setCell ⟨B, 1, none⟩ v1).setCell ⟨B, 2, none⟩ v2).setCell ⟨B, 3, none⟩ v3).setCell ⟨B, 4, none⟩ v4).setCell ⟨B, 5, none⟩ v5).setCell ⟨B, 6, none⟩ v6
end Go.Proofs.YtnokfhkcfebimaaGreat

/- Blocks of seven cells, known whole. -/
namespace Go.Proofs.YtnokfhkcfebimaaGreat
open Go.RowKit

structure V7 where
  v0 : Value
  v1 : Value
  v2 : Value
  v3 : Value
  v4 : Value
  v5 : Value
  v6 : Value

/-- The seven cells of block b, which may be written. -/
def B7 (w : World) (b : Nat) (v : V7) : Prop :=
  b < w.heap.size ∧ (w.cell? ⟨b, 0, none⟩ = some v.v0 ∧ w.cell? ⟨b, 1, none⟩ = some v.v1 ∧ w.cell? ⟨b, 2, none⟩ = some v.v2 ∧ w.cell? ⟨b, 3, none⟩ = some v.v3 ∧ w.cell? ⟨b, 4, none⟩ = some v.v4 ∧ w.cell? ⟨b, 5, none⟩ = some v.v5 ∧ w.cell? ⟨b, 6, none⟩ = some v.v6) ∧ (∀ j, w.frozen? ⟨b, j, none⟩ = false) ∧ ∀ j, w.cell? ⟨b, j + 7, none⟩ = none

/-- Six such blocks in a row. -/
def S6 (w : World) (H : Nat) (x0 x1 x2 x3 x4 x5 : V7) : Prop := B7 w H x0 ∧ B7 w (H + 1) x1 ∧ B7 w (H + 2) x2 ∧ B7 w (H + 3) x3 ∧ B7 w (H + 4) x4 ∧ B7 w (H + 5) x5
/-- A slice that reads as a list, where other blocks were written. -/
theorem Rs.fr {w w' : World} {av : Option Nat} {α : Type} {s : Nat} {f : α → List Value} {A : Option Addr} {l : List α} {S : Nat → Prop} (h : Rs w av s f A l) (hf : Fr w w' S) (hS : l ≠ [] → ∀ b o, A = some ⟨b, o, none⟩ → some b ≠ av → ¬ S b) : Rs w' av s f A l := by
  intro hl
  obtain ⟨b, o, hA, hn, hb, hc⟩ := h hl
  refine ⟨b, o, hA, hn, Nat.lt_of_lt_of_le hb hf.size, fun k a hk j u hu => ?_⟩
  rw [World.cell?_of_block (w := w) (hf.block b hb (hS hl b o hA hn))]
  exact hc k a hk j u hu
/-- A value that is no string. -/
def noStr : Value → Prop
  | .string _ => False
  | _ => True
end Go.Proofs.YtnokfhkcfebimaaGreat

/- Plain laws of natural numbers as lists of limbs of 32 bits, the least significant one first. -/
namespace Go.Proofs.YtnokfhkcfebimaaGreat

/-- The value of limbs. -/
def lv : List Nat → Nat
  | [] => 0
  | x :: l => x + 4294967296 * lv l
/-- The limbs of a number, without zeros at the end. -/
def lm (n : Nat) : List Nat := if h : n = 0 then [] else n % 4294967296 :: lm (n / 4294967296)
termination_by n
decreasing_by omega
def okL (l : List Nat) : Prop := ∀ x ∈ l, x < 4294967296

theorem lm_zero : lm 0 = [] := by rw [lm]; rfl
theorem lm_pos {n : Nat} (h : n ≠ 0) : lm n = n % 4294967296 :: lm (n / 4294967296) := by rw [lm]; simp [h]
theorem lv_lm (n : Nat) : lv (lm n) = n := by
  by_cases h : n = 0
  · subst h; rw [lm_zero]; rfl
  · rw [lm_pos h, lv, lv_lm (n / 4294967296)]; omega
termination_by n
decreasing_by omega
theorem okL_lm (n : Nat) : okL (lm n) := by
  by_cases h : n = 0
  · subst h; rw [lm_zero]; intro x hx; simp at hx
  · rw [lm_pos h]
    intro x hx
    rcases List.mem_cons.1 hx with rfl | hx
    · omega
    · exact okL_lm (n / 4294967296) x hx
termination_by n
decreasing_by omega
theorem okL_nil : okL [] := fun x hx => by simp at hx
theorem okL_cons {x : Nat} {l : List Nat} : okL (x :: l) ↔ x < 4294967296 ∧ okL l := by simp [okL]
theorem okL.get {l : List Nat} (h : okL l) {i x : Nat} (hx : l[i]? = some x) : x < 4294967296 := h x (List.mem_of_getElem? hx)
theorem okL.take {l : List Nat} (h : okL l) (k : Nat) : okL (l.take k) := fun x hx => h x (List.mem_of_mem_take hx)
theorem okL.drop {l : List Nat} (h : okL l) (k : Nat) : okL (l.drop k) := fun x hx => h x (List.mem_of_mem_drop hx)
theorem okL.append {a b : List Nat} (h : okL a) (k : okL b) : okL (a ++ b) := fun x hx => by
  rcases List.mem_append.1 hx with hx | hx
  · exact h x hx
  · exact k x hx
theorem okL.set {l : List Nat} (h : okL l) {i x : Nat} (hx : x < 4294967296) : okL (l.set i x) := fun y hy => by
  rcases List.mem_or_eq_of_mem_set hy with hy | rfl
  · exact h y hy
  · exact hx
theorem lm_eq_nil {n : Nat} : lm n = [] ↔ n = 0 := by
  constructor
  · intro h
    have := lv_lm n
    rw [h] at this
    exact this.symm
  · rintro rfl; exact lm_zero
/-- Limbs without zeros at the end are those of their value. -/
theorem lm_lv : ∀ {l : List Nat}, okL l → (∀ h : l ≠ [], l.getLast h ≠ 0) → lm (lv l) = l
  | [], _, _ => by rw [lv, lm_zero]
  | x :: l, h, k => by
    have hx := (okL_cons.1 h).1
    have hl := (okL_cons.1 h).2
    have k' : ∀ h : l ≠ [], l.getLast h ≠ 0 := fun h' => by
      have := k (by simp)
      rwa [List.getLast_cons h'] at this
    have ih := lm_lv hl k'
    have hne : lv (x :: l) ≠ 0 := by
      rw [lv]
      by_cases hl0 : l = []
      · subst hl0
        have := k (by simp)
        simp at this
        omega
      · have : lv l ≠ 0 := fun e => by rw [e, lm_zero] at ih; exact hl0 ih.symm
        omega
    rw [lm_pos hne, lv]
    have e1 : (x + 4294967296 * lv l) % 4294967296 = x := by omega
    have e2 : (x + 4294967296 * lv l) / 4294967296 = lv l := by omega
    rw [e1, e2, ih]
theorem lm_getLast {n : Nat} (h : lm n ≠ []) : (lm n).getLast h ≠ 0 := by
  have hn : n ≠ 0 := fun e => h (lm_eq_nil.2 e)
  by_cases h1 : n / 4294967296 = 0
  · simp only [lm_pos hn, h1, lm_zero, List.getLast_singleton]
    omega
  · have h2 : lm (n / 4294967296) ≠ [] := fun e => h1 (lm_eq_nil.1 e)
    have e : (lm n).getLast h = (lm (n / 4294967296)).getLast h2 := by
      simp only [lm_pos hn]
      rw [List.getLast_cons h2]
    rw [e]
    exact lm_getLast h2
termination_by n
decreasing_by omega
theorem lv_append : ∀ (a b : List Nat), lv (a ++ b) = lv a + 4294967296 ^ a.length * lv b
  | [], b => by simp [lv]
  | x :: a, b => by
    rw [List.cons_append, lv, lv, lv_append a b, List.length_cons, Nat.pow_succ, Nat.mul_add]
    rw [Nat.mul_comm (4294967296 ^ a.length) 4294967296, Nat.mul_assoc]
    omega
theorem lv_lt : ∀ {l : List Nat}, okL l → lv l < 4294967296 ^ l.length
  | [], _ => by simp [lv]
  | x :: l, h => by
    have hx := (okL_cons.1 h).1
    have ih := lv_lt (okL_cons.1 h).2
    rw [lv, List.length_cons, Nat.pow_succ]
    omega
theorem lv_take_succ {l : List Nat} {k x : Nat} (h : l[k]? = some x) : lv (l.take (k + 1)) = lv (l.take k) + 4294967296 ^ k * x := by
  have hk : k < l.length := (List.getElem?_eq_some_iff.1 h).1
  have hx : l[k] = x := (List.getElem?_eq_some_iff.1 h).2
  rw [List.take_succ_eq_append_getElem hk, lv_append, hx]
  have : (l.take k).length = k := by rw [List.length_take]; omega
  rw [this]
  simp [lv]
theorem lv_take_drop (l : List Nat) (k : Nat) (hk : k ≤ l.length) : lv l = lv (l.take k) + 4294967296 ^ k * lv (l.drop k) := by
  conv => lhs; rw [← List.take_append_drop k l, lv_append]
  rw [List.length_take, Nat.min_eq_left hk]
theorem lv_drop {l : List Nat} {k x : Nat} (h : l[k]? = some x) : lv (l.drop k) = x + 4294967296 * lv (l.drop (k + 1)) := by
  have hk : k < l.length := (List.getElem?_eq_some_iff.1 h).1
  have hx : l[k] = x := (List.getElem?_eq_some_iff.1 h).2
  rw [List.drop_eq_getElem_cons hk, lv, hx]
theorem lv_snoc (l : List Nat) (x : Nat) : lv (l ++ [x]) = lv l + 4294967296 ^ l.length * x := by rw [lv_append]; simp [lv]
theorem lv_replicate (n : Nat) : lv (List.replicate n 0) = 0 := by
  induction n with
  | zero => rfl
  | succ n ih => rw [List.replicate_succ, lv, ih]
theorem okL_replicate (n : Nat) : okL (List.replicate n 0) := fun x hx => by
  have := (List.mem_replicate.1 hx).2
  omega
/-- One limb is set. -/
theorem lv_set : ∀ {l : List Nat} {k x y : Nat}, l[k]? = some x → lv (l.set k y) + 4294967296 ^ k * x = lv l + 4294967296 ^ k * y
  | [], k, x, y, h => by simp at h
  | a :: l, 0, x, y, h => by
    simp at h
    subst h
    simp [lv]
    omega
  | a :: l, k + 1, x, y, h => by
    have ih := lv_set (l := l) (k := k) (x := x) (y := y) (by simpa using h)
    rw [List.set_cons_succ, lv, lv, Nat.pow_succ, Nat.mul_comm (4294967296 ^ k) 4294967296, Nat.mul_assoc, Nat.mul_assoc]
    omega
/-- A number's limbs are few. -/
theorem lm_length_le {n k : Nat} : (lm n).length ≤ k ↔ n < 4294967296 ^ k := by
  constructor
  · intro h
    have h1 := lv_lt (okL_lm n)
    rw [lv_lm] at h1
    exact Nat.lt_of_lt_of_le h1 (Nat.pow_le_pow_right (by omega) h)
  · intro h
    by_cases h0 : lm n = []
    · rw [h0]; simp
    · have hl := lm_getLast h0
      have e := lv_lm n
      rw [← List.dropLast_concat_getLast h0, lv_snoc, List.length_dropLast] at e
      have h1 : 4294967296 ^ ((lm n).length - 1) ≤ n := by
        have h2 : 4294967296 ^ ((lm n).length - 1) * 1 ≤ 4294967296 ^ ((lm n).length - 1) * (lm n).getLast h0 := Nat.mul_le_mul_left _ (by omega)
        omega
      have h3 : 4294967296 ^ ((lm n).length - 1) < 4294967296 ^ k := by omega
      have h4 := (Nat.pow_lt_pow_iff_right (by omega : 1 < 4294967296)).1 h3
      omega
theorem lm_lt_pow (n : Nat) : n < 4294967296 ^ (lm n).length := lm_length_le.1 (Nat.le_refl _)
theorem lm_length_lt {n k : Nat} : k < (lm n).length ↔ 4294967296 ^ k ≤ n := by
  have := lm_length_le (n := n) (k := k)
  omega
theorem lm_length_mono {a b : Nat} (h : a ≤ b) : (lm a).length ≤ (lm b).length := lm_length_le.2 (Nat.lt_of_le_of_lt h (lm_lt_pow b))
theorem lm_length_mul (a b : Nat) : (lm (a * b)).length ≤ (lm a).length + (lm b).length := by
  rw [lm_length_le, Nat.pow_add]
  have h1 := lm_lt_pow a
  have h2 := lm_lt_pow b
  exact Nat.lt_of_le_of_lt (Nat.mul_le_mul_left _ (Nat.le_of_lt h2)) (Nat.mul_lt_mul_of_pos_right h1 (Nat.pow_pos (by omega)))
theorem lm_length_add (a b : Nat) : (lm (a + b)).length ≤ max (lm a).length (lm b).length + 1 := by
  rw [lm_length_le, Nat.pow_succ]
  have h1 := lm_length_le.1 (Nat.le_max_left (lm a).length (lm b).length)
  have h2 := lm_length_le.1 (Nat.le_max_right (lm a).length (lm b).length)
  omega
theorem lm_inj {a b : Nat} (h : lm a = lm b) : a = b := by rw [← lv_lm a, ← lv_lm b, h]
theorem lm_small {x : Nat} (h : x < 4294967296) (h0 : x ≠ 0) : lm x = [x] := by
  rw [lm_pos h0, Nat.mod_eq_of_lt h, Nat.div_eq_of_lt h, lm_zero]
theorem lm_one : lm 1 = [1] := lm_small (by omega) (by omega)
/-- Cutting a zero off the end. -/
theorem lv_take_zero {l : List Nat} {k : Nat} (h : l[k]? = some 0) : lv (l.take (k + 1)) = lv (l.take k) := by rw [lv_take_succ h]; omega
/-- What Trim leaves. -/
theorem take_eq_lm {l : List Nat} {k : Nat} (hl : okL l) (hk : k ≤ l.length) (hv : lv (l.take k) = lv l) (he : k = 0 ∨ ∃ x, l[k - 1]? = some x ∧ x ≠ 0) : l.take k = lm (lv l) := by
  rw [← hv]
  refine (lm_lv (hl.take k) fun hne => ?_).symm
  rcases he with rfl | ⟨x, hx, h0⟩
  · simp at hne
  · have hk0 : k ≠ 0 := by rintro rfl; simp at hne
    have hlen : (l.take k).length = k := by rw [List.length_take]; omega
    rw [List.getLast_eq_getElem]
    have hx' : (l.take k)[k - 1]? = some x := by rw [List.getElem?_take, if_pos (by omega)]; exact hx
    have := (List.getElem?_eq_some_iff.1 hx').2
    simp only [hlen]
    rw [this]
    exact h0
/-- -1, 0 or 1. -/
def cmpN (a b : Nat) : Int := if a < b then -1 else if a = b then 0 else 1
theorem cmpN_lt {a b : Nat} (h : a < b) : cmpN a b = -1 := by simp [cmpN, h]
theorem cmpN_gt {a b : Nat} (h : b < a) : cmpN a b = 1 := by unfold cmpN; rw [if_neg (by omega), if_neg (by omega)]
theorem cmpN_eq (a : Nat) : cmpN a a = 0 := by simp [cmpN]
theorem cmpN_neg {a b : Nat} : cmpN a b < 0 ↔ a < b := by unfold cmpN; split <;> (try split) <;> omega
theorem cmpN_zero {a b : Nat} : cmpN a b = 0 ↔ a = b := by unfold cmpN; split <;> (try split) <;> omega
theorem cmpN_le {a b : Nat} : cmpN a b ≤ 0 ↔ a ≤ b := by unfold cmpN; split <;> (try split) <;> omega
theorem lt_of_length {a b : Nat} (h : (lm a).length < (lm b).length) : a < b := by
  rw [lm_length_lt] at h
  exact Nat.lt_of_lt_of_le (lm_lt_pow a) h
/-- Two lists that agree from a limb on. -/
theorem lt_of_limb {a b : List Nat} {k x y : Nat} (ha : okL a) (hx : a[k]? = some x) (hy : b[k]? = some y) (hd : a.drop (k + 1) = b.drop (k + 1)) (h : x < y) : lv a < lv b := by
  have h1 : k < a.length := (List.getElem?_eq_some_iff.1 hx).1
  have h2 : k < b.length := (List.getElem?_eq_some_iff.1 hy).1
  rw [lv_take_drop a k (by omega), lv_take_drop b k (by omega), lv_drop hx, lv_drop hy, hd]
  have h3 := lv_lt (ha.take k)
  rw [List.length_take, Nat.min_eq_left (by omega)] at h3
  have h4 : 4294967296 ^ k * (x + 1 + 4294967296 * lv (b.drop (k + 1))) ≤ 4294967296 ^ k * (y + 4294967296 * lv (b.drop (k + 1))) := Nat.mul_le_mul_left _ (by omega)
  rw [Nat.mul_add, Nat.mul_add, Nat.mul_one] at h4
  rw [Nat.mul_add]
  omega

end Go.Proofs.YtnokfhkcfebimaaGreat
