/- Contracts of the functions that these laws reach: part 1: Small general words over the model's memory: slices that read as lists of structured elements, kept over calls; copy and append for elements of several cells; The ledger's functions as plain functions on plain data: no program here; Contracts of the leaves that many seats reach (turned from Wa); Contracts of the leaves that many seats reach (turned from Wa); Contracts: a new history (turned from Wb); append onto a row of the call's own, the source any slice that reads as a list; More small words over the model's memory. -/
import Derived.WalkKit
import Derived.WalkSpells
import Derived.WalkLawsBesides
import Derived.Deep.QuietTactic
import Derived.BigQuiet
import Derived.Deep.AppendLies
import Derived.Test.YtnofljgmkdommaaProg
set_option linter.unusedVariables false
set_option linter.unusedSimpArgs false

/- Small general words over the model's memory: slices that read as lists of structured elements, kept over calls; copy and append for elements of several cells. -/
namespace Go.Proofs.Ytnofljgmkdommaa
open Go.RowKit

theorem hide {p : Prop} (h : p) : Hid p := h
theorem ret_bool {a b : Bool} (h : a = b) : Ending.returned (.bool a) = .returned (.bool b) := by rw [h]
theorem ret_int {k : IntKind} {a b : Int} (h : a = b) : Ending.returned (.int k a) = .returned (.int k b) := by rw [h]

theorem bcell {W w1 : World} (hb : Below W.heap.size W w1) : (∀ b o, b < W.heap.size → w1.cell? ⟨b, o, none⟩ = W.cell? ⟨b, o, none⟩) ∧ (∀ b o, b < W.heap.size → w1.frozen? ⟨b, o, none⟩ = W.frozen? ⟨b, o, none⟩) :=
  ⟨fun b o h => hb.cell (p := ⟨b, o, none⟩) h, fun b o h => hb.frozen (p := ⟨b, o, none⟩) h⟩

section
variable {α : Type} {w w' : World} {av : Option Nat} {s : Nat} {f : α → List Value} {A : Option Addr} {l : List α}

/-- The slice with the address A reads as the list l: element k takes s cells, which hold f of it; its block is not av. -/
def Rs (w : World) (av : Option Nat) (s : Nat) (f : α → List Value) (A : Option Addr) (l : List α) : Prop :=
  l ≠ [] → ∃ b o, A = some ⟨b, o, none⟩ ∧ some b ≠ av ∧ b < w.heap.size ∧ ∀ k a, l[k]? = some a → ∀ j u, (f a)[j]? = some u → w.cell? ⟨b, o + k * s + j, none⟩ = some u

theorem Rs.nil : Rs w av s f A ([] : List α) := fun h => absurd rfl h

theorem Rs.at (h : Rs w av s f A l) {k : Nat} {a : α} (hk : l[k]? = some a) : ∃ b o, A = some ⟨b, o, none⟩ ∧ some b ≠ av ∧ b < w.heap.size ∧ ∀ j u, (f a)[j]? = some u → w.cell? ⟨b, o + k * s + j, none⟩ = some u := by
  obtain ⟨b, o, hA, hn, hb, hc⟩ := h (by rintro rfl; simp at hk)
  exact ⟨b, o, hA, hn, hb, hc k a hk⟩

theorem Rs.grown (h : Rs w av s f A l) {row : Option Nat} (hg : w.grownBy w' row) (hr : row = av ∨ row = none) : Rs w' av s f A l := by
  intro hl
  obtain ⟨b, o, hA, hn, hb, hc⟩ := h hl
  refine ⟨b, o, hA, hn, Nat.lt_of_lt_of_le hb hg.size, fun k a hk j u hu => ?_⟩
  rw [World.cell?_of_block (w := w) (hg.block b hb (by rcases hr with rfl | rfl <;> simp_all))]
  exact hc k a hk j u hu

theorem grown_of_below {a w : World} (h : Below a.heap.size a w) (row : Option Nat) : a.grownBy w row := ⟨h.os, h.tape, h.output, h.size, fun i hi _ => h.block i hi⟩
theorem below_of_grown {a w : World} (h : a.grownBy w none) : Below a.heap.size a w := ⟨h.os, h.tape, h.output, h.size, fun i hi => h.block i hi (by simp)⟩

/-- What a world that has grown reads where the old one was; H: the old heap's size, as the walk spells it. -/
theorem gcell {W w1 : World} {row : Option Nat} (hg : W.grownBy w1 row) (H : Nat) (hH : H ≤ W.heap.size) :
    (∀ b o, b < H → some b ≠ row → w1.cell? ⟨b, o, none⟩ = W.cell? ⟨b, o, none⟩) ∧ (∀ b o, b < H → some b ≠ row → w1.frozen? ⟨b, o, none⟩ = W.frozen? ⟨b, o, none⟩) ∧ H ≤ w1.heap.size := by
  exact ⟨fun b o hb hr => World.cell?_of_block (w := W) (a := ⟨b, o, none⟩) (hg.block b (Nat.lt_of_lt_of_le hb hH) hr), fun b o hb hr => World.frozen?_of_block (w := W) (a := ⟨b, o, none⟩) (hg.block b (Nat.lt_of_lt_of_le hb hH) hr), Nat.le_trans hH hg.size⟩

theorem Rs.below (h : Rs w av s f A l) (hb : Below w.heap.size w w') : Rs w' av s f A l := h.grown (grown_of_below hb none) (.inr rfl)
theorem Rs.alloc (h : Rs w av s f A l) (o : Obj) : Rs (w.alloc o) av s f A l := h.below ((Below.refl _ _).alloc (Nat.le_refl _) _)
theorem Rs.drew (h : Rs w av s f A l) : Rs w.drew av s f A l := h
theorem Rs.drewN (h : Rs w av s f A l) (n : Nat) : Rs (w.drewN n) av s f A l := h
/-- A store into another block. -/
theorem Rs.far (h : Rs w av s f A l) {p : Addr} (hp : ∀ b o, A = some ⟨b, o, none⟩ → b ≠ p.block) (u : Value) : Rs (w.setCell p u) av s f A l := by
  intro hl
  obtain ⟨b, o, hA, hn, hb, hc⟩ := h hl
  refine ⟨b, o, hA, hn, by simpa [World.setCell] using hb, fun k a hk j u hu => ?_⟩
  rw [World.cell?_setCell_other _ _ _ _ (by rintro rfl; exact hp _ _ hA rfl)]
  exact hc k a hk j u hu
theorem Rs.weak (h : Rs w av s f A l) : Rs w none s f A l := fun hl => by
  obtain ⟨b, o, hA, _, hb, hc⟩ := h hl
  exact ⟨b, o, hA, by simp, hb, hc⟩

theorem own_far {base : Nat} {e : TypeId} {v : Value} {n : Nat} {xs : List Value} (h : w.ownsRow base e s v n xs) {p : Addr} (hp : v.ownBlock ≠ some p.block) (u : Value) : (w.setCell p u).ownsRow base e s v n xs :=
  h.kept (row := some p.block) ⟨rfl, rfl, rfl, by simp [World.setCell], fun k _ hk => Below.heap_setCell w p u k (fun e => hk (by rw [e]))⟩ (.inr hp)
theorem own_drewN {base : Nat} {e : TypeId} {v : Value} {n : Nat} {xs : List Value} (h : w.ownsRow base e s v n xs) (k : Nat) : (w.drewN k).ownsRow base e s v n xs := h

theorem flat_at (hs : ∀ a, (f a).length = s) : ∀ (l : List α) (i : Nat) (u : Value), (l.flatMap f)[i]? = some u → 0 < s ∧ ∃ a, l[i / s]? = some a ∧ (f a)[i % s]? = some u
  | [], i, u, h => by simp at h
  | a :: l, i, u, h => by
    rw [List.flatMap_cons, List.getElem?_append] at h
    split at h
    · rename_i hi
      rw [hs] at hi
      have : 0 < s := by omega
      exact ⟨this, a, by rw [Nat.div_eq_of_lt hi]; rfl, by rw [Nat.mod_eq_of_lt hi]; exact h⟩
    · rename_i hi
      rw [hs] at hi h
      obtain ⟨h0, a', h1, h2⟩ := flat_at hs l (i - s) u h
      refine ⟨h0, a', ?_, ?_⟩
      · have e : i / s = (i - s) / s + 1 := by rw [← Nat.add_div_right _ h0]; congr 1; omega
        rw [e]; simpa using h1
      · have e : i % s = (i - s) % s := by conv => lhs; rw [show i = (i - s) + s by omega, Nat.add_mod_right]
        rw [e]; exact h2

theorem flat_get (hs : ∀ a, (f a).length = s) : ∀ (l : List α) (k : Nat) (a : α) (j : Nat) (u : Value), l[k]? = some a → (f a)[j]? = some u → (l.flatMap f)[k * s + j]? = some u
  | [], k, a, j, u, h, _ => by simp at h
  | b :: l, 0, a, j, u, h, hu => by
    simp at h
    subst h
    have hj : j < (f b).length := (List.getElem?_eq_some_iff.1 hu).1
    rw [List.flatMap_cons, List.getElem?_append, if_pos (by simpa using hj)]
    simpa using hu
  | b :: l, k + 1, a, j, u, h, hu => by
    have := flat_get hs l k a j u (by simpa using h) hu
    rw [List.flatMap_cons, List.getElem?_append, if_neg (by rw [hs, Nat.add_mul]; omega), hs]
    rw [show (k + 1) * s + j - s = k * s + j by rw [Nat.add_mul]; omega]
    exact this

theorem flat_len (hs : ∀ a, (f a).length = s) : ∀ (l : List α), (l.flatMap f).length = l.length * s
  | [] => by simp
  | a :: l => by rw [List.flatMap_cons, List.length_append, hs, flat_len hs l, List.length_cons, Nat.add_mul]; omega

/-- The flat cells of a slice that reads as l. -/
theorem Rs.flat (h : Rs w av s f A l) (hs : ∀ a, (f a).length = s) (hl : l ≠ []) : ∃ b o, A = some ⟨b, o, none⟩ ∧ some b ≠ av ∧ b < w.heap.size ∧ ∀ j u, (l.flatMap f)[j]? = some u → w.cell? ((⟨b, o, none⟩ : Addr).add j) = some u := by
  obtain ⟨b, o, hA, hn, hb, hc⟩ := h hl
  refine ⟨b, o, hA, hn, hb, fun j u hu => ?_⟩
  obtain ⟨h0, a, h1, h2⟩ := flat_at hs l j u hu
  have := hc _ a h1 _ u h2
  rw [Addr.add_lit]
  rw [← this]
  congr 2
  have := Nat.div_add_mod j s
  rw [Nat.mul_comm] at this
  omega

/-- What the call owns reads as the list. -/
theorem Rs.of_own {base : Nat} {e : TypeId} {c n : Nat} (h : w.ownsRow base e s (.slice A n c) n (l.flatMap f)) (hs : ∀ a, (f a).length = s) (hn : l.length = n) (hav : ∀ t, av = some t → t < base) : Rs w av s f A l := by
  intro hl
  have hn0 : 0 < n := by rw [← hn]; exact List.length_pos_iff.2 hl
  obtain ⟨g, cap, hv, hb, hlt⟩ := h.form hn0
  have hA : A = some ⟨g, 0, none⟩ := by injection hv
  subst hA
  refine ⟨g, 0, rfl, fun e => by have := hav _ e.symm; omega, hlt, fun k a hk j u hu => ?_⟩
  have := h.cells (g := g) rfl _ u (flat_get hs l k a j u hk hu)
  rw [Addr.add_lit] at this
  rw [← this]
  congr 2
  omega
end

section
variable {P : Program} (w : World)

theorem run_copy_s (dT sT ty elem : TypeId) (size : Nat) (g o dLen dCap : Nat) (sA : Option Addr) (sLen sCap : Nat) (cur : Array Value) (t : TypeId) (cs : List Value)
    (hu : P.underlying dT = some (.slice elem)) (hs : (P.info? elem).map (·.size) = some size)
    (hg : w.heap[g]? = some (.cells cur t (0, 0))) (hn : cs.length = Nat.min sLen dLen * size)
    (hsrc : cs ≠ [] → ∃ a, sA = some a ∧ ∀ j v, cs[j]? = some v → w.cell? (a.add j) = some v) (hfit : o + cs.length ≤ cur.size) (h1 : ∀ v ∈ cs, v.oneCell' = true) :
    (Builtin.copy_ #[dT, sT] ty #[.slice (some ⟨g, o, none⟩) dLen dCap, .slice sA sLen sCap]).run P w =
      .ok (goInt (Nat.min sLen dLen)) (w.setRow g (cur.toList.take o ++ cs ++ cur.toList.drop (o + cs.length)).toArray) := by
  have hst := run_storeCells_at P g o t cs 0 cur w hg (by simpa using hfit) h1
  cases hq : P.info? elem with
  | none => simp [hq] at hs
  | some i =>
    have hi : i.size = size := by simpa [hq] using hs
    have hfc : (Builtin.firstCells size (Nat.min sLen dLen) (.slice sA sLen sCap)).run P w = .ok cs.toArray w := by
      by_cases hc : cs = []
      · subst hc
        have h0 : Nat.min sLen dLen * size = 0 := by simpa using hn.symm
        cases sA with
        | none => simp [Builtin.firstCells]
        | some a =>
          have hl := run_loadCells_list (P := P) w a [] (by simp)
          simp only [List.length_nil] at hl
          simpa [Builtin.firstCells, h0] using hl
      · obtain ⟨a, rfl, hsrc'⟩ := hsrc hc
        have hl := run_loadCells_list (P := P) w a cs hsrc'
        simpa [Builtin.firstCells, ← hn] using hl
    simp [Builtin.copy_, run_underlying hu, Builtin.lenOf, sizeOf, typeInfo, hq, hi, hfc, hst]

/-- 'copy(dst, src)', both of n elements, dst the call's own. -/
theorem wl_copy {α : Type} {f : α → List Value} {av : Option Nat} {ops : Array Oper} {rest : List Oper} {o : Oper} {a : Act} {Q : Exit → Act → World → Prop} (hgd : o.guard = none) (d s : Operand) (dT sT : TypeId)
    (ho : o.op = .call { callee := .builtin .copy, args := #[d, s], argTypes := #[dT, sT] }) (elem : TypeId) (size : Nat) (hu : P.underlying dT = some (.slice elem)) (hsz : (P.info? elem).map (·.size) = some size)
    (base g n cap c : Nat) (ys : List Value) (A : Option Addr) (hd : a.eval d = .slice (some ⟨g, 0, none⟩) n cap) (hs : a.eval s = .slice A n c) (hown : w.ownsRow base elem size (.slice (some ⟨g, 0, none⟩) n cap) n ys)
    (l : List α) (hR : Rs w av size f A l) (hl : l.length = n) (hf : ∀ a, (f a).length = size) (h1 : ∀ a, ∀ u ∈ f a, u.oneCell' = true)
    (h : ∀ w', w'.ownsRow base elem size (.slice (some ⟨g, 0, none⟩) n cap) n (l.flatMap f) → w.grownBy w' (some g) → wpList P ops Q rest (a.put o.dst (goInt n)) w') :
    wpList P ops Q (o :: rest) a w := by
  have hfl := flat_len hf l
  rcases hown.2 with ⟨h', _⟩ | ⟨g', cap', cur, h', hbg, hg, hnc, hcm, hcs, htake⟩
  · simp at h'
  · simp only [Value.slice.injEq, Option.some.injEq, Addr.mk.injEq, and_true, true_and] at h'
    obtain ⟨rfl, rfl⟩ := h'
    have hle : n * size ≤ cap * size := Nat.mul_le_mul_right _ hnc
    have hr := run_copy_s (P := P) w dT sT o.type elem size g 0 n cap A n c cur elem (l.flatMap f) hu hsz hg (by rw [hfl, hl]; show _ = min n n * size; rw [Nat.min_self]) (by
      intro hne
      obtain ⟨b, o', hA, _, _, hc⟩ := hR.flat hf (by rintro rfl; simp at hne)
      exact ⟨_, hA, hc⟩) (by rw [hfl, hl, hcs]; omega) (by
      intro u hu'
      obtain ⟨x, _, hx⟩ := List.mem_flatMap.1 hu'
      exact h1 x u hx)
    have e : Nat.min n n = n := Nat.min_self n
    rw [e, List.take_zero, List.nil_append, Nat.zero_add] at hr
    generalize l.flatMap f = xs at h hfl hr
    rw [hl] at hfl
    refine wpList_plain hgd fun K hK' => ?_
    unfold Oper.wp
    simp only [execOp, ho, resolve, invoke, builtin, hd, hs, hr, Result.andThen, Sem.run_bind, Sem.run_pure, List.map_toArray, List.map_cons, List.map_nil, Oper.upon]
    refine hK' _ _ (h _ ⟨hfl, .inr ⟨g, cap, (xs ++ cur.toList.drop xs.length).toArray, rfl, hbg, setRow_heap w g cur _ elem _ hg, hnc, hcm, ?_, ?_⟩⟩ ⟨rfl, rfl, rfl, by simp, fun k _ hk => ?_⟩)
    · simp only [List.size_toArray, List.length_append, List.length_drop, Array.length_toList, hfl]
      omega
    · rw [← hfl]; simp
    · exact setRow_other w g k _ (fun e => hk (by simp [e]))
end

section
variable {P : Program} (w : World)
/-- 'make([]T, n, c)'. -/
theorem wl_make {ops : Array Oper} {rest : List Oper} {o : Oper} {a : Act} {Q : Exit → Act → World → Prop}
    (hg : o.guard = none) (l k : Operand) (t : TypeId) (hop : o.op = Op.makeSlice t l k)
    (base : Nat) (e : TypeId) (z : Value) (size bytes : Nat) (h1 : P.underlying t = some (.slice e)) (h2 : (P.info? e).map (fun i => (i.zero, i.size, i.bytes)) = some (some z, size, bytes))
    (H n c : Nat) (hH : w.heap.size = H) (N C : Int) (hl : a.eval l = .int .i64 N) (hc : a.eval k = .int .i64 C) (hN : N = (n : Int)) (hC : C = (c : Int)) (hnc : n ≤ c) (hzs : z.cells.size = size) (b2 : bytes * c ≤ 281474976710656) (b3 : c ≤ maxLen) (b4 : base ≤ w.heap.size)
    (hK : ∀ w' ys, w'.ownsRow base e size (.slice (some ⟨H, 0, none⟩) n c) n ys → Hid (ys = (madeCells z.cells (c * size)).toList.take (n * size)) → w.grownBy w' none → wpList P ops Q rest (a.put o.dst (.slice (some ⟨H, 0, none⟩) n c)) w') :
    wpList P ops Q (o :: rest) a w := by
  obtain ⟨i, hi, hz, hsz, hby⟩ := info_parts h2
  subst hN hC hsz hby hH
  have hb : (i.bytes : Int) * (c : Int) ≤ 281474976710656 := by
    have h : ((i.bytes * c : Nat) : Int) ≤ 281474976710656 := by omega
    rwa [Int.natCast_mul] at h
  have hm : c ≤ 9223372036854775807 := by simp only [maxLen] at b3; omega
  have hr := run_make (P := P) w t e i z h1 hi hz .i64 .i64 n c (by omega) (by omega) hb (by omega)
  simp only [Int.toNat_natCast] at hr
  refine wpList_plain hg fun K hK' => ?_
  unfold Oper.wp
  simp only [execOp, hop, hl, hc, hr, Result.andThen, Sem.run_bind, Sem.run_pure, Oper.upon]
  have hs : (madeCells z.cells (c * i.size)).size = c * i.size := size_madeCells _ _
  refine hK' _ _ (hK _ _ ⟨?_, .inr ⟨w.heap.size, c, _, rfl, b4, heap_alloc_new w _, hnc, b3, hs, rfl⟩⟩ (hide rfl) (World.grownBy_alloc w _ _))
  rw [List.length_take, Array.length_toList, hs]
  have : n * i.size ≤ c * i.size := Nat.mul_le_mul_right _ hnc
  omega
end

/-! ### What a call leaves alone: all old blocks but those of S. -/
structure Fr (w w' : World) (S : Nat → Prop) : Prop where
  os : w'.os = w.os
  tape : w'.tape = w.tape
  output : w'.output = w.output
  size : w.heap.size ≤ w'.heap.size
  block : ∀ k, k < w.heap.size → ¬ S k → w'.heap[k]? = w.heap[k]?

theorem Fr.refl (w : World) (S : Nat → Prop) : Fr w w S := ⟨rfl, rfl, rfl, Nat.le_refl _, fun _ _ _ => rfl⟩
theorem Fr.trans {a b c : World} {S : Nat → Prop} (h : Fr a b S) (k : Fr b c S) : Fr a c S :=
  ⟨k.os.trans h.os, k.tape.trans h.tape, k.output.trans h.output, Nat.le_trans h.size k.size, fun i hi hS => (k.block i (Nat.lt_of_lt_of_le hi h.size) hS).trans (h.block i hi hS)⟩
theorem Fr.below_ {a b c : World} {S : Nat → Prop} (h : Fr a b S) (k : Below b.heap.size b c) : Fr a c S :=
  ⟨k.os.trans h.os, k.tape.trans h.tape, k.output.trans h.output, Nat.le_trans h.size k.size, fun i hi hS => (k.block i (Nat.lt_of_lt_of_le hi h.size)).trans (h.block i hi hS)⟩
theorem Fr.of_below {a b : World} (S : Nat → Prop) (k : Below a.heap.size a b) : Fr a b S := ⟨k.os, k.tape, k.output, k.size, fun i hi _ => k.block i hi⟩
theorem Fr.mono {a b : World} {S T : Nat → Prop} (h : Fr a b S) (hst : ∀ k, k < a.heap.size → S k → T k) : Fr a b T :=
  ⟨h.os, h.tape, h.output, h.size, fun i hi hT => h.block i hi (fun hs => hT (hst i hi hs))⟩
theorem Fr.step {a b c : World} {S T : Nat → Prop} (h : Fr a b S) (k : Fr b c T) (hT : ∀ i, i < a.heap.size → T i → S i) : Fr a c S :=
  ⟨k.os.trans h.os, k.tape.trans h.tape, k.output.trans h.output, Nat.le_trans h.size k.size, fun i hi hS => (k.block i (Nat.lt_of_lt_of_le hi h.size) (fun ht => hS (hT i hi ht))).trans (h.block i hi hS)⟩
theorem Fr.drew {a w : World} {S : Nat → Prop} (h : Fr a w S) : Fr a w.drew S := ⟨h.os, h.tape, h.output, h.size, h.block⟩
theorem Fr.drewN {a w : World} {S : Nat → Prop} (h : Fr a w S) (n : Nat) : Fr a (w.drewN n) S := ⟨h.os, h.tape, h.output, h.size, h.block⟩
theorem Fr.alloc {a w : World} {S : Nat → Prop} (h : Fr a w S) (o : Obj) : Fr a (w.alloc o) S := h.below_ ((Below.refl _ _).alloc (Nat.le_refl _) o)
theorem Fr.setCell {a w : World} {S : Nat → Prop} (h : Fr a w S) {p : Addr} (hp : a.heap.size ≤ p.block ∨ S p.block) (u : Value) : Fr a (w.setCell p u) S :=
  ⟨h.os, h.tape, h.output, by simpa [World.setCell] using h.size, fun i hi hS => (Below.heap_setCell w p u i (by
    rintro rfl
    rcases hp with hp | hp
    · omega
    · exact hS hp)).trans (h.block i hi hS)⟩
theorem Fr.grown {a b c : World} {S : Nat → Prop} {row : Option Nat} (h : Fr a b S) (k : b.grownBy c row) (hr : ∀ g, row = some g → a.heap.size ≤ g ∨ S g) : Fr a c S :=
  ⟨k.os.trans h.os, k.tape.trans h.tape, k.output.trans h.output, Nat.le_trans h.size k.size, fun i hi hS => (k.block i (Nat.lt_of_lt_of_le hi h.size) (by
    intro e
    rcases hr i e.symm with h1 | h1
    · omega
    · exact hS h1)).trans (h.block i hi hS)⟩
theorem Fr.below {a b : World} {S : Nat → Prop} {B : Nat} (h : Fr a b S) (hB : B ≤ a.heap.size) (hS : ∀ k, k < B → ¬ S k) : Below B a b :=
  ⟨h.os, h.tape, h.output, h.size, fun i hi => h.block i (by omega) (hS i hi)⟩
theorem Fr.grownBy {a b : World} {S : Nat → Prop} {row : Option Nat} (h : Fr a b S) (hS : ∀ k, k < a.heap.size → S k → row = some k) : a.grownBy b row :=
  ⟨h.os, h.tape, h.output, h.size, fun i hi hne => h.block i hi (fun hs => hne (hS i hi hs).symm)⟩
/-- What a world reads where the old one was. -/
theorem fcell {W w1 : World} {S : Nat → Prop} (hg : Fr W w1 S) (H : Nat) (hH : H ≤ W.heap.size) :
    (∀ b o, b < H → ¬ S b → w1.cell? ⟨b, o, none⟩ = W.cell? ⟨b, o, none⟩) ∧ (∀ b o, b < H → ¬ S b → w1.frozen? ⟨b, o, none⟩ = W.frozen? ⟨b, o, none⟩) ∧ H ≤ w1.heap.size :=
  ⟨fun b o hb hr => World.cell?_of_block (w := W) (a := ⟨b, o, none⟩) (hg.block b (Nat.lt_of_lt_of_le hb hH) hr), fun b o hb hr => World.frozen?_of_block (w := W) (a := ⟨b, o, none⟩) (hg.block b (Nat.lt_of_lt_of_le hb hH) hr), Nat.le_trans hH hg.size⟩

section
variable {α : Type} {w : World} {f : α → List Value} {s : Nat}
theorem flat_set (hs : ∀ a, (f a).length = s) : ∀ (l : List α) (k : Nat) (t t' : α) (j : Nat) (u : Value), l[k]? = some t → j < s → f t' = (f t).set j u → (l.flatMap f).set (k * s + j) u = (l.set k t').flatMap f
  | [], k, t, t', j, u, h, _, _ => by simp at h
  | b :: l, 0, t, t', j, u, h, hj, hu => by
    simp at h
    subst h
    rw [List.set_cons_zero, List.flatMap_cons, List.flatMap_cons, hu, List.set_append, if_pos (by rw [hs]; omega)]
    simp
  | b :: l, k + 1, t, t', j, u, h, hj, hu => by
    have ih := flat_set hs l k t t' j u (by simpa using h) hj hu
    rw [List.set_cons_succ, List.flatMap_cons, List.flatMap_cons, List.set_append, if_neg (by rw [hs, Nat.add_mul]; omega), hs, ← ih]
    congr 2
    rw [Nat.add_mul]; omega

/-- One cell of element k is set. -/
theorem own_put (hs : ∀ a, (f a).length = s) {base g n cap k j : Nat} {e : TypeId} {l : List α} {t0 t1 : α} {u : Value} (h : w.ownsRow base e s (.slice (some ⟨g, 0, none⟩) n cap) n ((l.set k t0).flatMap f)) (hk : k < l.length) (hj : j < s) (hu : f t1 = (f t0).set j u) :
    (w.setCell ⟨g, k * s + j, none⟩ u).ownsRow base e s (.slice (some ⟨g, 0, none⟩) n cap) n ((l.set k t1).flatMap f) := by
  have := (h.stored (k * s + j) u).1
  rwa [flat_set hs (l.set k t0) k t0 t1 j u (by simp [hk]) hj hu, List.set_set] at this
theorem own_start {base g n cap k : Nat} {e : TypeId} {l : List α} {t0 : α} (h : w.ownsRow base e s (.slice (some ⟨g, 0, none⟩) n cap) n (l.flatMap f)) (hk : l[k]? = some t0) :
    w.ownsRow base e s (.slice (some ⟨g, 0, none⟩) n cap) n ((l.set k t0).flatMap f) := by
  have : l.set k t0 = l := by
    apply List.ext_getElem?
    intro i
    rw [List.getElem?_set]
    split
    · rename_i h; subst h; split
      · exact hk.symm
      · rename_i h2; rw [List.getElem?_eq_none (by omega)]
    · rfl
  rwa [this]
theorem own_drew {base : Nat} {e : TypeId} {v : Value} {n : Nat} {xs : List Value} (h : w.ownsRow base e s v n xs) : w.drew.ownsRow base e s v n xs := h
theorem own_cells (hs : ∀ a, (f a).length = s) {base g n cap k : Nat} {e : TypeId} {l : List α} {t : α} (h : w.ownsRow base e s (.slice (some ⟨g, 0, none⟩) n cap) n (l.flatMap f)) (hk : l[k]? = some t) :
    ∀ j u, (f t)[j]? = some u → w.cell? ⟨g, k * s + j, none⟩ = some u := by
  intro j u hu
  have := h.cells (g := g) rfl _ u (flat_get hs l k t j u hk hu)
  rw [Addr.add_lit] at this
  rw [← this]
  congr 2
  omega
theorem own_below {w' : World} {base : Nat} {e : TypeId} {v : Value} {n : Nat} {xs : List Value} (h : w.ownsRow base e s v n xs) (hb : Below w.heap.size w w') : w'.ownsRow base e s v n xs :=
  h.kept (grown_of_below hb none) (by cases hv : v.ownBlock <;> simp)
theorem own_base {base base' : Nat} {e : TypeId} {v : Value} {n : Nat} {xs : List Value} (h : w.ownsRow base e s v n xs) (hb : base' ≤ base) : w.ownsRow base' e s v n xs := by
  refine ⟨h.1, ?_⟩
  rcases h.2 with hn | ⟨g, cap, cur, rfl, hbb, rest⟩
  · exact .inl hn
  · exact .inr ⟨g, cap, cur, rfl, Nat.le_trans hb hbb, rest⟩
theorem own_fr {w' : World} {S : Nat → Prop} {base : Nat} {e : TypeId} {v : Value} {n : Nat} {xs : List Value} (h : w.ownsRow base e s v n xs) (hb : Fr w w' S) (hS : ∀ g, v.ownBlock = some g → ¬ S g) : w'.ownsRow base e s v n xs := by
  refine ⟨h.1, ?_⟩
  rcases h.2 with hn | ⟨g, cap, cur, rfl, hbb, hgg, rest⟩
  · exact .inl hn
  · refine .inr ⟨g, cap, cur, rfl, hbb, ?_, rest⟩
    rw [hb.block g (Array.getElem?_eq_some_iff.1 hgg).1 (hS g rfl)]
    exact hgg
end

end Go.Proofs.Ytnofljgmkdommaa

/- The ledger's functions as plain functions on plain data: no program here. -/
namespace Go.Proofs.Ytnofljgmkdommaa

structure Tk where
  pk : ByteArray
  ts : ByteArray
  env : Int
  cost : Int
  rev : Int
  st : Int
  att : Int
  run : Int
  ep : Int
  out : Int

/-- A report. -/
structure Rp where
  tick : Int
  att : Int
  run : Int
  ep : Int
  out : Int

structure Ld where
  tks : List Tk
  r0 : Int
  r1 : Int
  r2 : Int
  r3 : Int
  r4 : Int
  r5 : Int

def Ld.nil : Ld := ⟨[], 0, 0, 0, 0, 0, 0⟩

def usableB (p t : ByteArray) : Bool := decide (0 < p.size) && decide (p.size ≤ 24) && decide (0 < t.size) && decide (t.size ≤ 24)
def placeB (n : Int) : Bool := decide (0 ≤ n) && decide (n ≤ 63)
def costB (n : Int) : Bool := decide (1 ≤ n) && decide (n ≤ 1048576)
def taskOk (t : Tk) : Bool := usableB t.pk t.ts && placeB t.env && costB t.cost
def ranB (a r e : Int) : Bool := decide (1 ≤ a) && decide (a ≤ 4) && decide (0 ≤ r) && decide (r < 8) && decide (1 ≤ e) && decide (e ≤ 1073741824)
def restB (a r e : Int) : Bool := decide (0 ≤ a) && decide (a < 4) && r == 0 && e == 0
def repB (o : Int) : Bool := decide (1 ≤ o) && decide (o ≤ 3)
def revB (n : Int) : Bool := decide (1 ≤ n) && decide (n ≤ 1073741824)
def cntB (n : Int) : Bool := decide (0 ≤ n) && decide (n ≤ 1073741824)
def stateB (t : Tk) : Bool :=
  if t.st = 0 then restB t.att t.run t.ep && (t.out == 0)
  else if t.st = 1 then ranB t.att t.run t.ep && (t.out == 0)
  else if t.st = 2 then
    if t.out = 6 then ranB t.att t.run t.ep || restB t.att t.run t.ep
    else if t.out = 4 ∨ t.out = 5 then ranB t.att t.run t.ep && (t.att == 4)
    else ranB t.att t.run t.ep && repB t.out
  else false
def tkOk (t : Tk) : Bool := taskOk t && revB t.rev && stateB t
def accOf : List Tk → Nat
  | [] => 0
  | t :: l => accOf l + if repB t.out then 1 else 0
def Ld.repsOk (L : Ld) : Bool := (L.r0 == 0) && cntB L.r1 && cntB L.r2 && cntB L.r3 && cntB L.r4 && cntB L.r5
def Ld.ok (L : Ld) : Bool := decide (L.tks.length ≤ 128) && L.repsOk && L.tks.all tkOk && (L.r1 == accOf L.tks)

def Ld.get? (L : Ld) (k : Int) : Option Tk := if 0 ≤ k ∧ k < L.tks.length then L.tks[k.toNat]? else none
def Ld.put (L : Ld) (k : Int) (t : Tk) : Ld := { L with tks := L.tks.set k.toNat t }

def Ld.plan (L : Ld) (t : Tk) (rev : Int) : Ld × Int × Int :=
  if (L.ok && taskOk t) = false then (.nil, 0, 1)
  else if revB rev = false then (.nil, 0, 3)
  else if L.tks.length = 128 then (.nil, 0, 42)
  else ({ L with tks := L.tks ++ [{ t with rev := rev, st := 0, att := 0, run := 0, ep := 0, out := 0 }] }, L.tks.length, 0)

def Ld.begin (L : Ld) (k run ep : Int) : Ld × Int × Int :=
  if L.ok = false then (.nil, 0, 1) else
  match L.get? k with
  | none => (.nil, 0, 18)
  | some t =>
    if ranB 1 run ep = false then (.nil, 0, 3)
    else if t.st ≠ 0 then (.nil, 0, 45)
    else (L.put k { t with st := 1, att := t.att + 1, run := run, ep := ep }, t.att + 1, 0)

def reportOk (r : Rp) : Bool := decide (0 ≤ r.tick) && decide (r.tick < 128) && ranB r.att r.run r.ep && repB r.out
def sameB (t : Tk) (r : Rp) : Bool := (t.att == r.att) && (t.run == r.run) && (t.ep == r.ep)
def kindOf (t : Tk) (r : Rp) : Int :=
  if t.st = 1 ∧ sameB t r = true then 1 else if sameB t r = true ∧ t.out = r.out then 2 else if sameB t r = true ∧ repB t.out = true then 5 else 3
def Ld.kind (L : Ld) (r : Rp) : Int :=
  match L.get? r.tick with
  | none => 4
  | some t => kindOf t r
def Ld.rep (L : Ld) (k : Int) : Int := if k = 0 then L.r0 else if k = 1 then L.r1 else if k = 2 then L.r2 else if k = 3 then L.r3 else if k = 4 then L.r4 else L.r5
def Ld.count (L : Ld) (k : Int) : Ld :=
  if k = 1 then { L with r1 := L.r1 + 1 } else if k = 2 then { L with r2 := L.r2 + 1 } else if k = 3 then { L with r3 := L.r3 + 1 } else if k = 4 then { L with r4 := L.r4 + 1 } else { L with r5 := L.r5 + 1 }
def Ld.accept (L : Ld) (r : Rp) : Ld :=
  match L.get? r.tick with
  | none => L
  | some t => L.put r.tick { t with st := 2, out := r.out }
def Ld.take (L : Ld) (r : Rp) : Ld × Int × Int :=
  if (L.ok && reportOk r) = false then (.nil, 0, 1)
  else if L.rep (L.kind r) = 1073741824 then (.nil, 0, 2)
  else (if L.kind r = 1 then (L.count 1).accept r else L.count (L.kind r), L.kind r, 0)

def Tk.failed (t : Tk) (o : Int) : Tk := if t.att = 4 then { t with st := 2, out := o } else { t with st := 0, run := 0, ep := 0 }
def Ld.fail (L : Ld) (k o : Int) : Ld × Int :=
  if L.ok = false then (.nil, 1) else
  match L.get? k with
  | none => (.nil, 18)
  | some t => if o ≠ 4 ∧ o ≠ 5 then (.nil, 3) else if t.st ≠ 1 then (.nil, 45) else (L.put k (t.failed o), 0)

def isOn (run ep : Int) (t : Tk) : Bool := (t.st == 1) && (t.run == run) && (t.ep == ep)
def idxs (p : Tk → Bool) : List Tk → Nat → List Int
  | [], _ => []
  | t :: l, k => if p t then (k : Int) :: idxs p l (k + 1) else idxs p l (k + 1)
def loseTk (run ep : Int) (t : Tk) : Tk := if isOn run ep t then t.failed 5 else t
def Ld.lose (L : Ld) (run ep : Int) : Ld × List Int × Int :=
  if L.ok = false then (.nil, [], 1) else ({ L with tks := L.tks.map (loseTk run ep) }, idxs (isOn run ep) L.tks 0, 0)

def Ld.cancel (L : Ld) (k : Int) : Ld × Int :=
  if L.ok = false then (.nil, 1) else
  match L.get? k with
  | none => (.nil, 18)
  | some t => if t.st = 2 then (.nil, 45) else (L.put k { t with st := 2, out := 6 }, 0)

/-- Totals. -/
structure Tot where
  planned : Int
  waiting : Int
  running : Int
  o0 : Int
  o1 : Int
  o2 : Int
  o3 : Int
  o4 : Int
  o5 : Int
  o6 : Int
def countOf (p : Tk → Bool) : List Tk → Nat
  | [] => 0
  | t :: l => countOf p l + if p t then 1 else 0
def stIs (s : Int) (t : Tk) : Bool := (t.st == s)
def doneIs (o : Int) (t : Tk) : Bool := (t.st == 2) && (t.out == o)
def totOf (l : List Tk) : Tot := ⟨l.length, countOf (stIs 0) l, countOf (stIs 1) l, countOf (doneIs 0) l, countOf (doneIs 1) l, countOf (doneIs 2) l, countOf (doneIs 3) l, countOf (doneIs 4) l, countOf (doneIs 5) l, countOf (doneIs 6) l⟩
def notDone (t : Tk) : Bool := !stIs 2 t
def Ld.open_ (L : Ld) : List Int := if L.ok then idxs notDone L.tks 0 else []

end Go.Proofs.Ytnofljgmkdommaa

/- Contracts of the leaves that many seats reach (turned from Wa). -/
namespace Go.Proofs.Ytnofljgmkdommaa
open Go.RowKit

def foldV (v n : Int) : Int := if n ≤ 1 then 0 else v % n
theorem foldV_tmod (v n : Int) (h : 1 < n) : foldV v n = if v.tmod n < 0 then v.tmod n + n else v.tmod n := by
  unfold foldV
  rw [if_neg (by omega)]
  have h1 := Int.tmod_eq_emod (a := v) (b := n)
  have h2 := Int.emod_nonneg v (show n ≠ 0 by omega)
  have h3 := Int.emod_lt_of_pos v (show 0 < n by omega)
  rw [h1]
  split <;> split <;> omega
theorem tmod_lo (v n : Int) (h : 1 < n) : -n < v.tmod n ∧ v.tmod n < n := by
  have h1 := Int.tmod_eq_emod (a := v) (b := n)
  have h2 := Int.emod_nonneg v (show n ≠ 0 by omega)
  have h3 := Int.emod_lt_of_pos v (show 0 < n by omega)
  rw [h1]
  split <;> omega
theorem foldV_lo (v n : Int) : 0 ≤ foldV v n ∧ (foldV v n < n ∨ foldV v n = 0) := by
  unfold foldV
  split
  · omega
  · exact ⟨Int.emod_nonneg v (by omega), .inl (Int.emod_lt_of_pos v (by omega))⟩

set_option maxHeartbeats 400000 in
theorem fold_any (v n : Int) (w : World) (hn : n ≤ 4294967296) :
    Calls Try.prog 15 #[.int .i64 v, .int .i64 n] w fun e w' => e = .returned (.int .i64 (foldV v n)) ∧ w = w' := by
  by_cases h1 : n ≤ 1
  · go_enter Try.func15, Try.ntmps15
    go_wp2
    go_ret; exact ⟨ret_int (by unfold foldV; rw [if_pos h1]), rfl⟩
  · have ht := hide (foldV_tmod v n (by omega))
    have hb := (tmod_lo v n (by omega)).1
    have hc := (tmod_lo v n (by omega)).2
    go_enter Try.func15, Try.ntmps15
    go_wp2
    all_goals (go_ret; exact ⟨ret_int (by rw [ht.out]; first | rw [if_pos ‹_›] | rw [if_neg (by omega)]), rfl⟩)

end Go.Proofs.Ytnofljgmkdommaa

/- Contracts of the leaves that many seats reach (turned from Wa). -/
namespace Go.Proofs.Ytnofljgmkdommaa
open Go.RowKit


set_option maxHeartbeats 400000 in
theorem place_any (n : Int) (w : World) :
    Calls Try.prog 55 #[.int .i64 n] w fun e w' => e = .returned (.bool (placeB n)) ∧ w = w' := by
  go_enter Try.func55, Try.ntmps55
  go_wp2
  all_goals (go_ret; exact ⟨ret_bool (by rw [Bool.eq_iff_iff]; simp [placeB]; omega), rfl⟩)

theorem bl (p : ByteArray) : p.toList = [] ↔ p.size = 0 := by
  rw [ByteArray.toList_eq, ← List.length_eq_zero_iff]; rfl
theorem bls (p : ByteArray) : p.toList.isEmpty = decide (p.size = 0) := by
  rw [Bool.eq_iff_iff, List.isEmpty_iff, bl, decide_eq_true_eq]

set_option maxHeartbeats 400000 in
theorem usable_any (p t : ByteArray) (w : World) :
    Calls Try.prog 49 #[.agg #[.string p, .string t]] w fun e w' => e = .returned (.bool (usableB p t)) ∧ Below w.heap.size w w' := by
  go_enter Try.func49, Try.ntmps49
  go_wp2
  all_goals (go_ret; refine ⟨ret_bool ?_, (Below.refl _ _).alloc (Nat.le_refl _) _⟩)
  all_goals (simp only [bl] at *; rw [Bool.eq_iff_iff]; simp only [usableB, bls, Bool.and_eq_true, decide_eq_true_eq, Bool.not_eq_true', decide_eq_false_iff_not, Bool.false_eq_true, false_iff]; omega)

set_option maxHeartbeats 400000 in
theorem usabler_any (p t : ByteArray) (w : World) :
    Calls Try.prog 54 #[.agg #[.string p, .string t]] w fun e w' => e = .returned (.bool (usableB p t)) ∧ Below w.heap.size w w' := by
  go_enter Try.func54, Try.ntmps54
  go_wp2
  all_goals (go_ret; refine ⟨ret_bool ?_, (Below.refl _ _).alloc (Nat.le_refl _) _⟩)
  all_goals (rw [Bool.eq_iff_iff]; simp [usableB]; omega)

end Go.Proofs.Ytnofljgmkdommaa

/- Contracts: a new history (turned from Wb). -/
namespace Go.Proofs.Ytnofljgmkdommaa
open Go.RowKit


set_option maxHeartbeats 800000 in
theorem hnew_ok (p t : ByteArray) (x : Int) (w : World) (h1 : usableB p t = true) (h2 : placeB x = true) :
    Calls Try.prog 28 #[.agg #[.string p, .string t], .int .i64 x, .int .i64 2] w fun e w' =>
      e = .returned (.tuple #[.agg #[.string p, .string t, .int .i64 x, .int .i64 2, .int .i64 0, .int .i64 0, .int .i64 0, .slice none 0 0], .int .i64 0]) ∧ Below w.heap.size w w' := by
  have hx : 0 ≤ x ∧ x ≤ 63 := by simpa [placeB] using h2
  obtain ⟨hx1, hx2⟩ := hx
  go_enter Try.func28, Try.ntmps28
  go_wp2_with (go_at_call 49; refine (usable_any p t _).mono ?_; rintro e w1 ⟨rfl, hb1⟩; obtain ⟨hc1, hf1, hz1⟩ := gcell (grown_of_below hb1 none) (w.heap.size + 2) (by first | (simp; done) | (simp; omega)); have : w.heap.size < w1.heap.size := (by omega); have : w.heap.size + 1 < w1.heap.size := (by omega))
  refine bodyPost_ret (v := .tuple #[.agg #[.string p, .string t, .int .i64 x, .int .i64 2, .int .i64 0, .int .i64 0, .int .i64 0, .slice none 0 0], .int .i64 0]) (by simp [results, Try.results28, go_sem, hc1]) rfl ⟨rfl, ?_⟩
  (repeat' refine Below.setCell ?_ (by simp) _)
  exact (((Below.refl _ _).alloc (Nat.le_refl _) _).alloc (by simp) _).trans (hb1.mono (by simp; omega))

set_option maxHeartbeats 800000 in
theorem hnew_no (p t : ByteArray) (x : Int) (w : World) (h1 : (usableB p t && placeB x) = false) :
    Calls Try.prog 28 #[.agg #[.string p, .string t], .int .i64 x, .int .i64 2] w fun e w' =>
      ∃ er, e = .returned (.tuple #[.agg #[.string ⟨#[]⟩, .string ⟨#[]⟩, .int .i64 0, .int .i64 0, .int .i64 0, .int .i64 0, .int .i64 0, .slice none 0 0], .int .i64 er]) ∧ (er != 0) = true ∧ Below w.heap.size w w' := by
  cases h2 : usableB p t
  · clear h1
    go_enter Try.func28, Try.ntmps28
    go_wp2_with (go_at_call 49; refine (usable_any p t _).mono ?_; rintro e w1 ⟨rfl, hb1⟩; obtain ⟨hc1, hf1, hz1⟩ := gcell (grown_of_below hb1 none) (w.heap.size + 2) (by first | (simp; done) | (simp; omega)); have : w.heap.size < w1.heap.size := (by omega); have : w.heap.size + 1 < w1.heap.size := (by omega))
    refine bodyPost_ret (v := .tuple #[.agg #[.string ⟨#[]⟩, .string ⟨#[]⟩, .int .i64 0, .int .i64 0, .int .i64 0, .int .i64 0, .int .i64 0, .slice none 0 0], .int .i64 1]) (by simp [results, Try.results28, go_sem, hc1]) rfl ⟨_, rfl, by decide, ?_⟩
    (repeat' refine Below.setCell ?_ (by simp) _)
    exact (((Below.refl _ _).alloc (Nat.le_refl _) _).alloc (by simp) _).trans (hb1.mono (by simp; omega))
  · have hx : x < 0 ∨ 63 < x := by
      rw [h2, Bool.true_and] at h1
      simp [placeB] at h1
      omega
    have HX := hide hx
    clear h1 hx
    go_enter Try.func28, Try.ntmps28
    go_wp2_with (go_at_call 49; refine (usable_any p t _).mono ?_; rintro e w1 ⟨rfl, hb1⟩; obtain ⟨hc1, hf1, hz1⟩ := gcell (grown_of_below hb1 none) (w.heap.size + 2) (by first | (simp; done) | (simp; omega)); have : w.heap.size < w1.heap.size := (by omega); have : w.heap.size + 1 < w1.heap.size := (by omega))
    all_goals first
      | (exfalso; have := HX.out; omega)
      | (refine bodyPost_ret (v := .tuple #[.agg #[.string ⟨#[]⟩, .string ⟨#[]⟩, .int .i64 0, .int .i64 0, .int .i64 0, .int .i64 0, .int .i64 0, .slice none 0 0], .int .i64 3]) (by simp [results, Try.results28, go_sem, hc1]) rfl ⟨_, rfl, by decide, ?_⟩
         (repeat' refine Below.setCell ?_ (by simp) _)
         exact (((Below.refl _ _).alloc (Nat.le_refl _) _).alloc (by simp) _).trans (hb1.mono (by simp; omega)))

end Go.Proofs.Ytnofljgmkdommaa

/- append onto a row of the call's own, the source any slice that reads as a list. -/
namespace Go.Proofs.Ytnofljgmkdommaa
open Go.RowKit

section
variable {P : Program} (w : World) {α : Type} {f : α → List Value} {av : Option Nat}

theorem run_append_rs (base : Nat) (t ty e : TypeId) (z : Value) (size bytes : Nat) (ht : P.underlying t = some (.slice e)) (h2 : (P.info? e).map (fun i => (i.zero, i.size, i.bytes)) = some (some z, size, bytes))
    (hzs : z.cells.size = size) (hsz : 0 < size) (v : Value) (n : Nat) (l0 : List α) (hown : w.ownsRow base e size v n (l0.flatMap f))
    (A : Option Addr) (m c : Nat) (l : List α) (hR : Rs w av size f A l) (hl : l.length = m) (hf : ∀ a, (f a).length = size) (h1 : ∀ a, ∀ u ∈ f a, u.oneCell' = true)
    (h63 : n + m ≤ 4294967296) (hby : bytes ≤ 4096) (hbase : base ≤ w.heap.size) :
    ∃ A' c' w', (Builtin.append_ #[t, t] ty #[v, .slice A m c]).run P w = .ok (.slice A' (n + m) c') w' ∧ w'.ownsRow base e size (.slice A' (n + m) c') (n + m) ((l0 ++ l).flatMap f) ∧ w.grownBy w' v.ownBlock ∧
      (∀ g, (Value.slice A' (n + m) c').ownBlock = some g → v.ownBlock = some g ∨ g = w.heap.size) := by
  obtain ⟨i, hi, hz, hsize, hbyt⟩ := info_parts h2
  have hform : ∃ A0 c0, v = .slice A0 n c0 := by
    rcases hown.2 with ⟨rfl, rfl⟩ | ⟨g, cap, cur, rfl, _⟩
    · exact ⟨_, _, rfl⟩
    · exact ⟨_, _, rfl⟩
  by_cases hm : m = 0
  · subst hm
    have hn : l = [] := List.eq_nil_of_length_eq_zero hl
    subst hn
    obtain ⟨A0, c0, rfl⟩ := hform
    refine ⟨A0, c0, w, ?_, by simpa using hown, ⟨rfl, rfl, rfl, Nat.le_refl _, fun _ _ _ => rfl⟩, fun g hg => .inl hg⟩
    rcases hown.2 with ⟨h, rfl⟩ | ⟨g, cap, cur, h, _, _, hnc, _⟩
    · injection h with h3 h4 h5
      subst h3; subst h5
      cases A <;> simp [Builtin.append_, run_underlying ht, sizeOf, typeInfo, hi, Builtin.lenOf, Builtin.firstCells, loadCells, loadCellsFrom]
    · injection h with h3 h4 h5
      subst h3; subst h5
      cases A <;> simp [Builtin.append_, run_underlying ht, sizeOf, typeInfo, hi, Builtin.lenOf, Builtin.firstCells, hnc, storeCells, loadCells, loadCellsFrom]
  · obtain ⟨b, o, rfl, hne, hb, hc⟩ := hR.flat hf (by rintro rfl; simp at hl; omega)
    have hbb : (n + m) * bytes ≤ 140737488355328 := by
      have : (n + m) * bytes ≤ 4294967296 * 4096 := Nat.mul_le_mul h63 hby
      omega
    obtain ⟨v', w', hr, h3, h4, _, h5⟩ := run_append_own_at (P := P) w base t ty e i z size bytes ht hi hz hsize hbyt hzs hsz v n _ hown ⟨b, o, none⟩ m c (l.flatMap f) (by rw [flat_len hf, hl]) hc (by
      intro u hu
      obtain ⟨x, _, hx⟩ := List.mem_flatMap.1 hu
      exact h1 x u hx) (by simp only [maxLen]; omega) hbb hbase
    obtain ⟨g, cap, rfl, _, _⟩ := h3.form (by omega)
    refine ⟨_, _, w', hr, by simpa using h3, h4, fun g' hg' => ?_⟩
    rcases h5 with h5 | h5
    · exact .inl (by rw [← h5]; exact hg')
    · right
      rw [hg'] at h5
      injection h5

theorem wl_append {ops : Array Oper} {rest : List Oper} {o : Oper} {a : Act} {Q : Exit → Act → World → Prop} (hgd : o.guard = none) (s x : Operand) (t : TypeId)
    (ho : o.op = .call { callee := .builtin .append, args := #[s, x], argTypes := #[t, t] })
    (base : Nat) (e : TypeId) (z : Value) (size bytes : Nat) (ht : P.underlying t = some (.slice e)) (h2 : (P.info? e).map (fun i => (i.zero, i.size, i.bytes)) = some (some z, size, bytes))
    (hzs : z.cells.size = size) (hsz : 0 < size) (v : Value) (n : Nat) (l0 : List α) (hs : a.eval s = v) (hown : w.ownsRow base e size v n (l0.flatMap f))
    (A : Option Addr) (m c : Nat) (l : List α) (hx : a.eval x = .slice A m c) (hR : Rs w av size f A l) (hl : l.length = m) (hf : ∀ a, (f a).length = size) (h1 : ∀ a, ∀ u ∈ f a, u.oneCell' = true)
    (h63 : n + m ≤ 4294967296) (hby : bytes ≤ 4096) (hbase : base ≤ w.heap.size)
    (h : ∀ A' c' w', w'.ownsRow base e size (.slice A' (n + m) c') (n + m) ((l0 ++ l).flatMap f) → w.grownBy w' v.ownBlock →
      (∀ g, (Value.slice A' (n + m) c').ownBlock = some g → v.ownBlock = some g ∨ g = w.heap.size) → wpList P ops Q rest (a.put o.dst (.slice A' (n + m) c')) w') : wpList P ops Q (o :: rest) a w := by
  obtain ⟨A', c', w', hr, h3, h4, h5⟩ := run_append_rs (P := P) w base t o.type e z size bytes ht h2 hzs hsz v n l0 hown A m c l hR hl hf h1 h63 hby hbase
  refine wpList_plain hgd fun K hK' => ?_
  unfold Oper.wp
  simp only [execOp, ho, resolve, invoke, builtin, hs, hx, hr, Result.andThen, Sem.run_bind, Sem.run_pure, List.map_toArray, List.map_cons, List.map_nil, Oper.upon]
  exact hK' _ _ (h A' c' w' h3 h4 h5)

theorem step_append {ops : Array Oper} {o : Oper} {a : Act} {K : Act → World → Prop} {Q : Exit → Act → World → Prop} {E : Prop} (hgd : o.guard = none) (s x : Operand) (t : TypeId)
    (ho : o.op = .call { callee := .builtin .append, args := #[s, x], argTypes := #[t, t] })
    (base : Nat) (e : TypeId) (z : Value) (size bytes : Nat) (ht : P.underlying t = some (.slice e)) (h2 : (P.info? e).map (fun i => (i.zero, i.size, i.bytes)) = some (some z, size, bytes))
    (hzs : z.cells.size = size) (hsz : 0 < size) (v : Value) (n : Nat) (l0 : List α) (hs : a.eval s = v) (hown : w.ownsRow base e size v n (l0.flatMap f))
    (A : Option Addr) (m c : Nat) (l : List α) (hx : a.eval x = .slice A m c) (hR : Rs w av size f A l) (hl : l.length = m) (hf : ∀ a, (f a).length = size) (h1 : ∀ a, ∀ u ∈ f a, u.oneCell' = true)
    (h63 : n + m ≤ 4294967296) (hby : bytes ≤ 4096) (hbase : base ≤ w.heap.size)
    (h : ∀ A' c' w', w'.ownsRow base e size (.slice A' (n + m) c') (n + m) ((l0 ++ l).flatMap f) → w.grownBy w' v.ownBlock →
      (∀ g, (Value.slice A' (n + m) c').ownBlock = some g → v.ownBlock = some g ∨ g = w.heap.size) → K (a.put o.dst (.slice A' (n + m) c')) w') :
    if Region.wanted o (yielded ops a.tmps) = true then Oper.wp P o a w K Q else E := by
  obtain ⟨A', c', w', hr, h3, h4, h5⟩ := run_append_rs (P := P) w base t o.type e z size bytes ht h2 hzs hsz v n l0 hown A m c l hR hl hf h1 h63 hby hbase
  have hw : Region.wanted o (yielded ops a.tmps) = true := by simp [Region.wanted, hgd]
  rw [if_pos hw]
  unfold Oper.wp
  simp only [execOp, ho, resolve, invoke, builtin, hs, hx, hr, Result.andThen, Sem.run_bind, Sem.run_pure, List.map_toArray, List.map_cons, List.map_nil, Oper.upon]
  exact h A' c' w' h3 h4 h5
end

/-- One element that lies in a block of its own. -/
theorem rs_one {w : World} {av : Option Nat} {α : Type} {f : α → List Value} {s b : Nat} {x : α} (hb : some b ≠ av) (hlt : b < w.heap.size) (h : ∀ j u, (f x)[j]? = some u → w.cell? ⟨b, j, none⟩ = some u) : Rs w av s f (some ⟨b, 0, none⟩) [x] := by
  intro _
  refine ⟨b, 0, rfl, hb, hlt, fun k a hk j u hu => ?_⟩
  cases k with
  | zero => simp at hk; subst hk; simpa using h j u hu
  | succ k => simp at hk

end Go.Proofs.Ytnofljgmkdommaa

/- More small words over the model's memory. -/
namespace Go.Proofs.Ytnofljgmkdommaa
open Go.RowKit

/-- What reads as before where only a row at H or beyond has been written. -/
theorem gcell_up {W w1 : World} {row : Option Nat} (hg : W.grownBy w1 row) (H : Nat) (hH : H ≤ W.heap.size) (hr : ∀ g, row = some g → H ≤ g) :
    (∀ b o, b < H → w1.cell? ⟨b, o, none⟩ = W.cell? ⟨b, o, none⟩) ∧ (∀ b o, b < H → w1.frozen? ⟨b, o, none⟩ = W.frozen? ⟨b, o, none⟩) ∧ H ≤ w1.heap.size := by
  obtain ⟨h1, h2, h3⟩ := gcell hg H hH
  have hne : ∀ b, b < H → some b ≠ row := fun b hb e => by have := hr b e.symm; omega
  exact ⟨fun b o hb => h1 b o hb (hne b hb), fun b o hb => h2 b o hb (hne b hb), h3⟩

/-- A store makes no cell and takes none away. -/
@[go_sem] theorem isSome_setCell (w : World) (p q : Addr) (v : Value) : ((w.setCell p v).cell? q).isSome = (w.cell? q).isSome := by
  by_cases h : p = q
  · subst h
    cases hc : w.cell? p with
    | some u => rw [World.cell?_setCell_same w p v hc]; rfl
    | none =>
      simp only [World.setCell, World.cell?, Array.getElem?_modify, ↓reduceIte] at hc ⊢
      cases hb : w.heap[p.block]? with
      | none => rfl
      | some x =>
        rw [hb] at hc
        cases x with
        | cells c e f =>
          simp only [Option.map_some] at hc ⊢
          cases hs : p.spot.isSome
          · simp only [hs, Bool.false_eq_true, if_false] at hc ⊢
            rw [Array.getElem?_setIfInBounds]
            simp only [↓reduceIte]
            rcases Nat.lt_or_ge p.off c.size with h1 | h1
            · rw [Array.getElem?_eq_getElem h1] at hc; cases hc
            · rw [if_neg (by omega)]
          · simp
        | _ => rfl
  · rw [World.cell?_setCell_other _ _ _ _ h]

end Go.Proofs.Ytnofljgmkdommaa
