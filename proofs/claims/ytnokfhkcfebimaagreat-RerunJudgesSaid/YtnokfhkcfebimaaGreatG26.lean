/- Contracts of the functions that these laws reach: part 26: Rows of fractions that a call owns; append onto them; Contracts: fraction.fold with Add, Sum; A block that holds a row of fractions: made, copied, changed in one place. -/
import Derived.Test.YtnokfhkcfebimaaGreatG19
import Derived.Test.YtnokfhkcfebimaaGreatG1
import Derived.Test.YtnokfhkcfebimaaGreatG25
set_option linter.unusedVariables false
set_option linter.unusedSimpArgs false

/- Rows of fractions that a call owns; append onto them. -/
namespace Go.Proofs.YtnokfhkcfebimaaGreat
open Go.RowKit

section
variable {P : Program}
/-- Each cell of a block is such a one. -/
def CellsP (w : World) (g : Nat) (Pr : Value → Prop) : Prop := ∀ j u, w.cell? ⟨g, j, none⟩ = some u → Pr u
theorem zero_mem {cs : Array Value} {n j : Nat} {u : Value} (h : (Builtin.zeroCells cs n)[j]? = some u) : u ∈ cs.toList := by
  unfold Builtin.zeroCells at h
  rw [Array.getElem?_map] at h
  obtain ⟨i, hi, rfl⟩ := Option.map_eq_some_iff.1 h
  have hlt : i < n * cs.size := by
    have := Array.mem_of_getElem? hi
    simpa using this
  have hp : 0 < cs.size := by
    rcases Nat.eq_zero_or_pos cs.size with h0 | h0
    · rw [h0, Nat.mul_zero] at hlt; omega
    · exact h0
  have hm := Nat.mod_lt i hp
  rw [getElem!_pos cs (i % cs.size) hm]
  simp
theorem cell_of_heap {w : World} {g j : Nat} {cs : Array Value} {e : TypeId} {f : Nat × Nat} (h : w.heap[g]? = some (.cells cs e f)) : w.cell? ⟨g, j, none⟩ = cs[j]? := by
  simp [World.cell?, h]
theorem run_append_p (w : World) (base : Nat) (t ty e : TypeId) (i : TypeInfo) (z : Value) (size bytes : Nat) (ht : P.underlying t = some (.slice e)) (hi : P.info? e = some i) (hz : i.zero = some z)
    (hsize : i.size = size) (hby : i.bytes = bytes) (hzs : z.cells.size = size) (hsz : 0 < size)
    (v : Value) (n : Nat) (xs : List Value) (hown : w.ownsRow base e size v n xs)
    (a : Addr) (m c : Nat) (news : List Value) (hl : news.length = m * size) (hnews : ∀ j u, news[j]? = some u → w.cell? (a.add j) = some u) (h1 : ∀ u ∈ news, u.oneCell' = true)
    (h63 : n + m ≤ maxLen) (hbytes : (n + m) * bytes ≤ 140737488355328) (hbase : base ≤ w.heap.size) (Pr : Value → Prop) (hzP : ∀ u ∈ z.cells.toList, Pr u) (hnP : ∀ u ∈ news, Pr u) (hP : ∀ g, v.ownBlock = some g → CellsP w g Pr) (hm : 0 < m) :
    ∃ v' w', (Builtin.append_ #[t, t] ty #[v, .slice (some a) m c]).run P w = .ok v' w' ∧ w'.ownsRow base e size v' (n + m) (xs ++ news) ∧ w.grownBy w' v.ownBlock ∧ (∀ g, v'.ownBlock = some g → CellsP w' g Pr) ∧ (∃ g cap, v' = .slice (some ⟨g, 0, none⟩) (n + m) cap ∧ base ≤ g) := by
  subst hsize
  subst hby
  have hsmall : n + m ≤ 9223372036854775807 := by simp only [maxLen] at h63; omega
  have hlen : (xs ++ news).length = (n + m) * i.size := by rw [List.length_append, hown.1, hl, Nat.add_mul]
  have grown : ∀ (old : Nat), old < n + m → (∀ u ∈ xs, Pr u) → ∀ (row : Option Nat),
      (w.drew.alloc (.cells (xs.toArray ++ news.toArray ++ Builtin.zeroCells z.cells (grownCap w (n + m) old e - (n + m))) e)).ownsRow base e i.size
        (.slice (some ⟨w.heap.size, 0, none⟩) (n + m) (grownCap w (n + m) old e)) (n + m) (xs ++ news) ∧
      w.grownBy (w.drew.alloc (.cells (xs.toArray ++ news.toArray ++ Builtin.zeroCells z.cells (grownCap w (n + m) old e - (n + m))) e)) row ∧
      CellsP (w.drew.alloc (.cells (xs.toArray ++ news.toArray ++ Builtin.zeroCells z.cells (grownCap w (n + m) old e - (n + m))) e)) w.heap.size Pr := by
    intro old ho hxs row
    have hge := grownCap_ge w (n + m) old e
    have hcm : grownCap w (n + m) old e ≤ maxLen := grownCap_le_maxLen w (n + m) old e h63
    refine ⟨⟨hlen, .inr ⟨w.heap.size, _, _, rfl, hbase, heap_alloc_new w.drew _, hge, hcm, ?_, ?_⟩⟩, ⟨rfl, rfl, rfl, by simp, fun k hk _ => by first | exact heap_alloc_old w.drew _ k hk | exact heap_alloc_old w.drew _ hk⟩, fun j u hu => ?_⟩
    · simp only [Array.size_append, List.size_toArray, size_zeroCells, hzs, hown.1, hl, ← Nat.add_mul]
      congr 1
      omega
    · simp only [Array.toList_append, List.append_assoc]
      rw [← List.append_assoc, ← hlen]
      exact List.take_left
    · have hh := cell_of_heap (w := w.drew.alloc _) (j := j) (heap_alloc_new w.drew (.cells (xs.toArray ++ news.toArray ++ Builtin.zeroCells z.cells (grownCap w (n + m) old e - (n + m))) e))
      rw [show w.drew.heap.size = w.heap.size from rfl] at hh
      rw [hh] at hu
      rw [Array.getElem?_append] at hu
      split at hu
      · rw [Array.getElem?_append] at hu
        split at hu
        · exact hxs u (by have := Array.mem_of_getElem? hu; simpa using this)
        · exact hnP u (by have := Array.mem_of_getElem? hu; simpa using this)
      · exact hzP u (zero_mem hu)
  rcases hown.2 with ⟨rfl, rfl⟩ | ⟨g, cap, cur, rfl, hbg, hg, hnc, hcm, hcs, htake⟩
  · have hx : xs = [] := List.eq_nil_of_length_eq_zero (by simpa using hown.1)
    subst hx
    have hr := run_append_nil (P := P) w t ty e i z ht hi hz a m c news hl hnews (by omega) (by omega) (by have hb := hbytes; simp only [Nat.zero_add] at hb; omega)
    have hgr := grown 0 (by omega) (by simp) (Value.ownBlock (.slice none 0 0))
    simp only [Nat.zero_add, List.nil_append, Array.empty_append] at hgr ⊢
    exact ⟨_, _, hr, hgr.1, hgr.2.1, fun g hg => by simp [Value.ownBlock] at hg; subst hg; exact hgr.2.2, ⟨_, _, rfl, hbase⟩⟩
  · have hcur : CellsP w g Pr := hP g rfl
    have hcurP : ∀ u ∈ cur.toList, Pr u := fun u hu => by
      obtain ⟨j, hj⟩ := List.mem_iff_getElem?.1 hu
      exact hcur j u (by rw [cell_of_heap hg]; simpa using hj)
    by_cases hroom : n + m ≤ cap
    · have hfit : n * i.size + news.length ≤ cur.size := by rw [hl, hcs, ← Nat.add_mul]; exact Nat.mul_le_mul_right _ hroom
      have hr := run_append_room (P := P) w t ty e i ht hi g n cap cur hg a m c news hl hnews h1 hroom hfit
      refine ⟨_, _, hr, ⟨hlen, .inr ⟨g, cap, _, rfl, hbg, setRow_heap w g cur _ e _ hg, hroom, hcm, ?_, ?_⟩⟩, ⟨rfl, rfl, rfl, by simp, fun k _ hk => setRow_other w g k _ (fun e => hk (by simp [Value.ownBlock, e]))⟩, fun g' hg' j u hu => ?_, ⟨_, _, rfl, hbg⟩⟩
      · simp only [List.size_toArray, List.length_append, List.length_take, List.length_drop, Array.length_toList]
        omega
      · rw [htake, ← hlen]
        exact List.take_left
      · simp [Value.ownBlock] at hg'
        subst hg'
        rw [cell_of_heap (setRow_heap w g cur _ e _ hg)] at hu
        have hmem : u ∈ (cur.toList.take (n * i.size) ++ news ++ cur.toList.drop (n * i.size + news.length)) := by
          have := Array.mem_of_getElem? hu
          simpa using this
        rcases List.mem_append.1 hmem with hmem | hmem
        · rcases List.mem_append.1 hmem with hmem | hmem
          · exact hcurP u (List.mem_of_mem_take hmem)
          · exact hnP u hmem
        · exact hcurP u (List.mem_of_mem_drop hmem)
    · have holds : ∀ j u, xs[j]? = some u → w.cell? ((⟨g, 0, none⟩ : Addr).add j) = some u := hown.cells (g := g) rfl
      have hr := run_append_grow (P := P) w t ty e i z ht hi hz ⟨g, 0, none⟩ n cap xs hown.1 holds a m c news hl hnews (by omega) (by omega) (growslice_fits (by omega) hbytes)
      have hgr := grown cap (by omega) (fun u hu => hcurP u (by rw [← htake] at hu; exact List.mem_of_mem_take hu)) (Value.ownBlock (.slice (some ⟨g, 0, none⟩) n cap))
      exact ⟨_, _, hr, hgr.1, hgr.2.1, fun g' hg' => by simp [Value.ownBlock] at hg'; subst hg'; exact hgr.2.2, ⟨_, _, rfl, hbase⟩⟩
end
theorem info26 : (Tryz.prog.info? 26).map (fun i => (i.zero, i.size, i.bytes)) = some (some (.agg #[.slice none 0 0, .slice none 0 0]), 2, 48) := by kernel_rfl
def fvv (c : Fa) : List Value := [.slice c.A c.n c.c, .slice c.B c.m c.d]
theorem fvv_len (c : Fa) : (fvv c).length = 2 := rfl
theorem fvv_one (c : Fa) : ∀ u ∈ fvv c, u.oneCell' = true := by
  intro u hu
  simp [fvv] at hu
  rcases hu with rfl | rfl <;> rfl
theorem fvv_nb (c : Fa) : ∀ u ∈ fvv c, ∀ x, u ≠ .int .u32 x := by
  intro u hu x
  simp [fvv] at hu
  rcases hu with rfl | rfl <;> simp
/-- A slice of fractions of a call's own. -/
structure OFr (w0 w : World) (A : Option Addr) (m c : Nat) (fs : List Fa) (os : List Rat) : Prop where
  own : w.ownsRow w0.heap.size 26 2 (.slice A m c) m (fs.flatMap fvv)
  nb : ∀ g, (Value.slice A m c).ownBlock = some g → NB w g
  len : fs.length = m
  lo : os.length = m
  el : ∀ (i : Nat) (x : Fa) (r : Rat), fs[i]? = some x → os[i]? = some r → Fo w x (some r)
  fr : Fr w0 w (fun _ => False)
section
variable {w0 w w' : World} {A : Option Addr} {m c : Nat} {fs : List Fa} {os : List Rat}
theorem OFr.nil (hf : Fr w0 w (fun _ => False)) : OFr w0 w none 0 0 [] [] := ⟨World.ownsRow_nil _ _ _ _, by simp [Value.ownBlock], rfl, rfl, by simp, hf⟩
theorem OFr.gsz (h : OFr w0 w A m c fs os) {g : Nat} (hg : (Value.slice A m c).ownBlock = some g) : g < w.heap.size := by
  rcases h.own.2 with ⟨h1, _⟩ | ⟨g', cap, cur, hv, _, hh, _⟩
  · rw [h1] at hg; simp [Value.ownBlock] at hg
  · rw [hv] at hg
    simp [Value.ownBlock] at hg
    subst hg
    exact (Array.getElem?_eq_some_iff.1 hh).1
theorem OFr.below (h : OFr w0 w A m c fs os) (hb : Below w.heap.size w w') : OFr w0 w' A m c fs os :=
  ⟨h.own.kept (grown_of_below hb none) (Classical.em _), fun g hg => (h.nb g hg).below (h.gsz hg) hb, h.len, h.lo, fun i x r hx hr => (h.el i x r hx hr).below hb, h.fr.below_ hb⟩
theorem OFr.alloc (h : OFr w0 w A m c fs os) (o : Obj) : OFr w0 (w.alloc o) A m c fs os := h.below ((Below.refl _ _).alloc (Nat.le_refl _) _)
end
theorem OFr.far {w0 w w' : World} {A : Option Addr} {m c : Nat} {fs : List Fa} {os : List Rat} (h : OFr w0 w A m c fs os) {g B : Nat} (hf : Fr w w' (fun b => b = g)) (hg : NB w g) (hB : B ≤ g) (hr : ∀ b, (Value.slice A m c).ownBlock = some b → b < B) (hw : w0.heap.size ≤ B) : OFr w0 w' A m c fs os :=
  ⟨h.own.kept (row := some g) ⟨hf.os, hf.tape, hf.output, hf.size, fun k hk hne => hf.block k hk (fun e => hne (by rw [e]))⟩ (by
      cases hob : (Value.slice A m c).ownBlock with
      | none => exact .inl rfl
      | some b => right; intro e; injection e with e; have := hr b hob; omega),
    fun b hb => (h.nb b hb).one hf (h.gsz hb) (by have := hr b hb; omega), h.len, h.lo, fun i x r hx hr' => (h.el i x r hx hr').one hf hg, h.fr.step hf (fun k hk e => by omega)⟩
theorem fo_none {w : World} : Fo w fa0 none := ⟨⟨Ul.nil, Ul.nil, Nat.le_refl _, Nat.le_refl _, by simp, by simp⟩, trivial⟩
theorem wl_app_frac {w0 w : World} {ops : Array Oper} {rest : List Oper} {o : Oper} {a : Act} {Q : Exit → Act → World → Prop} (hgd : o.guard = none) (s x : Operand) (t : TypeId) (ht : Tryz.prog.underlying t = some (.slice 26))
    (ho : o.op = .call { callee := .builtin .append, args := #[s, x], argTypes := #[t, t] })
    (A : Option Addr) (m c : Nat) (fs : List Fa) (os : List Rat) (X : Fa) (r : Rat) (hs : a.eval s = .slice A m c) (hx : a.eval x = .slice (some ⟨w.heap.size, 0, none⟩) 1 1) (hO : OFr w0 w A m c fs os) (hX : Fo w X (some r)) (h63 : m + 1 ≤ 4294967296)
    (h : ∀ A' c' w', OFr w0 w' A' (m + 1) c' (fs ++ [X]) (os ++ [r]) → w.heap.size ≤ w'.heap.size → Fr w w' (fun b => (Value.slice A m c).ownBlock = some b) → wpList Tryz.prog ops Q rest (a.put o.dst (.slice A' (m + 1) c')) w') :
    wpList Tryz.prog ops Q (o :: rest) a (w.alloc (.cells #[.slice X.A X.n X.c, .slice X.B X.m X.d] 26)) := by
  have hO1 := hO.alloc (.cells #[.slice X.A X.n X.c, .slice X.B X.m X.d] 26)
  have hX1 := hX.alloc (.cells #[.slice X.A X.n X.c, .slice X.B X.m X.d] 26)
  obtain ⟨i, hi, hz, hsize, hbyt⟩ := info_parts info26
  obtain ⟨v', w', hr, h2, h3, h4, g, cap, rfl, hbg⟩ := run_append_p (P := Tryz.prog) (w.alloc (.cells #[.slice X.A X.n X.c, .slice X.B X.m X.d] 26)) w0.heap.size t o.type 26 i _ 2 _ ht hi hz hsize hbyt rfl (by omega) (.slice A m c) m (fs.flatMap fvv) hO1.own ⟨w.heap.size, 0, none⟩ 1 1 (fvv X) rfl
    (by intro j u hu; match j with | 0 => simp [fvv] at hu; subst hu; simp [go_sem, Addr.add] | 1 => simp [fvv] at hu; subst hu; simp [go_sem, Addr.add] | j + 2 => simp [fvv] at hu) (fvv_one X)
    (by simp only [maxLen]; omega) (by omega) hO1.fr.size (fun u => ∀ x, u ≠ .int .u32 x) (by intro u hu; simp [Value.cells] at hu; subst hu; simp) (fvv_nb X) (fun g hg j u hu x e => (hO1.nb g hg) j x (by rw [hu, e])) (by omega)
  refine wpList_plain hgd fun K hK => ?_
  unfold Oper.wp execOp
  simp only [ho, resolve, invoke, builtin, Sem.run_bind, Sem.run_pure, Result.andThen_ok, List.map_toArray, List.map_cons, List.map_nil, hs, hx, hr]
  have hfr1 : Fr (w.alloc (.cells #[.slice X.A X.n X.c, .slice X.B X.m X.d] 26)) w' (fun b => (Value.slice A m c).ownBlock = some b) := ⟨h3.os, h3.tape, h3.output, h3.size, fun k hk hS => h3.block k hk (fun e => hS e.symm)⟩
  have keep : ∀ {y : Fa} {q : Rat}, Fo (w.alloc (.cells #[.slice X.A X.n X.c, .slice X.B X.m X.d] 26)) y (some q) → Fo w' y (some q) := fun {y q} hy => by
    cases hob : (Value.slice A m c).ownBlock with
    | none => exact hy.fr (hfr1.mono (fun k hk e => by rw [hob] at e; simp at e))
    | some g0 => exact hy.one (hfr1.mono (fun k hk e => by rw [hob] at e; simp at e; exact e.symm)) (hO1.nb g0 hob)
  refine hK _ _ (h _ _ _ ⟨by simpa using h2, fun g' hg' j x e => ?_, by simp [hO.len], by simp [hO.lo], fun j y q hy hq => ?_, hO1.fr.step hfr1 (fun k hk e => ?_)⟩ ?_ ?_)
  · exact h4 g' hg' j _ e x rfl
  · by_cases hj : j < m
    · rw [List.getElem?_append_left (by have := hO.len; omega)] at hy
      rw [List.getElem?_append_left (by have := hO.lo; omega)] at hq
      exact keep (hO1.el j y q hy hq)
    · rw [List.getElem?_append_right (by have := hO.len; omega)] at hy
      rw [List.getElem?_append_right (by have := hO.lo; omega)] at hq
      rw [hO.len] at hy
      rw [hO.lo] at hq
      match hjm : j - m with
      | 0 =>
        rw [hjm] at hy hq
        simp at hy hq
        subst hy
        subst hq
        exact keep hX1
      | k + 1 => rw [hjm] at hy; simp at hy
  · rcases hO.own.2 with ⟨h1, _⟩ | ⟨g', cap', cur', hv, hbg', _⟩
    · rw [h1] at e; simp [Value.ownBlock] at e
    · rw [hv] at e
      simp [Value.ownBlock] at e
      omega
  · have := h3.size; simp at this; omega
  · exact ((Fr.refl w _).alloc _).trans hfr1
end Go.Proofs.YtnokfhkcfebimaaGreat

/- Contracts: fraction.fold with Add, Sum. -/
namespace Go.Proofs.YtnokfhkcfebimaaGreat
open Go.RowKit

/-- A slice of fractions. -/
structure FSl (w : World) (A : Option Addr) (n : Nat) (fs : List Fa) (os : List Rat) : Prop where
  rs : Rs w none 2 fvv A fs
  len : fs.length = n
  lo : os.length = n
  el : ∀ (i : Nat) (x : Fa) (r : Rat), fs[i]? = some x → os[i]? = some r → Fo w x (some r)
theorem FSl.below {w w' : World} {A : Option Addr} {n : Nat} {fs : List Fa} {os : List Rat} (h : FSl w A n fs os) (hb : Below w.heap.size w w') : FSl w' A n fs os := ⟨h.rs.below hb, h.len, h.lo, fun i x r hx hr => (h.el i x r hx hr).below hb⟩
theorem FSl.alloc {w : World} {A : Option Addr} {n : Nat} {fs : List Fa} {os : List Rat} (h : FSl w A n fs os) (o : Obj) : FSl (w.alloc o) A n fs os := h.below ((Below.refl _ _).alloc (Nat.le_refl _) _)
theorem OFr.sl {w0 w : World} {A : Option Addr} {m c : Nat} {fs : List Fa} {os : List Rat} (h : OFr w0 w A m c fs os) : FSl w A m fs os := ⟨Rs.of_own h.own fvv_len h.len (by simp), h.len, h.lo, h.el⟩
theorem FSl.at {w : World} {A : Option Addr} {n : Nat} {fs : List Fa} {os : List Rat} (h : FSl w A n fs os) {k : Nat} (hk : k < n) :
    ∃ b o x r, A = some ⟨b, o, none⟩ ∧ b < w.heap.size ∧ fs[k]? = some x ∧ os[k]? = some r ∧ Fo w x (some r) ∧ w.cell? ⟨b, o + k * 2, none⟩ = some (.slice x.A x.n x.c) ∧ w.cell? ⟨b, o + k * 2 + 1, none⟩ = some (.slice x.B x.m x.d) := by
  have h1 := List.getElem?_eq_getElem (l := fs) (i := k) (by have := h.len; omega)
  have h2 := List.getElem?_eq_getElem (l := os) (i := k) (by have := h.lo; omega)
  obtain ⟨b, o, g1, -, g3, g4⟩ := h.rs.at h1
  have a0 := g4 0 (.slice _ _ _) rfl
  have a1 := g4 1 (.slice _ _ _) rfl
  exact ⟨b, o, _, _, g1, g3, h1, h2, h.el k _ _ h1 h2, by simpa using a0, a1⟩
def sumQ (l : List Rat) : Rat := l.foldl (· + ·) 0
theorem sumQ_snoc (l : List Rat) (r : Rat) : sumQ (l ++ [r]) = sumQ l + r := by
  unfold sumQ
  rw [List.foldl_append]
  rfl
theorem sumQ_take {l : List Rat} {j : Nat} {r : Rat} (h : l[j]? = some r) : sumQ (l.take (j + 1)) = sumQ (l.take j) + r := by
  rw [List.take_add_one, h]
  exact sumQ_snoc _ _
structure GS (w wr : World) (b6 : Nat) (c6 : Fa) (sv : Rat) : Prop where
  bw : Below w.heap.size w wr
  rb : Rb wr w.heap.size
  x6 : Fx wr b6 c6 (some sv)
  g : w.heap.size < b6
theorem GS.below {w wr wr' : World} {b6 : Nat} {c6 : Fa} {s : Rat} (h : GS w wr b6 c6 s) (hb : Below wr.heap.size wr wr') : GS w wr' b6 c6 s := ⟨h.bw.trans (hb.mono h.bw.size), h.rb.below hb, h.x6.below hb, h.g⟩
theorem GS.alloc {w wr : World} {b6 : Nat} {c6 : Fa} {s : Rat} (h : GS w wr b6 c6 s) (o : Obj) : GS w (wr.alloc o) b6 c6 s := h.below ((Below.refl _ _).alloc (Nat.le_refl _) _)
theorem GS.put {w wr : World} {b6 : Nat} {c6 : Fa} {s : Rat} (h : GS w wr b6 c6 s) {c : Fa} {s' : Rat} (ho : Fo wr c (some s')) :
    GS w ((wr.setCell ⟨b6, 0, none⟩ (.slice c.A c.n c.c)).setCell ⟨b6, 1, none⟩ (.slice c.B c.m c.d)) b6 c s' :=
  ⟨Rb.end0 h.bw (by have := h.g; omega) _ _, (h.rb.bq.one (fr_fill _ _) (by have := h.g; omega)).rb, h.x6.put ho, h.g⟩
theorem fo_zero {w : World} {A : Option Addr} {m d : Nat} (hU : Ul w none A m (lm 1)) (h1 : m ≤ d) (h2 : m ≤ 2) : Fo w ⟨none, 0, 0, A, m, d⟩ (some 0) :=
  ⟨⟨by show Ul w none none 0 (lm (rn 0)); rw [rn_zero, lm_zero]; exact Ul.nil, hU, Nat.le_refl _, h1, by show 0 ≤ 9223372036854775807; omega, by show m ≤ 9223372036854775807; omega⟩, Rat.le_refl, by decide +kernel⟩
end Go.Proofs.YtnokfhkcfebimaaGreat

/- A block that holds a row of fractions: made, copied, changed in one place. -/
namespace Go.Proofs.YtnokfhkcfebimaaGreat
open Go.RowKit

/-- The block g holds these fractions. -/
structure Fw (w : World) (g m : Nat) (fs : List Fa) (os : List (Option Rat)) : Prop where
  sz : g < w.heap.size
  nb : NB w g
  fz : ∀ j, w.frozen? ⟨g, j, none⟩ = false
  len : fs.length = m
  lo : os.length = m
  c : ∀ (i : Nat) (x : Fa), fs[i]? = some x → w.cell? ⟨g, i * 2, none⟩ = some (.slice x.A x.n x.c) ∧ w.cell? ⟨g, i * 2 + 1, none⟩ = some (.slice x.B x.m x.d)
  el : ∀ (i : Nat) (x : Fa) (o : Option Rat), fs[i]? = some x → os[i]? = some o → Fo w x o
section
variable {w w' : World} {g m : Nat} {fs : List Fa} {os : List (Option Rat)}
theorem Fw.below (h : Fw w g m fs os) (hb : Below w.heap.size w w') : Fw w' g m fs os :=
  ⟨Nat.lt_of_lt_of_le h.sz hb.size, h.nb.below h.sz hb, fun j => by rw [hb.frozen (by exact h.sz)]; exact h.fz j, h.len, h.lo, fun i x hx => by rw [hb.cell (by exact h.sz), hb.cell (by exact h.sz)]; exact h.c i x hx, fun i x o hx ho => (h.el i x o hx ho).below hb⟩
theorem Fw.one (h : Fw w g m fs os) {g' : Nat} (hf : Fr w w' (fun b => b = g')) (hg : NB w g') (hne : g ≠ g') : Fw w' g m fs os := by
  have hk := hf.block g h.sz hne
  refine ⟨Nat.lt_of_lt_of_le h.sz hf.size, fun j x => ?_, fun j => ?_, h.len, h.lo, fun i x hx => ?_, fun i x o hx ho => (h.el i x o hx ho).one hf hg⟩
  · rw [World.cell?_of_block (w := w) (a := ⟨g, j, none⟩) hk]; exact h.nb j x
  · rw [World.frozen?_of_block (w := w) (a := ⟨g, j, none⟩) hk]; exact h.fz j
  · rw [World.cell?_of_block (w := w) (a := ⟨g, i * 2, none⟩) hk, World.cell?_of_block (w := w) (a := ⟨g, i * 2 + 1, none⟩) hk]; exact h.c i x hx
/-- One place of it. -/
theorem Fw.at (h : Fw w g m fs os) {i : Nat} {r : Rat} (hi : i < m) (ho : os[i]? = some (some r)) : ∃ x, fs[i]? = some x ∧ Fp w g (i * 2) x r := by
  have h1 := List.getElem?_eq_getElem (l := fs) (i := i) (by have := h.len; omega)
  exact ⟨_, h1, ⟨(h.c i _ h1).1, (h.c i _ h1).2, h.fz, h.sz, h.nb, h.el i _ _ h1 ho⟩⟩
theorem set_get {α : Type} {l : List α} {i j : Nat} {x y : α} (h : (l.set i x)[j]? = some y) : (j = i ∧ y = x) ∨ (j ≠ i ∧ l[j]? = some y) := by
  by_cases hj : j = i
  · subst hj
    rcases Nat.lt_or_ge j l.length with h1 | h1
    · rw [List.getElem?_set_self h1] at h
      injection h with h
      exact .inl ⟨rfl, h.symm⟩
    · rw [List.getElem?_eq_none (by simpa using h1)] at h
      simp at h
  · rw [List.getElem?_set_ne (fun e => hj e.symm)] at h
    exact .inr ⟨hj, h⟩
theorem Fw.set (h : Fw w g m fs os) {i : Nat} (hi : i < m) {x : Fa} {o : Option Rat} (hx : Fo w x o) : Fw ((w.setCell ⟨g, i * 2, none⟩ (.slice x.A x.n x.c)).setCell ⟨g, i * 2 + 1, none⟩ (.slice x.B x.m x.d)) g m (fs.set i x) (os.set i o) := by
  have hf : Fr w ((w.setCell ⟨g, i * 2, none⟩ (.slice x.A x.n x.c)).setCell ⟨g, i * 2 + 1, none⟩ (.slice x.B x.m x.d)) (fun b => b = g) := by
    refine Fr.setCell (Fr.setCell (Fr.refl _ _) ?_ _) ?_ _ <;> exact Or.inr (by rfl)
  obtain ⟨z, h1⟩ : ∃ z, fs[i]? = some z := ⟨_, List.getElem?_eq_getElem (l := fs) (i := i) (by have := h.len; omega)⟩
  obtain ⟨k0, k1⟩ := h.c i _ h1
  have s0 : (w.setCell ⟨g, i * 2, none⟩ (.slice x.A x.n x.c)).cell? ⟨g, i * 2, none⟩ = some (.slice x.A x.n x.c) := by simp [go_sem, k0]
  have s1 : (w.setCell ⟨g, i * 2, none⟩ (.slice x.A x.n x.c)).cell? ⟨g, i * 2 + 1, none⟩ = some (.slice z.B z.m z.d) := by
    rw [World.cell?_setCell_other _ _ _ _ (by intro h; injection h; omega)]; exact k1
  have t0 : ((w.setCell ⟨g, i * 2, none⟩ (.slice x.A x.n x.c)).setCell ⟨g, i * 2 + 1, none⟩ (.slice x.B x.m x.d)).cell? ⟨g, i * 2, none⟩ = some (.slice x.A x.n x.c) := by
    rw [World.cell?_setCell_other _ _ _ _ (by intro h; injection h; omega)]; exact s0
  have t1 : ((w.setCell ⟨g, i * 2, none⟩ (.slice x.A x.n x.c)).setCell ⟨g, i * 2 + 1, none⟩ (.slice x.B x.m x.d)).cell? ⟨g, i * 2 + 1, none⟩ = some (.slice x.B x.m x.d) := by
    simp [go_sem, s1]
  refine ⟨Nat.lt_of_lt_of_le h.sz hf.size, (h.nb.put (i * 2) (by simp)).put (i * 2 + 1) (by simp), fun j => ?_, by simp [h.len], by simp [h.lo], fun j y hy => ?_, fun j y u hy hu => ?_⟩
  · have := h.fz j; simp [go_sem, *]
  · rcases set_get hy with ⟨rfl, rfl⟩ | ⟨hj, hy⟩
    · exact ⟨t0, t1⟩
    · have := h.c j y hy
      rw [World.cell?_setCell_other _ _ _ _ (by intro h; injection h; omega), World.cell?_setCell_other _ _ _ _ (by intro h; injection h; omega), World.cell?_setCell_other _ _ _ _ (by intro h; injection h; omega), World.cell?_setCell_other _ _ _ _ (by intro h; injection h; omega)]
      exact this
  · rcases set_get hy with ⟨rfl, rfl⟩ | ⟨hj, hy⟩
    · rcases set_get hu with ⟨_, rfl⟩ | ⟨hj, hu⟩
      · exact hx.one hf h.nb
      · exact absurd rfl hj
    · rcases set_get hu with ⟨e, _⟩ | ⟨_, hu⟩
      · exact absurd e hj
      · exact (h.el j y u hy hu).one hf h.nb
theorem Fw.rs (h : Fw w g m fs os) : Rs w none 2 fvv (some ⟨g, 0, none⟩) fs := by
  intro _
  refine ⟨g, 0, rfl, by simp, h.sz, fun k x hk j u hu => ?_⟩
  have := h.c k x hk
  match j with
  | 0 => simp [fvv] at hu; subst hu; simpa using this.1
  | 1 => simp [fvv] at hu; subst hu; simpa using this.2
  | j + 2 => simp [fvv] at hu
theorem flat2 {l : List Fa} {i : Nat} {x : Fa} (h : l[i]? = some x) : (l.flatMap fvv)[i * 2]? = some (.slice x.A x.n x.c) ∧ (l.flatMap fvv)[i * 2 + 1]? = some (.slice x.B x.m x.d) := by
  induction l generalizing i with
  | nil => simp at h
  | cons a t ih =>
    rw [List.flatMap_cons]
    cases i with
    | zero => simp at h; subst h; exact ⟨rfl, rfl⟩
    | succ i =>
      have := ih (i := i) (by simpa using h)
      rw [List.getElem?_append_right (by rw [fvv_len]; omega), List.getElem?_append_right (by rw [fvv_len]; omega), fvv_len, show (i + 1) * 2 - 2 = i * 2 by omega, show (i + 1) * 2 + 1 - 2 = i * 2 + 1 by omega]
      exact this
theorem Fw.of_own {B : Nat} (h : w.ownsRow B 26 2 (.slice (some ⟨g, 0, none⟩) m m) m (fs.flatMap fvv)) (hl : fs.length = m) (hlo : os.length = m) (hel : ∀ (i : Nat) (x : Fa) (o : Option Rat), fs[i]? = some x → os[i]? = some o → Fo w x o) : Fw w g m fs os := by
  refine ⟨(h.lt g rfl).2, fun j x e => ?_, fun j => h.frozenAt j, hl, hlo, fun i x hx => ?_, hel⟩
  · rcases h.2 with ⟨h1, _⟩ | ⟨g', cap, cur, hv, _, hh, _, _, hcs, ht⟩
    · simp at h1
    · injection hv with h1 _ h2
      injection h1 with h1
      injection h1 with h1
      subst h1 h2
      rw [cell_of_heap hh] at e
      have hcur : cur.toList = fs.flatMap fvv := by rw [← ht, List.take_of_length_le (by simp [hcs])]
      have hm : (Value.int .u32 x) ∈ cur.toList := by
        have := Array.mem_of_getElem? e
        simpa using this
      rw [hcur] at hm
      obtain ⟨y, _, hy⟩ := List.mem_flatMap.1 hm
      exact fvv_nb y _ hy x rfl
  · obtain ⟨h1, h2⟩ := flat2 hx
    have hi : i < m := by have := (List.getElem?_eq_some_iff.1 hx).1; omega
    exact ⟨(h.cellAt (i * 2) (by omega)).trans h1, (h.cellAt (i * 2 + 1) (by omega)).trans h2⟩
end
theorem rep_flat (n : Nat) : (List.replicate n fa0).flatMap fvv = List.replicate (n * 2) (Value.slice none 0 0) := by
  induction n with
  | zero => rfl
  | succ n ih => rw [List.replicate_succ, List.flatMap_cons, ih, show (n + 1) * 2 = n * 2 + 1 + 1 by omega, List.replicate_succ, List.replicate_succ]; rfl
theorem made_frac (n : Nat) : (madeCells (Value.agg #[.slice none 0 0, .slice none 0 0]).cells (n * 2)).toList.take (n * 2) = (List.replicate n fa0).flatMap fvv := by
  rw [rep_flat]
  have e : (madeCells (Value.agg #[.slice none 0 0, .slice none 0 0]).cells (n * 2)).toList = List.replicate (n * 2) (Value.slice none 0 0) := by
    apply List.ext_getElem?
    intro i
    rw [Array.getElem?_toList]
    by_cases hi : i < n * 2
    · rw [List.getElem?_replicate, if_pos hi, Array.getElem?_eq_getElem (by rw [size_madeCells]; omega)]
      have h2 : i % 2 = 0 ∨ i % 2 = 1 := by omega
      rcases h2 with h2 | h2 <;> simp [madeCells, Value.cells, h2]
    · rw [List.getElem?_replicate, if_neg hi, Array.getElem?_eq_none (by rw [size_madeCells]; omega)]
  rw [e, List.take_replicate, Nat.min_self]
/-- 'make([]Frac, n)'. -/
theorem wl_make_frac {w : World} {ops : Array Oper} {rest : List Oper} {o : Oper} {a : Act} {Q : Exit → Act → World → Prop}
    (hg : o.guard = none) (l k : Operand) (t : TypeId) (ht : Tryz.prog.underlying t = some (.slice 26)) (hop : o.op = Op.makeSlice t l k)
    (n : Nat) (N C : Int) (hl : a.eval l = .int .i64 N) (hc : a.eval k = .int .i64 C) (hN : N = (n : Int)) (hC : C = (n : Int)) (b3 : n ≤ 4294967296)
    (hK : ∀ w', w'.ownsRow w.heap.size 26 2 (.slice (some ⟨w.heap.size, 0, none⟩) n n) n ((List.replicate n fa0).flatMap fvv) → Fw w' w.heap.size n (List.replicate n fa0) (List.replicate n none) → Below w.heap.size w w' → wpList Tryz.prog ops Q rest (a.put o.dst (.slice (some ⟨w.heap.size, 0, none⟩) n n)) w') :
    wpList Tryz.prog ops Q (o :: rest) a w := by
  refine wl_make w hg l k t hop w.heap.size 26 _ 2 48 ht info26 w.heap.size n n rfl N C hl hc hN hC (Nat.le_refl _) rfl (by omega) (by simp only [maxLen]; omega) (Nat.le_refl _) ?_
  intro w' ys hown hys hgr
  have hys' := hys.out
  rw [made_frac n] at hys'
  subst hys'
  refine hK w' hown (Fw.of_own hown (by simp) (by simp) (fun i x u hx hu => ?_)) (below_of_grown hgr)
  have h1 : x = fa0 := by
    have := List.getElem?_replicate (a := fa0) (n := n) (i := i)
    rw [hx] at this
    split at this <;> simp at this
    exact this
  have h2 : u = none := by
    have := List.getElem?_replicate (a := (none : Option Rat)) (n := n) (i := i)
    rw [hu] at this
    split at this <;> simp at this
    exact this
  subst h1 h2
  exact fo_none
/-- 'copy(d, s)' of as many. -/
theorem wl_copy_frac {w : World} {ops : Array Oper} {rest : List Oper} {o : Oper} {a : Act} {Q : Exit → Act → World → Prop} (hgd : o.guard = none) (d s : Operand) (dT sT : TypeId) (ht : Tryz.prog.underlying dT = some (.slice 26))
    (ho : o.op = .call { callee := .builtin .copy, args := #[d, s], argTypes := #[dT, sT] })
    (B g n g' : Nat) (ys : List Value) (hd : a.eval d = .slice (some ⟨g, 0, none⟩) n n) (hs : a.eval s = .slice (some ⟨g', 0, none⟩) n n) (hown : w.ownsRow B 26 2 (.slice (some ⟨g, 0, none⟩) n n) n ys)
    (fs : List Fa) (os : List (Option Rat)) (hF : Fw w g' n fs os) (hnb : NB w g)
    (h : ∀ w', Fw w' g n fs os → Fr w w' (fun b => b = g) → wpList Tryz.prog ops Q rest (a.put o.dst (goInt n)) w') :
    wpList Tryz.prog ops Q (o :: rest) a w := by
  refine wl_copy (P := Tryz.prog) w hgd d s dT sT ho 26 2 ht (by obtain ⟨i, hi, _, hsz, _⟩ := info_parts info26; rw [hi]; simp [hsz]) B g n n n ys _ hd hs hown fs hF.rs hF.len fvv_len fvv_one ?_
  intro w' hown' hgr
  have hf : Fr w w' (fun b => b = g) := ⟨hgr.os, hgr.tape, hgr.output, hgr.size, fun k hk hS => hgr.block k hk (fun e => hS (by injection e))⟩
  exact h w' (Fw.of_own hown' hF.len hF.lo (fun i x u hx hu => (hF.el i x u hx hu).one hf hnb)) hf
end Go.Proofs.YtnokfhkcfebimaaGreat
