/- Contracts of the functions that these laws reach: part 23: What came in, whatever it is, reads as plain values: rows, fractions; A noise model that came in; Boxes of any number of cells; contract: Noise. -/
import Derived.Test.YtclflfglhbkfkaaG20
import Derived.Test.YtclflfglhbkfkaaG3
import Derived.DataReads
import Derived.WalkKit
import Derived.ProofKit
import Derived.OpenShut
import Derived.ChangeOld
import Derived.ChangeArms
import Derived.WideShapes
import Derived.Deep.Slices
import Derived.Test.YtclflfglhbkfkaaG12
set_option linter.unusedVariables false
set_option linter.unusedSimpArgs false

/- What came in, whatever it is, reads as plain values: rows, fractions. -/
namespace Go.Proofs.Ytclflfglhbkfkaa
open Go.RowKit Go.WideShapes Go.Deep

theorem jcells26 : Try.prog.cellsOf 26 = 2 := by kernel_rfl
theorem jcells24 : Try.prog.cellsOf 24 = 1 := by kernel_rfl
theorem jcells83 : Try.prog.cellsOf 83 = 1 := by kernel_rfl
theorem jcells3 : Try.prog.cellsOf 3 = 1 := by kernel_rfl
theorem jcells4 : Try.prog.cellsOf 4 = 1 := by kernel_rfl

section
variable {H : Type} {enc : TypeId × Value → H} {w : World} {base : Nat} {spare : Nat → Bool} {held : Bool}

theorem jfld {fs : Array Field} {n : Nat} {cs : List Value} {xs : List (DataW H × List MemPlace)} (hf : ∀ (i : Nat) (f : Field), fs[i]? = some f → DataW.trod enc Try.prog w base spare held n f.type ((cs.drop f.offset).take (Try.prog.cellsOf f.type)) = xs[i]?)
    (i : Nat) (t : TypeId) (o k : Nat) (ht : (fs[i]?).map (fun f => (f.type, f.offset)) = some (t, o)) (hk : Try.prog.cellsOf t = k) (hi : i < xs.length) : ∃ y, DataW.trod enc Try.prog w base spare held n t ((cs.drop o).take k) = some y := by
  cases hfi : fs[i]? with
  | none => rw [hfi] at ht; simp at ht
  | some f =>
    rw [hfi] at ht
    simp at ht
    obtain ⟨rfl, rfl⟩ := ht
    have := hf i f hfi
    rw [hk] at this
    exact ⟨_, this.trans (List.getElem?_eq_getElem hi)⟩
/-- A row whose elements read as f's. -/
theorem came_row {α : Type} (f : α → List Value) (s : Nat) (p : α → Prop) (x0 : α) {t e : TypeId} (ht : Try.prog.underlying t = some (.slice e)) (hc : Try.prog.cellsOf e = s) (hs : 0 < s) (hf : ∀ a, (f a).length = s)
    (hel : ∀ (n : Nat) (cs : List Value) (x : DataW H × List MemPlace), DataW.trod enc Try.prog w base spare held n e cs = some x → ∃ a, cs = f a ∧ p a)
    {fuel : Nat} {cs : List Value} {x : DataW H × List MemPlace} (h : DataW.trod enc Try.prog w base spare held fuel t cs = some x) :
    ∃ (A : Option Addr) (n c : Nat) (l : List α), cs = [.slice A n c] ∧ l.length = n ∧ n ≤ c ∧ c ≤ maxLen ∧ (∀ a ∈ l, p a) ∧ Rs w none s f A l := by
  rcases open_slice ht h with ⟨h2, -⟩ | ⟨a, len, cap, mm, nn, D, Pl, h2, -, h4, h5, h6, -, h8⟩
  · exact ⟨none, 0, 0, [], h2, rfl, Nat.le_refl _, Nat.zero_le _, by simp, Rs.nil⟩
  · have hle : len ≤ mm := by rw [h6]; split <;> omega
    rw [hc] at h8
    have tk : ∀ i, i < len → ∃ t : α, (∀ j u, (f t)[j]? = some u → w.cell? ((a.add (i * s)).add j) = some u) ∧ p t := by
      intro i hi
      obtain ⟨cs', h9, h10⟩ := h8 i (by omega)
      obtain ⟨t, rfl, hp⟩ := hel _ _ _ h10
      obtain ⟨-, -, h11⟩ := World.cells?_some h9
      exact ⟨t, fun j u hu => (h11 j (by have := (List.getElem?_eq_some_iff.1 hu).1; rwa [hf] at this)).trans hu, hp⟩
    let g : Nat → α := fun i => if hi : i < len then Classical.choose (tk i hi) else x0
    have hgp : ∀ i, i < len → (∀ j u, (f (g i))[j]? = some u → w.cell? ((a.add (i * s)).add j) = some u) ∧ p (g i) := by
      intro i hi
      have := Classical.choose_spec (tk i hi)
      simpa [g, hi] using this
    refine ⟨some a, len, cap, (List.range len).map g, h2, by simp, h4, h5, ?_, fun hne => ?_⟩
    · intro b hb
      obtain ⟨i, hi, rfl⟩ := List.mem_map.1 hb
      exact (hgp i (by simpa using hi)).2
    have hpos : 0 < len := by
      rcases Nat.eq_zero_or_pos len with h | h
      · subst h; simp at hne
      · exact h
    obtain ⟨b, o, sp⟩ := a
    have hlen0 := hf (g 0)
    have q0 := (hgp 0 hpos).1 0 _ (List.getElem?_eq_getElem (show 0 < (f (g 0)).length by omega))
    have hsp : sp = none := by
      cases sp with
      | none => rfl
      | some s =>
        simp [Addr.add] at q0
        simp only [World.cell?] at q0
        split at q0 <;> simp at q0
    subst hsp
    have hb : b < w.heap.size := by
      have := World.block_lt_of_cell? w _ q0
      simpa [Addr.add] using this
    refine ⟨b, o, rfl, by simp, hb, fun k z hk j u hu => ?_⟩
    simp only [List.getElem?_map] at hk
    rcases Nat.lt_or_ge k len with hkl | hkl
    · rw [List.getElem?_range hkl] at hk
      simp at hk
      subst hk
      have := (hgp k hkl).1 j u hu
      rwa [Addr.add_lit, Addr.add_lit] at this
    · rw [List.getElem?_eq_none (by simpa using hkl)] at hk
      simp at hk
theorem came_intsI {fuel : Nat} {cs : List Value} {x : DataW H × List MemPlace} (h : DataW.trod enc Try.prog w base spare held fuel 22 cs = some x) :
    ∃ (A : Option Addr) (n c : Nat) (l : List Int), cs = [.slice A n c] ∧ l.length = n ∧ n ≤ c ∧ c ≤ maxLen ∧ Rs w none 1 iv A l := by
  obtain ⟨A, n, c, l, h1, h2, h3, h4, -, h5⟩ := came_row iv 1 (fun _ => True) 0 Try.underlying22 jcells3 (by omega) (fun _ => rfl) (fun n cs x h => by
    obtain ⟨i, hi, -⟩ := DataW.trod_int Try.underlying3 h
    exact ⟨i, hi, trivial⟩) h
  exact ⟨A, n, c, l, h1, h2, h3, h4, h5⟩
theorem came_bools {fuel : Nat} {cs : List Value} {x : DataW H × List MemPlace} (h : DataW.trod enc Try.prog w base spare held fuel 57 cs = some x) :
    ∃ (A : Option Addr) (n c : Nat) (l : List Bool), cs = [.slice A n c] ∧ l.length = n ∧ n ≤ c ∧ c ≤ maxLen ∧ Rs w none 1 bv A l := by
  obtain ⟨A, n, c, l, h1, h2, h3, h4, -, h5⟩ := came_row bv 1 (fun _ => True) false Try.underlying57 jcells4 (by omega) (fun _ => rfl) (fun n cs x h => by
    obtain ⟨i, hi, -⟩ := DataW.trod_bool Try.underlying4 h
    exact ⟨i, hi, trivial⟩) h
  exact ⟨A, n, c, l, h1, h2, h3, h4, h5⟩
theorem came_nat {fuel : Nat} {cs : List Value} {x : DataW H × List MemPlace} (h : DataW.trod enc Try.prog w base spare held fuel 24 cs = some x) :
    ∃ (A : Option Addr) (n c : Nat) (l : List Nat), cs = [.slice A n c] ∧ n ≤ c ∧ c ≤ maxLen ∧ Ul w none A n l := by
  obtain ⟨A, n, c, l, h1, h2, h3, h4, h6, h5⟩ := came_row uv 1 (fun x => x < 4294967296) 0 Try.underlying24 jcells83 (by omega) (fun _ => rfl) (fun n cs x h => by
    obtain ⟨i, hi, -, hw⟩ := DataW.trod_int Try.underlying83 h
    have hw' : -1 < i ∧ i < 4294967296 := by
      have h1 : IntKind.u32.min = 0 := by rfl
      have h2 : IntKind.u32.max = 4294967295 := by rfl
      simp [Lit.wf] at hw
      omega
    refine ⟨i.toNat, ?_, ?_⟩
    · rw [hi]; unfold uv; rw [Int.toNat_of_nonneg (by omega)]
    · omega) h
  exact ⟨A, n, c, l, h1, h3, h4, ⟨h5, h2, fun x hx => h6 x hx⟩⟩
/-- A fraction that came in. -/
structure CameF (w : World) (p : Fa) (l k : List Nat) : Prop where
  u : Ul w none p.A p.n l
  v : Ul w none p.B p.m k
  c : p.n ≤ p.c
  d : p.m ≤ p.d
  n : p.n ≤ 9223372036854775807
  m : p.m ≤ 9223372036854775807
set_option maxRecDepth 20000 in
theorem came_frac {fuel : Nat} {cs : List Value} {x : DataW H × List MemPlace} (h : DataW.trod enc Try.prog w base spare held fuel 26 cs = some x) :
    ∃ (p : Fa) (l k : List Nat), cs = [.slice p.A p.n p.c, .slice p.B p.m p.d] ∧ CameF w p l k := by
  obtain ⟨xs, n, _, -, hc, hl, hf⟩ := DataW.trod_struct Try.underlying26 h
  rw [jcells26] at hc
  have hl' : xs.length = 2 := hl
  match cs, hc with
  | [a0, a1], _ =>
    obtain ⟨y0, h0⟩ := jfld hf 0 24 0 1 rfl jcells24 (by omega)
    obtain ⟨y1, h1⟩ := jfld hf 1 24 1 1 rfl jcells24 (by omega)
    obtain ⟨A, n1, c1, l1, e1, g1, g2, g3⟩ := came_nat h0
    obtain ⟨B, n2, c2, l2, e2, k1, k2, k3⟩ := came_nat h1
    simp at e1 e2
    subst e1 e2
    simp only [maxLen] at g2 k2
    exact ⟨⟨A, n1, c1, B, n2, c2⟩, l1, l2, rfl, ⟨g3, k3, g1, k1, by show n1 ≤ _; omega, by show n2 ≤ _; omega⟩⟩
end
end Go.Proofs.Ytclflfglhbkfkaa

/- A noise model that came in. -/
namespace Go.Proofs.Ytclflfglhbkfkaa
open Go.RowKit Go.WideShapes Go.Deep

theorem jcells50 : Try.prog.cellsOf 50 = 4 := by kernel_rfl
section
variable {H : Type} {enc : TypeId × Value → H} {w : World} {base : Nat} {spare : Nat → Bool} {held : Bool}
set_option maxRecDepth 20000 in
theorem came_noise {fuel : Nat} {cs : List Value} {x : DataW H × List MemPlace} (h : DataW.trod enc Try.prog w base spare held fuel 50 cs = some x) :
    ∃ (p q : Fa) (l k l2 k2 : List Nat), cs = [.slice p.A p.n p.c, .slice p.B p.m p.d, .slice q.A q.n q.c, .slice q.B q.m q.d] ∧ CameF w p l k ∧ CameF w q l2 k2 := by
  obtain ⟨xs, n, _, -, hc, hl, hf⟩ := DataW.trod_struct Try.underlying50 h
  rw [jcells50] at hc
  have hl' : xs.length = 2 := hl
  match cs, hc with
  | [a0, a1, a2, a3], _ =>
    obtain ⟨y0, h0⟩ := jfld hf 0 26 0 2 rfl jcells26 (by omega)
    obtain ⟨y1, h1⟩ := jfld hf 1 26 2 2 rfl jcells26 (by omega)
    simp only [List.drop_zero, List.take, List.drop] at h0 h1
    obtain ⟨p, l, k, e1, g1⟩ := came_frac h0
    obtain ⟨q, l2, k2, e2, g2⟩ := came_frac h1
    simp at e1 e2
    obtain ⟨rfl, rfl⟩ := e1
    obtain ⟨rfl, rfl⟩ := e2
    exact ⟨p, q, l, k, l2, k2, rfl, g1, g2⟩
end
end Go.Proofs.Ytclflfglhbkfkaa

/- Boxes of any number of cells; contract: Noise. -/
namespace Go.Proofs.Ytclflfglhbkfkaa
open Go.RowKit

/-- A box with these cells, no limbs among them. -/
structure Cb (v : World) (g : Nat) (cs : List Value) : Prop where
  cell : ∀ i x, cs[i]? = some x → v.cell? ⟨g, i, none⟩ = some x
  fz : ∀ j, v.frozen? ⟨g, j, none⟩ = false
  sz : g < v.heap.size
  nb : NB v g
theorem Cb.below {v v' : World} {g : Nat} {cs : List Value} (h : Cb v g cs) (hb : Below v.heap.size v v') : Cb v' g cs := by
  have h1 := h.sz
  refine ⟨fun i x hx => ?_, fun j => ?_, Nat.lt_of_lt_of_le h.sz hb.size, h.nb.below h.sz hb⟩
  · rw [hb.cell (by simp; omega)]; exact h.cell i x hx
  · rw [World.frozen?_of_block (w := v) (a := ⟨g, j, none⟩) (hb.block g h1)]; exact h.fz j
theorem Cb.one {v v' : World} {g g' : Nat} {cs : List Value} (h : Cb v g cs) (hf : Fr v v' (fun b => b = g')) (hn : g ≠ g') : Cb v' g cs := by
  have h1 := h.sz
  refine ⟨fun i x hx => ?_, fun j => ?_, Nat.lt_of_lt_of_le h.sz hf.size, h.nb.one hf h.sz hn⟩
  · rw [World.cell?_of_block (w := v) (a := ⟨g, i, none⟩) (hf.block g h1 hn)]; exact h.cell i x hx
  · rw [World.frozen?_of_block (w := v) (a := ⟨g, j, none⟩) (hf.block g h1 hn)]; exact h.fz j
theorem Cb.mk0 {w : World} (cs : List Value) (hc : ∀ x ∈ cs, ∀ i, x ≠ .int .u32 i) (t : TypeId) {g : Nat} (hg : g = w.heap.size) : Cb (w.alloc (.cells cs.toArray t)) g cs := by
  subst hg
  have hcell : ∀ i, (w.alloc (.cells cs.toArray t)).cell? ⟨w.heap.size, i, none⟩ = cs[i]? := by
    intro i
    rw [World.cell?_alloc_new]
    simp
  refine ⟨fun i x hx => by rw [hcell]; exact hx, fun j => by go_simp, by simp, fun j x h => ?_⟩
  rw [hcell] at h
  exact hc _ (List.mem_of_getElem? h) x rfl
theorem Cb.alloc {v : World} {g : Nat} {cs : List Value} (h : Cb v g cs) (o : Obj) : Cb (v.alloc o) g cs := h.below ((Below.refl _ _).alloc (Nat.le_refl _) _)
theorem Cb.drew {v : World} {g : Nat} {cs : List Value} (h : Cb v g cs) : Cb v.drew g cs := h.below (Dr.below ⟨1, rfl⟩)
/-- What a maker of noise models returns. -/
def MkN (w : World) (T : Nat) (A : Option Addr) (n c : Nat) (l : List Int) (a : Nat) (e : Ending) (w' : World) : Prop :=
  ∃ (f g : Fa) (r s : Rat), e = .returned (.agg #[.slice f.A f.n f.c, .slice f.B f.m f.d, .slice g.A g.n g.c, .slice g.B g.m g.d]) ∧ Fo w' f (some r) ∧ Fo w' g (some s) ∧ Chn r ∧ Chn s ∧ r ≤ s ∧ Tp w' T A n c l a ∧ Fr w w' (fun b => b = T)
theorem fr_four {w : World} {g : Nat} (a b c d : Value) : Fr w ((((w.setCell ⟨g, 0, none⟩ a).setCell ⟨g, 1, none⟩ b).setCell ⟨g, 2, none⟩ c).setCell ⟨g, 3, none⟩ d) (fun x => x = g) := by
  refine Fr.setCell (Fr.setCell (Fr.setCell (Fr.setCell (Fr.refl _ _) ?_ _) ?_ _) ?_ _) ?_ _ <;> exact Or.inr (by rfl)
set_option maxRecDepth 100000 in
set_option maxHeartbeats 4000000 in
theorem noisem_any (w : World) (T : Nat) (A : Option Addr) (n c : Nat) (l : List Int) (a : Nat) (hP : Tp w T A n c l a) (ha : a ≤ 4294967000) :
    Calls Try.prog 28 #[.pointer (some ⟨T, 0, none⟩)] w fun e w' => MkN w T A n c l (a + 3) e w' := by
  have HP0 := hide hP
  have hTl := hP.t.1
  go_enter Try.func28, Try.ntmps28
  go_upto_region 1 with (fail)
  generalize hW : World.alloc w _ = v
  have HR := hide (show Cb v w.heap.size [.slice none 0 0, .slice none 0 0, .slice none 0 0, .slice none 0 0] by rw [← hW]; exact Cb.mk0 _ (by simp) _ rfl)
  have HF := hide (show Fr w v (fun b => b = T) by rw [← hW]; exact (Fr.refl _ _).alloc _)
  have HP := hide (show Tp v T A n c l a by rw [← hW]; exact hP.alloc _)
  clear hW hP
  go_upto_region 2 with (go_at_call 11; refine (twom_any _ T A n c l a HP.out (by omega)).mono ?_; rintro e w1 ⟨f, g, r, s, rfl, hof, hog, hcr, hcs, hrs, hp, hf⟩; have HOF := hide hof; have HOG := hide hog; have HCR := hide hcr; have HCS := hide hcs; have HRS := hide hrs; have HP1 := hide hp; have HF1 := hide (HF.out.trans hf); have HR1 := hide (HR.out.one hf (by omega)); clear hof hog hcr hcs hrs hp hf)
  generalize hW : World.alloc (World.alloc w1 _) _ = v2
  have hz1 := HF1.out.size
  have hr1 := HR1.out.sz
  have HB1 := hide (show Bq v2 w1.heap.size f by rw [← hW]; exact (Bq.mk0 26 f rfl).below ((Below.refl _ _).alloc (Nat.le_refl _) _))
  have HB2 := hide (show Bq v2 (w1.heap.size + 1) g by rw [← hW]; exact Bq.mk0 26 g (by simp))
  have HR2 := hide (show Cb v2 w.heap.size [.slice none 0 0, .slice none 0 0, .slice none 0 0, .slice none 0 0] by rw [← hW]; exact (HR1.out.alloc _).alloc _)
  have HF2 := hide (show Fr w v2 (fun b => b = T) by rw [← hW]; exact (HF1.out.alloc _).alloc _)
  have HP2 := hide (show Tp v2 T A n c l (a + 3) by rw [← hW]; exact (HP1.out.alloc _).alloc _)
  have HOF2 := hide (show Fo v2 f (some r) by rw [← hW]; exact (HOF.out.alloc _).alloc _)
  have HOG2 := hide (show Fo v2 g (some s) by rw [← hW]; exact (HOG.out.alloc _).alloc _)
  clear hW
  obtain ⟨x0, x1, -⟩ := HB1.out
  obtain ⟨y0, y1, -⟩ := HB2.out
  have z0 := HR2.out.cell 0 _ rfl
  have z1 := HR2.out.cell 1 _ rfl
  have z2 := HR2.out.cell 2 _ rfl
  have z3 := HR2.out.cell 3 _ rfl
  have zf := HR2.out.fz
  go_wp2_with fail
  have hq := fr_four (w := v2) (g := w.heap.size) (.slice f.A f.n f.c) (.slice f.B f.m f.d) (.slice g.A g.n g.c) (.slice g.B g.m g.d)
  refine bodyPost_ret (v := .agg #[.slice f.A f.n f.c, .slice f.B f.m f.d, .slice g.A g.n g.c, .slice g.B g.m g.d]) (by simp [results, Try.results28, go_sem, *]) rfl ⟨f, g, r, s, rfl, HOF2.out.one hq HR2.out.nb, HOG2.out.one hq HR2.out.nb, HCR.out, HCS.out, HRS.out, HP0.out.one HP2.out (Nat.le_refl _) hq, (((HF2.out.setCell (.inl (Nat.le_refl _)) _).setCell (.inl (Nat.le_refl _)) _).setCell (.inl (Nat.le_refl _)) _).setCell (.inl (Nat.le_refl _)) _⟩
end Go.Proofs.Ytclflfglhbkfkaa
