/- Contracts of the functions that these laws reach: part 25: What came in, whatever it is, reads as plain values: rows, fractions. -/
import Derived.Test.YtnofljgmkdommaaG16
import Derived.Test.YtnofljgmkdommaaG8
import Derived.DataReads
import Derived.WalkKit
import Derived.ProofKit
import Derived.OpenShut
import Derived.ChangeOld
import Derived.ChangeArms
import Derived.WideShapes
import Derived.Deep.Slices
set_option linter.unusedVariables false
set_option linter.unusedSimpArgs false

/- What came in, whatever it is, reads as plain values: rows, fractions. -/
namespace Go.Proofs.Ytnofljgmkdommaa
open Go.RowKit Go.WideShapes Go.Deep

theorem jcells36 : Try.prog.cellsOf 36 = 2 := by kernel_rfl
theorem jcells34 : Try.prog.cellsOf 34 = 1 := by kernel_rfl
theorem jcells71 : Try.prog.cellsOf 71 = 1 := by kernel_rfl
theorem jcells3 : Try.prog.cellsOf 3 = 1 := by kernel_rfl
theorem jcells4 : Try.prog.cellsOf 4 = 1 := by kernel_rfl

section
variable {H : Type} {enc : TypeId × Value → H} {w : World} {base : Nat} {spare : Nat → Bool} {held : Bool}

theorem jfld {fs : Array Field} {n : Nat} {cs : List Value} {xs : List (DataW H × List MemPlace)} (hf : ∀ (i : Nat) (f : Field), fs[i]? = some f → DataW.trod enc Try.prog w base spare held n f.type ((cs.drop f.offset).take (Try.prog.cellsOf f.type)) = xs[i]?)
    (i : Nat) (t : TypeId) (o k : Nat) (ht : (fs[i]?).map (fun f => (f.type, f.offset)) = some (t, o)) (hk : Try.prog.cellsOf t = k) (hi : i < xs.length) : ∃ y, DataW.trod enc Try.prog w base spare held n t ((cs.drop o).take k) = some y := by
  cases hfi : fs[i]? with
  | none => rw [hfi] at ht; simp at ht
  | some f =>
    rw [hfi] at ht
    simp at ht
    obtain ⟨rfl, rfl⟩ := ht
    have := hf i f hfi
    rw [hk] at this
    exact ⟨_, this.trans (List.getElem?_eq_getElem hi)⟩
/-- A row whose elements read as f's. -/
theorem came_row {α : Type} (f : α → List Value) (s : Nat) (p : α → Prop) (x0 : α) {t e : TypeId} (ht : Try.prog.underlying t = some (.slice e)) (hc : Try.prog.cellsOf e = s) (hs : 0 < s) (hf : ∀ a, (f a).length = s)
    (hel : ∀ (n : Nat) (cs : List Value) (x : DataW H × List MemPlace), DataW.trod enc Try.prog w base spare held n e cs = some x → ∃ a, cs = f a ∧ p a)
    {fuel : Nat} {cs : List Value} {x : DataW H × List MemPlace} (h : DataW.trod enc Try.prog w base spare held fuel t cs = some x) :
    ∃ (A : Option Addr) (n c : Nat) (l : List α), cs = [.slice A n c] ∧ l.length = n ∧ n ≤ c ∧ c ≤ maxLen ∧ (∀ a ∈ l, p a) ∧ Rs w none s f A l := by
  rcases open_slice ht h with ⟨h2, -⟩ | ⟨a, len, cap, mm, nn, D, Pl, h2, -, h4, h5, h6, -, h8⟩
  · exact ⟨none, 0, 0, [], h2, rfl, Nat.le_refl _, Nat.zero_le _, by simp, Rs.nil⟩
  · have hle : len ≤ mm := by rw [h6]; split <;> omega
    rw [hc] at h8
    have tk : ∀ i, i < len → ∃ t : α, (∀ j u, (f t)[j]? = some u → w.cell? ((a.add (i * s)).add j) = some u) ∧ p t := by
      intro i hi
      obtain ⟨cs', h9, h10⟩ := h8 i (by omega)
      obtain ⟨t, rfl, hp⟩ := hel _ _ _ h10
      obtain ⟨-, -, h11⟩ := World.cells?_some h9
      exact ⟨t, fun j u hu => (h11 j (by have := (List.getElem?_eq_some_iff.1 hu).1; rwa [hf] at this)).trans hu, hp⟩
    let g : Nat → α := fun i => if hi : i < len then Classical.choose (tk i hi) else x0
    have hgp : ∀ i, i < len → (∀ j u, (f (g i))[j]? = some u → w.cell? ((a.add (i * s)).add j) = some u) ∧ p (g i) := by
      intro i hi
      have := Classical.choose_spec (tk i hi)
      simpa [g, hi] using this
    refine ⟨some a, len, cap, (List.range len).map g, h2, by simp, h4, h5, ?_, fun hne => ?_⟩
    · intro b hb
      obtain ⟨i, hi, rfl⟩ := List.mem_map.1 hb
      exact (hgp i (by simpa using hi)).2
    have hpos : 0 < len := by
      rcases Nat.eq_zero_or_pos len with h | h
      · subst h; simp at hne
      · exact h
    obtain ⟨b, o, sp⟩ := a
    have hlen0 := hf (g 0)
    have q0 := (hgp 0 hpos).1 0 _ (List.getElem?_eq_getElem (show 0 < (f (g 0)).length by omega))
    have hsp : sp = none := by
      cases sp with
      | none => rfl
      | some s =>
        simp [Addr.add] at q0
        simp only [World.cell?] at q0
        split at q0 <;> simp at q0
    subst hsp
    have hb : b < w.heap.size := by
      have := World.block_lt_of_cell? w _ q0
      simpa [Addr.add] using this
    refine ⟨b, o, rfl, by simp, hb, fun k z hk j u hu => ?_⟩
    simp only [List.getElem?_map] at hk
    rcases Nat.lt_or_ge k len with hkl | hkl
    · rw [List.getElem?_range hkl] at hk
      simp at hk
      subst hk
      have := (hgp k hkl).1 j u hu
      rwa [Addr.add_lit, Addr.add_lit] at this
    · rw [List.getElem?_eq_none (by simpa using hkl)] at hk
      simp at hk
theorem came_intsI {fuel : Nat} {cs : List Value} {x : DataW H × List MemPlace} (h : DataW.trod enc Try.prog w base spare held fuel 42 cs = some x) :
    ∃ (A : Option Addr) (n c : Nat) (l : List Int), cs = [.slice A n c] ∧ l.length = n ∧ n ≤ c ∧ c ≤ maxLen ∧ Rs w none 1 iv A l := by
  obtain ⟨A, n, c, l, h1, h2, h3, h4, -, h5⟩ := came_row iv 1 (fun _ => True) 0 Try.underlying42 jcells3 (by omega) (fun _ => rfl) (fun n cs x h => by
    obtain ⟨i, hi, -⟩ := DataW.trod_int Try.underlying3 h
    exact ⟨i, hi, trivial⟩) h
  exact ⟨A, n, c, l, h1, h2, h3, h4, h5⟩
theorem came_bools {fuel : Nat} {cs : List Value} {x : DataW H × List MemPlace} (h : DataW.trod enc Try.prog w base spare held fuel 27 cs = some x) :
    ∃ (A : Option Addr) (n c : Nat) (l : List Bool), cs = [.slice A n c] ∧ l.length = n ∧ n ≤ c ∧ c ≤ maxLen ∧ Rs w none 1 bv A l := by
  obtain ⟨A, n, c, l, h1, h2, h3, h4, -, h5⟩ := came_row bv 1 (fun _ => True) false Try.underlying27 jcells4 (by omega) (fun _ => rfl) (fun n cs x h => by
    obtain ⟨i, hi, -⟩ := DataW.trod_bool Try.underlying4 h
    exact ⟨i, hi, trivial⟩) h
  exact ⟨A, n, c, l, h1, h2, h3, h4, h5⟩
theorem came_nat {fuel : Nat} {cs : List Value} {x : DataW H × List MemPlace} (h : DataW.trod enc Try.prog w base spare held fuel 34 cs = some x) :
    ∃ (A : Option Addr) (n c : Nat) (l : List Nat), cs = [.slice A n c] ∧ n ≤ c ∧ c ≤ maxLen ∧ Ul w none A n l := by
  obtain ⟨A, n, c, l, h1, h2, h3, h4, h6, h5⟩ := came_row uv 1 (fun x => x < 4294967296) 0 Try.underlying34 jcells71 (by omega) (fun _ => rfl) (fun n cs x h => by
    obtain ⟨i, hi, -, hw⟩ := DataW.trod_int Try.underlying71 h
    have hw' : -1 < i ∧ i < 4294967296 := by
      have h1 : IntKind.u32.min = 0 := by rfl
      have h2 : IntKind.u32.max = 4294967295 := by rfl
      simp [Lit.wf] at hw
      omega
    refine ⟨i.toNat, ?_, ?_⟩
    · rw [hi]; unfold uv; rw [Int.toNat_of_nonneg (by omega)]
    · omega) h
  exact ⟨A, n, c, l, h1, h3, h4, ⟨h5, h2, fun x hx => h6 x hx⟩⟩
/-- A fraction that came in. -/
structure CameF (w : World) (p : Fa) (l k : List Nat) : Prop where
  u : Ul w none p.A p.n l
  v : Ul w none p.B p.m k
  c : p.n ≤ p.c
  d : p.m ≤ p.d
  n : p.n ≤ 9223372036854775807
  m : p.m ≤ 9223372036854775807
set_option maxRecDepth 20000 in
theorem came_frac {fuel : Nat} {cs : List Value} {x : DataW H × List MemPlace} (h : DataW.trod enc Try.prog w base spare held fuel 36 cs = some x) :
    ∃ (p : Fa) (l k : List Nat), cs = [.slice p.A p.n p.c, .slice p.B p.m p.d] ∧ CameF w p l k := by
  obtain ⟨xs, n, _, -, hc, hl, hf⟩ := DataW.trod_struct Try.underlying36 h
  rw [jcells36] at hc
  have hl' : xs.length = 2 := hl
  match cs, hc with
  | [a0, a1], _ =>
    obtain ⟨y0, h0⟩ := jfld hf 0 34 0 1 rfl jcells34 (by omega)
    obtain ⟨y1, h1⟩ := jfld hf 1 34 1 1 rfl jcells34 (by omega)
    obtain ⟨A, n1, c1, l1, e1, g1, g2, g3⟩ := came_nat h0
    obtain ⟨B, n2, c2, l2, e2, k1, k2, k3⟩ := came_nat h1
    simp at e1 e2
    subst e1 e2
    simp only [maxLen] at g2 k2
    exact ⟨⟨A, n1, c1, B, n2, c2⟩, l1, l2, rfl, ⟨g3, k3, g1, k1, by show n1 ≤ _; omega, by show n2 ≤ _; omega⟩⟩
end
end Go.Proofs.Ytnofljgmkdommaa
