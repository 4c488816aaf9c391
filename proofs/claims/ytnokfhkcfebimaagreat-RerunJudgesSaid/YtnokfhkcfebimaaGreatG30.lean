/- Contracts of the functions that these laws reach: part 30: What came in, whatever it is, reads as plain values: rows, fractions; Contracts: noise.Choose; Contracts: the reference's Choose; Contract: the reference's Exactly. -/
import Derived.Test.YtnokfhkcfebimaaGreatG23
import Derived.Test.YtnokfhkcfebimaaGreatG10
import Derived.DataReads
import Derived.WalkKit
import Derived.ProofKit
import Derived.OpenShut
import Derived.ChangeOld
import Derived.ChangeArms
import Derived.WideShapes
import Derived.Deep.Slices
import Derived.Test.YtnokfhkcfebimaaGreatG19
import Derived.Test.YtnokfhkcfebimaaGreatG3
set_option linter.unusedVariables false
set_option linter.unusedSimpArgs false

/- What came in, whatever it is, reads as plain values: rows, fractions. -/
namespace Go.Proofs.YtnokfhkcfebimaaGreat
open Go.RowKit Go.WideShapes Go.Deep

theorem jcells26 : Tryz.prog.cellsOf 26 = 2 := by kernel_rfl
theorem jcells24 : Tryz.prog.cellsOf 24 = 1 := by kernel_rfl
theorem jcells86 : Tryz.prog.cellsOf 86 = 1 := by kernel_rfl
theorem jcells3 : Tryz.prog.cellsOf 3 = 1 := by kernel_rfl
theorem jcells4 : Tryz.prog.cellsOf 4 = 1 := by kernel_rfl

section
variable {H : Type} {enc : TypeId × Value → H} {w : World} {base : Nat} {spare : Nat → Bool} {held : Bool}

theorem jfld {fs : Array Field} {n : Nat} {cs : List Value} {xs : List (DataW H × List MemPlace)} (hf : ∀ (i : Nat) (f : Field), fs[i]? = some f → DataW.trod enc Tryz.prog w base spare held n f.type ((cs.drop f.offset).take (Tryz.prog.cellsOf f.type)) = xs[i]?)
    (i : Nat) (t : TypeId) (o k : Nat) (ht : (fs[i]?).map (fun f => (f.type, f.offset)) = some (t, o)) (hk : Tryz.prog.cellsOf t = k) (hi : i < xs.length) : ∃ y, DataW.trod enc Tryz.prog w base spare held n t ((cs.drop o).take k) = some y := by
  cases hfi : fs[i]? with
  | none => rw [hfi] at ht; simp at ht
  | some f =>
    rw [hfi] at ht
    simp at ht
    obtain ⟨rfl, rfl⟩ := ht
    have := hf i f hfi
    rw [hk] at this
    exact ⟨_, this.trans (List.getElem?_eq_getElem hi)⟩
/-- A row whose elements read as f's. -/
theorem came_row {α : Type} (f : α → List Value) (s : Nat) (p : α → Prop) (x0 : α) {t e : TypeId} (ht : Tryz.prog.underlying t = some (.slice e)) (hc : Tryz.prog.cellsOf e = s) (hs : 0 < s) (hf : ∀ a, (f a).length = s)
    (hel : ∀ (n : Nat) (cs : List Value) (x : DataW H × List MemPlace), DataW.trod enc Tryz.prog w base spare held n e cs = some x → ∃ a, cs = f a ∧ p a)
    {fuel : Nat} {cs : List Value} {x : DataW H × List MemPlace} (h : DataW.trod enc Tryz.prog w base spare held fuel t cs = some x) :
    ∃ (A : Option Addr) (n c : Nat) (l : List α), cs = [.slice A n c] ∧ l.length = n ∧ n ≤ c ∧ c ≤ maxLen ∧ (∀ a ∈ l, p a) ∧ Rs w none s f A l := by
  rcases open_slice ht h with ⟨h2, -⟩ | ⟨a, len, cap, mm, nn, D, Pl, h2, -, h4, h5, h6, -, h8⟩
  · exact ⟨none, 0, 0, [], h2, rfl, Nat.le_refl _, Nat.zero_le _, by simp, Rs.nil⟩
  · have hle : len ≤ mm := by rw [h6]; split <;> omega
    rw [hc] at h8
    have tk : ∀ i, i < len → ∃ t : α, (∀ j u, (f t)[j]? = some u → w.cell? ((a.add (i * s)).add j) = some u) ∧ p t := by
      intro i hi
      obtain ⟨cs', h9, h10⟩ := h8 i (by omega)
      obtain ⟨t, rfl, hp⟩ := hel _ _ _ h10
      obtain ⟨-, -, h11⟩ := World.cells?_some h9
      exact ⟨t, fun j u hu => (h11 j (by have := (List.getElem?_eq_some_iff.1 hu).1; rwa [hf] at this)).trans hu, hp⟩
    let g : Nat → α := fun i => if hi : i < len then Classical.choose (tk i hi) else x0
    have hgp : ∀ i, i < len → (∀ j u, (f (g i))[j]? = some u → w.cell? ((a.add (i * s)).add j) = some u) ∧ p (g i) := by
      intro i hi
      have := Classical.choose_spec (tk i hi)
      simpa [g, hi] using this
    refine ⟨some a, len, cap, (List.range len).map g, h2, by simp, h4, h5, ?_, fun hne => ?_⟩
    · intro b hb
      obtain ⟨i, hi, rfl⟩ := List.mem_map.1 hb
      exact (hgp i (by simpa using hi)).2
    have hpos : 0 < len := by
      rcases Nat.eq_zero_or_pos len with h | h
      · subst h; simp at hne
      · exact h
    obtain ⟨b, o, sp⟩ := a
    have hlen0 := hf (g 0)
    have q0 := (hgp 0 hpos).1 0 _ (List.getElem?_eq_getElem (show 0 < (f (g 0)).length by omega))
    have hsp : sp = none := by
      cases sp with
      | none => rfl
      | some s =>
        simp [Addr.add] at q0
        simp only [World.cell?] at q0
        split at q0 <;> simp at q0
    subst hsp
    have hb : b < w.heap.size := by
      have := World.block_lt_of_cell? w _ q0
      simpa [Addr.add] using this
    refine ⟨b, o, rfl, by simp, hb, fun k z hk j u hu => ?_⟩
    simp only [List.getElem?_map] at hk
    rcases Nat.lt_or_ge k len with hkl | hkl
    · rw [List.getElem?_range hkl] at hk
      simp at hk
      subst hk
      have := (hgp k hkl).1 j u hu
      rwa [Addr.add_lit, Addr.add_lit] at this
    · rw [List.getElem?_eq_none (by simpa using hkl)] at hk
      simp at hk
theorem came_intsI {fuel : Nat} {cs : List Value} {x : DataW H × List MemPlace} (h : DataW.trod enc Tryz.prog w base spare held fuel 22 cs = some x) :
    ∃ (A : Option Addr) (n c : Nat) (l : List Int), cs = [.slice A n c] ∧ l.length = n ∧ n ≤ c ∧ c ≤ maxLen ∧ Rs w none 1 iv A l := by
  obtain ⟨A, n, c, l, h1, h2, h3, h4, -, h5⟩ := came_row iv 1 (fun _ => True) 0 Tryz.underlying22 jcells3 (by omega) (fun _ => rfl) (fun n cs x h => by
    obtain ⟨i, hi, -⟩ := DataW.trod_int Tryz.underlying3 h
    exact ⟨i, hi, trivial⟩) h
  exact ⟨A, n, c, l, h1, h2, h3, h4, h5⟩
theorem came_nat {fuel : Nat} {cs : List Value} {x : DataW H × List MemPlace} (h : DataW.trod enc Tryz.prog w base spare held fuel 24 cs = some x) :
    ∃ (A : Option Addr) (n c : Nat) (l : List Nat), cs = [.slice A n c] ∧ n ≤ c ∧ c ≤ maxLen ∧ Ul w none A n l := by
  obtain ⟨A, n, c, l, h1, h2, h3, h4, h6, h5⟩ := came_row uv 1 (fun x => x < 4294967296) 0 Tryz.underlying24 jcells86 (by omega) (fun _ => rfl) (fun n cs x h => by
    obtain ⟨i, hi, -, hw⟩ := DataW.trod_int Tryz.underlying86 h
    have hw' : -1 < i ∧ i < 4294967296 := by
      have h1 : IntKind.u32.min = 0 := by rfl
      have h2 : IntKind.u32.max = 4294967295 := by rfl
      simp [Lit.wf] at hw
      omega
    refine ⟨i.toNat, ?_, ?_⟩
    · rw [hi]; unfold uv; rw [Int.toNat_of_nonneg (by omega)]
    · omega) h
  exact ⟨A, n, c, l, h1, h3, h4, ⟨h5, h2, fun x hx => h6 x hx⟩⟩
/-- A fraction that came in. -/
structure CameF (w : World) (p : Fa) (l k : List Nat) : Prop where
  u : Ul w none p.A p.n l
  v : Ul w none p.B p.m k
  c : p.n ≤ p.c
  d : p.m ≤ p.d
  n : p.n ≤ 9223372036854775807
  m : p.m ≤ 9223372036854775807
set_option maxRecDepth 20000 in
theorem came_frac {fuel : Nat} {cs : List Value} {x : DataW H × List MemPlace} (h : DataW.trod enc Tryz.prog w base spare held fuel 26 cs = some x) :
    ∃ (p : Fa) (l k : List Nat), cs = [.slice p.A p.n p.c, .slice p.B p.m p.d] ∧ CameF w p l k := by
  obtain ⟨xs, n, _, -, hc, hl, hf⟩ := DataW.trod_struct Tryz.underlying26 h
  rw [jcells26] at hc
  have hl' : xs.length = 2 := hl
  match cs, hc with
  | [a0, a1], _ =>
    obtain ⟨y0, h0⟩ := jfld hf 0 24 0 1 rfl jcells24 (by omega)
    obtain ⟨y1, h1⟩ := jfld hf 1 24 1 1 rfl jcells24 (by omega)
    obtain ⟨A, n1, c1, l1, e1, g1, g2, g3⟩ := came_nat h0
    obtain ⟨B, n2, c2, l2, e2, k1, k2, k3⟩ := came_nat h1
    simp at e1 e2
    subst e1 e2
    simp only [maxLen] at g2 k2
    exact ⟨⟨A, n1, c1, B, n2, c2⟩, l1, l2, rfl, ⟨g3, k3, g1, k1, by show n1 ≤ _; omega, by show n2 ≤ _; omega⟩⟩
end
end Go.Proofs.YtnokfhkcfebimaaGreat

/- Contracts: noise.Choose. -/
namespace Go.Proofs.YtnokfhkcfebimaaGreat
open Go.RowKit

def chooseL (n k : Int) : List Nat := if n < 0 ∨ 32 < n then [] else if k < 0 ∨ n < k then [] else lm (ch n.toNat k.toNat)
def chooseE (n : Int) : Int := if n < 0 ∨ 32 < n then 3 else 0
theorem nof_zero (w : World) : Calls Tryz.prog 75 #[.int .u64 0] w fun e w' => ∃ A m c, e = .returned (.slice A m c) ∧ m ≤ c ∧ m ≤ 2 ∧ Ul w' none A m (lm 0) ∧ Below w.heap.size w w' := nof_any w 0 (by omega)
theorem index_row {N K : Nat} (hK : K < 33) (W : World) : (Instr.index 129 (.agg (rowCells N).toArray) (.int .i64 (K : Int))).run Tryz.prog W = .ok (.int .u64 (ch N K : Int)) W := by
  have h1 : (underlying 129).run Tryz.prog W = .ok (.array 33 99) W := run_underlying Tryz.underlying129 W
  have h2 : (isAgg 99).run Tryz.prog W = .ok false W := by
    unfold isAgg
    rw [Sem.run_bind, run_underlying Tryz.underlying99]
    rfl
  have h3 : (sizeOf 99).run Tryz.prog W = .ok 1 W := by
    unfold sizeOf typeInfo
    have hi : (Tryz.prog.info? 99).map (·.size) = some 1 := by kernel_rfl
    cases h : Tryz.prog.info? 99 with
    | none => rw [h] at hi; simp at hi
    | some i =>
      rw [h] at hi
      simp at hi
      simp [go_sem, h, hi]
  have hget : (rowCells N)[K]? = some (.int .u64 (ch N K : Int)) := rowCells_get hK
  have hK2 : (K : Int) < 33 := by omega
  simp [Instr.index, asIntOf, part, Sem.run_bind, Sem.run_pure, Result.andThen_ok, h1, h2, h3, hget, hK2]
  intro h
  omega
end Go.Proofs.YtnokfhkcfebimaaGreat

/- Contracts: the reference's Choose. -/
namespace Go.Proofs.YtnokfhkcfebimaaGreat
open Go.RowKit

theorem ch_one : ∀ n, ch n 1 = n
  | 0 => rfl
  | n + 1 => by show ch n 0 + ch n 1 = _; rw [ch_zero, ch_one n]; omega
theorem ch_mul : ∀ n k : Nat, ch (n + 1) (k + 1) * (k + 1) = ch n k * (n + 1)
  | 0, 0 => rfl
  | 0, k + 1 => by
    show (ch 0 (k + 1) + ch 0 (k + 2)) * (k + 2) = ch 0 (k + 1) * 1
    show (0 + 0) * _ = 0 * 1
    omega
  | n + 1, 0 => by rw [ch_one, ch_zero]; omega
  | n + 1, k + 1 => by
    have h1 := ch_mul n k
    have h2 := ch_mul n (k + 1)
    show (ch (n + 1) (k + 1) + ch (n + 1) (k + 2)) * (k + 1 + 1) = (ch n k + ch n (k + 1)) * (n + 1 + 1)
    have e : ch (n + 1) (k + 1) = ch n k + ch n (k + 1) := rfl
    rw [Nat.add_mul, h2]
    rw [Nat.mul_add _ (k + 1) 1, h1, e, Nat.mul_one]
    rw [show n + 1 + 1 = (n + 1) + 1 from rfl, Nat.mul_add _ (n + 1) 1, Nat.mul_one, Nat.add_mul]
    omega
theorem ch_step {d i : Nat} : ch (d + i) i * (d + (i + 1)) / (i + 1) = ch (d + (i + 1)) (i + 1) := by
  have h := ch_mul (d + i) i
  rw [show d + (i + 1) = d + i + 1 by omega, ← h]
  exact Nat.mul_div_cancel _ (by omega)
theorem r1of_zero (w : World) : Calls Tryz.prog 86 #[.int .u64 0] w fun e w' => ∃ A m c, e = .returned (.slice A m c) ∧ m ≤ c ∧ m ≤ 2 ∧ Ul w' none A m (lm 0) ∧ Below w.heap.size w w' := r1of_any w 0 (by omega)
set_option maxRecDepth 100000 in
set_option maxHeartbeats 4000000 in
theorem rchoose_any (w : World) (n k : Int) :
    Calls Tryz.prog 165 #[.int .i64 n, .int .i64 k] w fun e w' => ∃ A m c, e = .returned (.tuple #[.slice A m c, .int .i64 (chooseE n)]) ∧ m ≤ c ∧ m ≤ 2 ∧ Ul w' none A m (chooseL n k) ∧ Below w.heap.size w w' := by
  by_cases h0 : n < 0
  · have e1 := hide (show chooseE n = 3 from if_pos (.inl h0))
    have e2 := hide (show chooseL n k = [] from if_pos (.inl h0))
    go_enter Tryz.func165, Tryz.ntmps165
    go_wp2_with fail
    go_ret2
    exact ⟨none, 0, 0, by rw [e1.out]; rfl, by omega, by omega, by rw [e2.out]; exact Ul.nil, Below.refl _ _⟩
  · by_cases h1 : 32 < n
    · have e1 := hide (show chooseE n = 3 from if_pos (.inr h1))
      have e2 := hide (show chooseL n k = [] from if_pos (.inr h1))
      have d0 : decide (n < 0) = false := decide_eq_false h0
      have d1 : decide (n > 32) = true := decide_eq_true h1
      clear h0 h1
      go_enter Tryz.func165, Tryz.ntmps165
      go_wp2_with fail
      go_ret2
      exact ⟨none, 0, 0, by rw [e1.out]; rfl, by omega, by omega, by rw [e2.out]; exact Ul.nil, Below.refl _ _⟩
    · have e1 := hide (show chooseE n = 0 from if_neg (by omega))
      have d0 : decide (n < 0) = false := decide_eq_false h0
      have d1 : decide (n > 32) = false := decide_eq_false h1
      by_cases hk : k < 0 ∨ n < k
      · have e2 := hide (show chooseL n k = lm 0 by unfold chooseL; rw [if_neg (by omega), if_pos hk, lm_zero])
        by_cases hk0 : k < 0
        · have d2 : decide (k < 0) = true := decide_eq_true hk0
          clear h0 h1 hk hk0
          go_enter Tryz.func165, Tryz.ntmps165
          go_wp2_with (go_at_call 86; (with_reducible refine (r1of_zero _).mono ?_); rintro e w1 ⟨A, m, c, rfl, hmc, hm2, hu, hb⟩; have HU := hide hu; have HB := hide hb; clear hu hb)
          go_ret2
          exact ⟨A, m, c, by rw [e1.out]; rfl, hmc, hm2, by rw [e2.out]; exact HU.out, HB.out⟩
        · have d2 : decide (k < 0) = false := decide_eq_false hk0
          have d3 : decide (k > n) = true := decide_eq_true (by omega)
          clear h0 h1 hk hk0
          go_enter Tryz.func165, Tryz.ntmps165
          go_wp2_with (go_at_call 86; (with_reducible refine (r1of_zero _).mono ?_); rintro e w1 ⟨A, m, c, rfl, hmc, hm2, hu, hb⟩; have HU := hide hu; have HB := hide hb; clear hu hb)
          go_ret2
          exact ⟨A, m, c, by rw [e1.out]; rfl, hmc, hm2, by rw [e2.out]; exact HU.out, HB.out⟩
      · obtain ⟨N, rfl⟩ : ∃ N : Nat, n = N := ⟨n.toNat, by omega⟩
        obtain ⟨K, rfl⟩ : ∃ K : Nat, k = K := ⟨k.toNat, by omega⟩
        obtain ⟨D, rfl⟩ : ∃ D, N = D + K := ⟨N - K, by omega⟩
        have e2 := hide (show chooseL ((D + K : Nat) : Int) (K : Int) = lm (ch (D + K) K) by unfold chooseL; rw [if_neg (by omega), if_neg hk]; rfl)
        have d2 : decide ((K : Int) < 0) = false := decide_eq_false (by omega)
        have hN : D + K ≤ 32 := by omega
        have HDK := hide (show (((D + K : Nat) : Int)) = (D : Int) + (K : Int) by omega)
        obtain ⟨NN, hNN⟩ : ∃ NN : Int, NN = ((D + K : Nat) : Int) := ⟨_, rfl⟩
        have d3 : decide ((K : Int) > NN) = false := decide_eq_false (by omega)
        have hsub : NN - (K : Int) = (D : Int) := by omega
        have hn0 : ¬ NN < 0 := by omega
        have hn32 : NN ≤ 32 := by omega
        have hnk : (K : Int) ≤ NN := by omega
        rw [← hNN] at e1 e2 d0 d1 ⊢
        clear h0 h1 hk hNN HDK
        go_enter Tryz.func165, Tryz.ntmps165
        go_wp2_with fail
        go_loopw [6, 7] (fun c i W => ∃ j : Nat, c = .int .u64 (ch (D + j) j : Int) ∧ i = .int .i64 ((j : Int) + 1) ∧ j ≤ K ∧ W = w) (fun _ i _ => K + 1 - (intOf i).toNat)
        case atStart => exact ⟨0, by rw [ch_zero]; rfl, rfl, by omega, rfl⟩
        case round =>
          obtain ⟨j, rfl, rfl, hj, rfl⟩ := hrel
          have hch : ch (D + j) j ≤ 4294967296 := by
            have h1 := ch_le (D + j) j
            have h2 : 2 ^ (D + j) ≤ 2 ^ 32 := Nat.pow_le_pow_right (by omega) (by omega)
            omega
          by_cases hjK : j = K
          · subst hjK
            have HCH := hide (show ch (D + j) j < 18446744073709551616 by omega)
            go_wp2_with (go_at_call 86; (with_reducible refine (r1of_any _ (ch (D + j) j) HCH.out).mono ?_); rintro e w2 ⟨A, m, c, rfl, hmc, hm2, hu, hb⟩; have HU := hide hu; have HB := hide hb; clear hu hb)
            go_ret2
            exact ⟨A, m, c, by rw [e1.out]; rfl, hmc, hm2, by rw [e2.out]; exact HU.out, HB.out⟩
          · have hlt : (j : Int) + 1 ≤ (K : Int) := by omega
            have HST := hide (ch_step (d := D) (i := j))
            obtain ⟨q, hq⟩ : ∃ q, q = ch (D + j) j := ⟨_, rfl⟩
            rw [← hq] at HST hch ⊢
            clear hq
            have hd : D + (j + 1) ≤ 32 := by omega
            have w1 : IntKind.u64.wrap ((D : Int) + ((j : Int) + 1)) = ((D + (j + 1) : Nat) : Int) := by
              show ((D : Int) + ((j : Int) + 1)) % 18446744073709551616 = _
              omega
            have hm : q * (D + (j + 1)) ≤ 4294967296 * 32 := Nat.mul_le_mul hch hd
            have hv : IntKind.u64.wrap ((IntKind.u64.wrap ((q : Int) * ((D : Int) + ((j : Int) + 1)))).tdiv ((j : Int) + 1)) = ((ch (D + (j + 1)) (j + 1) : Nat) : Int) := by
              have h0 := HST.out
              obtain ⟨p, hp⟩ : ∃ p, p = q * (D + (j + 1)) := ⟨_, rfl⟩
              have a1 : (q : Int) * ((D : Int) + ((j : Int) + 1)) = (p : Int) := by rw [hp]; push_cast; rfl
              rw [← hp] at hm h0
              have a2 : IntKind.u64.wrap (p : Int) = (p : Int) := by
                show (p : Int) % 18446744073709551616 = _
                omega
              obtain ⟨s, hs⟩ : ∃ s, s = p / (j + 1) := ⟨_, rfl⟩
              have a3 : ((p : Int)).tdiv ((j : Int) + 1) = (s : Int) := by rw [hs]; rfl
              have a4 : s ≤ p := by rw [hs]; exact Nat.div_le_self _ _
              rw [a1, a2, a3, ← h0, ← hs]
              show (s : Int) % 18446744073709551616 = _
              omega
            have HV := hide hv
            clear hv
            go_wp2_with fail
            first
              | (go_roundw
                 case rel => exact ⟨j + 1, by rw [HV.out], by go_num, by omega, by first | rfl | trivial⟩
                 case measure => simp [intOf]; omega)
              | exact ⟨⟨j + 1, by rw [HV.out], by go_num, by omega, by first | rfl | trivial⟩, by simp [intOf]; omega⟩
end Go.Proofs.YtnokfhkcfebimaaGreat

/- Contract: the reference's Exactly. -/
namespace Go.Proofs.YtnokfhkcfebimaaGreat
open Go.RowKit

theorem sm_one (r : Rat) (n k : Nat) : ∀ m, sm r n (fun j => decide ((j : Int) = (k : Int))) m = if k < m then tm r n k else 0
  | 0 => by rw [if_neg (by omega)]; rfl
  | m + 1 => by
    show sm r n _ m + (if decide ((m : Int) = (k : Int)) = true then tm r n m else 0) = _
    rw [sm_one r n k m]
    have add0 : ∀ x : Rat, x + 0 = x := fun x => by grind
    have zadd : ∀ x : Rat, 0 + x = x := fun x => by grind
    by_cases h : k < m
    · have e : decide ((m : Int) = (k : Int)) = false := decide_eq_false (by omega)
      rw [e, if_pos h, if_pos (show k < m + 1 by omega), if_neg (by simp), add0]
    · by_cases h2 : k = m
      · subst h2
        have e : decide ((k : Int) = (k : Int)) = true := decide_eq_true rfl
        rw [e, if_neg h, if_pos (show k < k + 1 by omega), if_pos rfl, zadd]
      · have e : decide ((m : Int) = (k : Int)) = false := decide_eq_false (by omega)
        rw [e, if_neg h, if_neg (show ¬ k < m + 1 by omega), if_neg (by simp), add0]
theorem sm_none (r : Rat) (n : Nat) (m : Int) (hm : m < 0) : ∀ j, sm r n (fun j => decide ((j : Int) = m)) j = 0
  | 0 => rfl
  | j + 1 => by
    show sm r n _ j + (if decide ((j : Int) = m) = true then tm r n j else 0) = _
    rw [sm_none r n m hm j, if_neg (by simp; omega)]
    grind
theorem tot_out (r : Rat) (n : Nat) (m : Int) (h : m < 0 ∨ (n : Int) < m) : tot r n (fun j => decide ((j : Int) = m)) = 0 := by
  by_cases h0 : m < 0
  · exact sm_none r n m h0 _
  · obtain ⟨k, rfl⟩ : ∃ k : Nat, m = k := ⟨m.toNat, by omega⟩
    unfold tot
    rw [sm_one, if_neg (show ¬ k < n + 1 by omega)]
theorem tot_one (r : Rat) (n k : Nat) (h : k ≤ n) : tot r n (fun j => decide ((j : Int) = (k : Int))) = tm r n k := by
  unfold tot
  rw [sm_one, if_pos (show k < n + 1 by omega)]
theorem r2pow_ok (w : World) (a : Fa) (r : Rat) (k : Nat) (ha : Fo w a (some r)) (hk : k ≤ 65536) (hf : fitsR (r ^ k) = true) : Calls Tryz.prog 146 #[.agg #[.slice a.A a.n a.c, .slice a.B a.m a.d], .int .i64 (k : Int)] w fun e w' => RetV w (r ^ k) e w' :=
  (r2pow_o w a (some r) k ha (by omega) (by omega)).mono fun e w' h => Ret.ok (by
    show (if (k : Int) < 0 ∨ 65536 < (k : Int) then (none, 3) else limR (r ^ ((k : Int)).toNat)) = _
    rw [if_neg (by omega), Int.toNat_natCast, limR_fit hf]) h
theorem r2mul_ok (w : World) (a b : Fa) (r s : Rat) (ha : Fo w a (some r)) (hb : Fo w b (some s)) (hf : fitsR (r * s) = true) : Calls Tryz.prog 88 #[.agg #[.slice a.A a.n a.c, .slice a.B a.m a.d], .agg #[.slice b.A b.n b.c, .slice b.B b.m b.d]] w fun e w' => RetV w (r * s) e w' :=
  (r2mul_o w a b (some r) (some s) ha hb).mono fun e w' h => Ret.ok (by show limR (r * s) = _; rw [limR_fit hf]) h
theorem r2add_ok (w : World) (a b : Fa) (r s : Rat) (ha : Fo w a (some r)) (hb : Fo w b (some s)) (hf : fitsR (r + s) = true) : Calls Tryz.prog 90 #[.agg #[.slice a.A a.n a.c, .slice a.B a.m a.d], .agg #[.slice b.A b.n b.c, .slice b.B b.m b.d]] w fun e w' => RetV w (r + s) e w' :=
  (r2add_o w a b (some r) (some s) ha hb).mono fun e w' h => Ret.ok (by show limR (r + s) = _; rw [limR_fit hf]) h
theorem r1of_one (w : World) : Calls Tryz.prog 86 #[.int .u64 1] w fun e w' => ∃ A m c, e = .returned (.slice A m c) ∧ m ≤ c ∧ m ≤ 2 ∧ Ul w' none A m (lm 1) ∧ Below w.heap.size w w' := r1of_any w 1 (by omega)
set_option maxRecDepth 100000 in
set_option maxHeartbeats 8000000 in
theorem rzexactly_any (w : World) (a : Fa) (l k : List Nat) (n m : Int) (hq : Fq w a l k) :
    Calls Tryz.prog 151 #[.agg #[.slice a.A a.n a.c, .slice a.B a.m a.d], .int .i64 n, .int .i64 m] w fun e w' => Ret w (totR (fracOf l k) n (fun j => decide ((j : Int) = m))) e w' := by
  by_cases hch : chO (fracOf l k) = true
  · by_cases hn : n < 0 ∨ 32 < n
    · have HX := hide (show totR (fracOf l k) n (fun j => decide ((j : Int) = m)) = (none, 3) by unfold totR; rw [if_pos hch, if_pos hn])
      have HCH := hide hch
      have HCE := hide (show chooseE n = 3 from if_pos hn)
      clear hch hn
      go_enter Tryz.func151, Tryz.ntmps151
      go_upto_region 1 with (fail)
      generalize hW : World.alloc (World.alloc w _) _ = v
      have HF := hide (show F1 w v a (l) (k) by rw [← hW]; exact F1.mk0 hq _ _)
      obtain ⟨a0, a1, az, r0, r1, rf⟩ := HF.out.ca
      clear hW hq
      go_wp2_with (first | (go_at_call 46; (with_reducible refine (rzchance_any _ a l k HF.out.q).mono ?_); rintro e w1 ⟨rfl, hb⟩; rw [HCH.out]; have HF1 := hide (HF.out.below hb); obtain ⟨e0, e1, ez, s0, s1, sf⟩ := HF1.out.ca; clear hb) | (go_at_call 165; (with_reducible refine (rchoose_any _ _ m).mono ?_); rintro e w2 ⟨A2, m2, c2, rfl, hc2, hm2, hu2, hb⟩; rw [HCE.out]; have HU2 := hide hu2; have HF2 := hide (HF1.out.below hb); obtain ⟨g0, g1, gz, t0, t1, tf⟩ := HF2.out.ca; clear hu2 hb))
      refine bodyPost_ret (v := .tuple #[.agg #[.slice none 0 0, .slice none 0 0], .int .i64 3]) (by simp [results, Tryz.results151, go_sem, *]) rfl (HF2.out.err HX.out)
    · have HCE := hide (show chooseE n = 0 from if_neg hn)
      obtain ⟨N, rfl⟩ : ∃ N : Nat, n = N := ⟨n.toNat, by omega⟩
      have HN := hide (show N ≤ 32 by omega)
      rcases hA : fracOf l k with _ | r
      · rw [hA] at hch; exact absurd hch (by simp [chO])
      have hA2 := fracOf_some hA
      have hc : Chn r := chO_chn rfl hA2.2.2.1 (by rw [← hA]; exact hch)
      have HCH := hide hch
      by_cases ho : m < 0 ∨ (N : Int) < m
      · have HX := hide (show totR (some r) (N : Int) (fun j => decide ((j : Int) = m)) = (some 0, 0) by
          rw [totR_ok hc HN.out, tot_out r N m ho])
        clear hA2 hn hch
        by_cases hm : m < 0
        · skip
          go_enter Tryz.func151, Tryz.ntmps151
          go_upto_region 1 with (fail)
          generalize hW : World.alloc (World.alloc w _) _ = v
          have HF := hide (show F1 w v a (l) (k) by rw [← hW]; exact F1.mk0 hq _ _)
          obtain ⟨a0, a1, az, r0, r1, rf⟩ := HF.out.ca
          clear hW hq
          go_wp2_with (first | (go_at_call 46; (with_reducible refine (rzchance_any _ a l k HF.out.q).mono ?_); rintro e w1 ⟨rfl, hb⟩; rw [HCH.out]; have HF1 := hide (HF.out.below hb); obtain ⟨e0, e1, ez, s0, s1, sf⟩ := HF1.out.ca; clear hb) | (go_at_call 165; (with_reducible refine (rchoose_any _ _ m).mono ?_); rintro e w2 ⟨A2, m2, c2, rfl, hc2, hm2, hu2, hb⟩; rw [HCE.out]; have HU2 := hide hu2; have HF2 := hide (HF1.out.below hb); obtain ⟨g0, g1, gz, t0, t1, tf⟩ := HF2.out.ca; clear hu2 hb) | go_at_call 48; (with_reducible refine (rzof_zero _).mono ?_); rintro e w3 ⟨q, rfl, ho, hb⟩; have HO := hide ho; have HF3 := hide (HF2.out.below hb); obtain ⟨i0, i1, iz, v0, v1, vf⟩ := HF3.out.ca; clear ho hb)
          refine bodyPost_ret (v := .tuple #[.agg #[.slice q.A q.n q.c, .slice q.B q.m q.d], .int .i64 0]) (by simp [results, Tryz.results151, go_sem, *]) rfl (HF3.out.end (by rw [HX.out]) (by rw [HX.out]; exact HO.out))
        · have hm2 : decide ((N : Int) < m) = true := decide_eq_true (by omega)
          go_enter Tryz.func151, Tryz.ntmps151
          go_upto_region 1 with (fail)
          generalize hW : World.alloc (World.alloc w _) _ = v
          have HF := hide (show F1 w v a (l) (k) by rw [← hW]; exact F1.mk0 hq _ _)
          obtain ⟨a0, a1, az, r0, r1, rf⟩ := HF.out.ca
          clear hW hq
          go_wp2_with (first | (go_at_call 46; (with_reducible refine (rzchance_any _ a l k HF.out.q).mono ?_); rintro e w1 ⟨rfl, hb⟩; rw [HCH.out]; have HF1 := hide (HF.out.below hb); obtain ⟨e0, e1, ez, s0, s1, sf⟩ := HF1.out.ca; clear hb) | (go_at_call 165; (with_reducible refine (rchoose_any _ _ m).mono ?_); rintro e w2 ⟨A2, m2, c2, rfl, hc2, hm2, hu2, hb⟩; rw [HCE.out]; have HU2 := hide hu2; have HF2 := hide (HF1.out.below hb); obtain ⟨g0, g1, gz, t0, t1, tf⟩ := HF2.out.ca; clear hu2 hb) | go_at_call 48; (with_reducible refine (rzof_zero _).mono ?_); rintro e w3 ⟨q, rfl, ho, hb⟩; have HO := hide ho; have HF3 := hide (HF2.out.below hb); obtain ⟨i0, i1, iz, v0, v1, vf⟩ := HF3.out.ca; clear ho hb)
          refine bodyPost_ret (v := .tuple #[.agg #[.slice q.A q.n q.c, .slice q.B q.m q.d], .int .i64 0]) (by simp [results, Tryz.results151, go_sem, *]) rfl (HF3.out.end (by rw [HX.out]) (by rw [HX.out]; exact HO.out))
      · obtain ⟨K, rfl⟩ : ∃ K : Nat, m = K := ⟨m.toNat, by omega⟩
        have hKN : K ≤ N := by omega
        obtain ⟨D, hD⟩ : ∃ D, D = N - K := ⟨_, rfl⟩
        have hND : (N : Int) - (K : Int) = (D : Int) := by omega
        have hm1 : ¬ (N : Int) < (K : Int) := by omega
        have HX := hide (show totR (some r) (N : Int) (fun j => decide ((j : Int) = (K : Int))) = (some (tm r N K), 0) by
          rw [totR_ok hc HN.out, tot_one r N K hKN])
        have HTM := hide (show (ch N K : Rat) * r ^ K * (1 - r) ^ D = tm r N K by rw [hD]; rfl)
        have HFA := hide (show Fo w a (some r) from ⟨by have h := hq; rw [hA2.1, hA2.2.1] at h; exact h, hA2.2.2⟩)
        have HCL := hide (show chooseL (N : Int) (K : Int) = lm (ch N K) by
          unfold chooseL
          rw [if_neg hn, if_neg (by omega)]
          rfl)
        have HC64 := hide (show ch N K < 18446744073709551616 by
          have h1 := ch_le N K
          have h2 : 2 ^ N ≤ 2 ^ 32 := Nat.pow_le_pow_right (by omega) HN.out
          omega)
        have hK65 : K ≤ 65536 := by have := HN.out; omega
        have hD65 : D ≤ 65536 := by have := HN.out; omega
        have hK32 : K ≤ 32 := by have := HN.out; omega
        have hD32 : D ≤ 32 := by have := HN.out; omega
        have f1 := hc.fp hK32
        have f2 := hc.fp' hD32
        have f3 := hc.fcp HN.out hK32
        have f4 := hc.ftm HN.out hKN
        clear hD hn hch ho hA2
        go_enter Tryz.func151, Tryz.ntmps151
        go_upto_region 1 with (fail)
        generalize hW : World.alloc (World.alloc w _) _ = v
        have HF := hide (show F1 w v a (l) (k) by rw [← hW]; exact F1.mk0 hq _ _)
        obtain ⟨a0, a1, az, r0, r1, rf⟩ := HF.out.ca
        clear hW hq
        go_upto_region 9 with (first | (go_at_call 46; (with_reducible refine (rzchance_any _ a l k HF.out.q).mono ?_); rintro e w1 ⟨rfl, hb⟩; rw [HCH.out]; have HF1 := hide (HF.out.below hb); obtain ⟨e0, e1, ez, s0, s1, sf⟩ := HF1.out.ca; clear hb) | go_at_call 165; (with_reducible refine (rchoose_any _ (N : Int) (K : Int)).mono ?_); rintro e w2 ⟨A2, m2, c2, rfl, hc2, hm2, hu2, hb⟩; rw [HCE.out]; rw [HCL.out] at hu2; have HU2 := hide hu2; have HF2 := hide (HF1.out.below hb); obtain ⟨g0, g1, gz, t0, t1, tf⟩ := HF2.out.ca; clear hu2 hb | go_at_call 86; (with_reducible refine (r1of_one _).mono ?_); rintro e w3 ⟨A3, m3, c3, rfl, hc3, hm3, hu3, hb⟩; have HU3 := hide hu3; have HU2b := hide (HU2.out.below hb); have HF3 := hide (HF2.out.below hb); obtain ⟨i0, i1, iz, v0, v1, vf⟩ := HF3.out.ca; clear hu3 hb | go_at_call 124; (with_reducible refine (r2make_nat _ A2 m2 c2 A3 m3 c3 (ch N K) 1 HU2b.out HU3.out (by omega) (by omega) (by omega)).mono ?_); rintro e w4 ⟨q, rfl, ho, hb⟩; have HO4 := hide ho; have HF4 := hide (HF3.out.below hb); clear ho hb)
        generalize hW : World.alloc w4 _ = v5
        have hz4 := HF4.out.sz
        have HX5 := hide (show Fx v5 w4.heap.size q (some (ch N K : Rat)) by rw [← hW, ← mk_one]; exact Fx.mk0 HO4.out _ rfl)
        have HF5 := hide (show F1 w v5 a l k by rw [← hW]; exact HF4.out.below ((Below.refl _ _).alloc (Nat.le_refl _) _))
        have HA5 := hide (HFA.out.below HF5.out.bw)
        have hz5 := HX5.out.b.sz
        obtain ⟨j0, j1, jz, -⟩ := HF5.out.ca
        clear hW
        go_upto_region 10 with (go_at_call 146; (with_reducible refine (r2pow_ok _ a r K HA5.out hK65 f1).mono ?_); rintro e w6 ⟨x, rfl, ho, hb⟩; have HO6 := hide ho; have HF6 := hide (HF5.out.below hb); have HX6 := hide (HX5.out.below hb); clear ho hb)
        generalize hW : World.alloc w6 _ = v7
        have hz6 := HX6.out.b.sz
        have HX7 := hide (show Fx v7 w4.heap.size q (some (ch N K : Rat)) by rw [← hW]; exact HX6.out.alloc _)
        have HY7 := hide (show Fx v7 w6.heap.size x (some (r ^ K)) by rw [← hW]; exact Fx.mk0 HO6.out _ rfl)
        have HF7 := hide (show F1 w v7 a l k by rw [← hW]; exact HF6.out.below ((Below.refl _ _).alloc (Nat.le_refl _) _))
        have HA7 := hide (HFA.out.below HF7.out.bw)
        obtain ⟨k0, k1, kz, -⟩ := HF7.out.ca
        clear hW
        go_upto_region 11 with (first
          | (go_at_call 89; (with_reducible refine (rzrest_any _ a r HA7.out hc.h1 hc.fq).mono ?_); rintro e w8 ⟨y, rfl, ho, hb⟩; have HO8 := hide ho; have HF8 := hide (HF7.out.below hb); have HX8 := hide (HX7.out.below hb); have HY8 := hide (HY7.out.below hb); clear ho hb)
          | (go_at_call 146; (with_reducible refine (r2pow_ok _ y (1 - r) D HO8.out hD65 f2).mono ?_); rintro e w9 ⟨z, rfl, ho, hb⟩; have HO9 := hide ho; have HF9 := hide (HF8.out.below hb); have HX9 := hide (HX8.out.below hb); have HY9 := hide (HY8.out.below hb); clear ho hb))
        generalize hW : World.alloc w9 _ = v10
        have hz9 := HX9.out.b.sz
        have hz9y := HY9.out.b.sz
        have HX10 := hide (show Fx v10 w4.heap.size q (some (ch N K : Rat)) by rw [← hW]; exact HX9.out.alloc _)
        have HY10 := hide (show Fx v10 w6.heap.size x (some (r ^ K)) by rw [← hW]; exact HY9.out.alloc _)
        have HZ10 := hide (show Fx v10 w9.heap.size z (some ((1 - r) ^ D)) by rw [← hW]; exact Fx.mk0 HO9.out _ rfl)
        have HF10 := hide (show F1 w v10 a l k by rw [← hW]; exact HF9.out.below ((Below.refl _ _).alloc (Nat.le_refl _) _))
        obtain ⟨p0, p1, pf, pz, -⟩ := HX10.out.b
        obtain ⟨b0, b1, bf, bz, -⟩ := HY10.out.b
        clear hW
        go_upto_region 12 with (go_at_call 88; (with_reducible refine (r2mul_ok _ q x _ _ HX10.out.o HY10.out.o f3).mono ?_); rintro e w11 ⟨c11, rfl, ho, hb⟩; have HO11 := hide ho; have HF11 := hide (HF10.out.below hb); have HX11 := hide (HX10.out.below hb); have HZ11 := hide (HZ10.out.below hb); obtain ⟨d0, d1, df, dz, -⟩ := HX11.out.b; clear ho hb)
        generalize hW : World.setCell (World.setCell w11 _ _) _ _ = v12
        have HX12 := hide (show Fx v12 w4.heap.size c11 (some ((ch N K : Rat) * r ^ K)) by rw [← hW]; exact HX11.out.put HO11.out)
        have HZ12 := hide (show Fx v12 w9.heap.size z (some ((1 - r) ^ D)) by rw [← hW]; exact HZ11.out.one (fr_fill _ _) HX11.out.b.nb (by omega))
        have HF12 := hide (show F1 w v12 a l k by rw [← hW]; exact HF11.out.one (fr_fill _ _) HX11.out.b.nb (by omega))
        obtain ⟨h0, h1, hf, hz, -⟩ := HX12.out.b
        obtain ⟨o0, o1, of, oz, -⟩ := HZ12.out.b
        clear hW
        go_upto_region 13 with (go_at_call 88; (with_reducible refine (r2mul_ok _ c11 z _ _ HX12.out.o HZ12.out.o (by rw [HTM.out]; exact f4)).mono ?_); rintro e w13 ⟨c13, rfl, ho, hb⟩; rw [HTM.out] at ho; have HO13 := hide ho; have HF13 := hide (HF12.out.below hb); have HX13 := hide (HX12.out.below hb); obtain ⟨l0, l1, lf, lz, -⟩ := HX13.out.b; clear ho hb)
        generalize hW : World.setCell (World.setCell w13 _ _) _ _ = v14
        have HX14 := hide (show Fx v14 w4.heap.size c13 (some (tm r N K)) by rw [← hW]; exact HX13.out.put HO13.out)
        have HF14 := hide (show F1 w v14 a l k by rw [← hW]; exact HF13.out.one (fr_fill _ _) HX13.out.b.nb (by omega))
        obtain ⟨n0, n1, nf, nz, -⟩ := HX14.out.b
        obtain ⟨-, -, qz, u0, u1, uf⟩ := HF14.out.ca
        clear hW
        go_wp2_with fail
        refine bodyPost_ret (v := .tuple #[.agg #[.slice c13.A c13.n c13.c, .slice c13.B c13.m c13.d], .int .i64 0]) (by simp [results, Tryz.results151, go_sem, *]) rfl (HF14.out.end (by rw [HX.out]) (by rw [HX.out]; exact HX14.out.o))
  · have HX := hide (show totR (fracOf l k) n (fun j => decide ((j : Int) = m)) = (none, 41) by unfold totR; rw [if_neg hch])
    have HCH := hide (show chO (fracOf l k) = false by simpa using hch)
    clear hch
    go_enter Tryz.func151, Tryz.ntmps151
    go_upto_region 1 with (fail)
    generalize hW : World.alloc (World.alloc w _) _ = v
    have HF := hide (show F1 w v a (l) (k) by rw [← hW]; exact F1.mk0 hq _ _)
    obtain ⟨a0, a1, az, r0, r1, rf⟩ := HF.out.ca
    clear hW hq
    go_wp2_with ((go_at_call 46; (with_reducible refine (rzchance_any _ a l k HF.out.q).mono ?_); rintro e w1 ⟨rfl, hb⟩; rw [HCH.out]; have HF1 := hide (HF.out.below hb); obtain ⟨e0, e1, ez, s0, s1, sf⟩ := HF1.out.ca; clear hb))
    refine bodyPost_ret (v := .tuple #[.agg #[.slice none 0 0, .slice none 0 0], .int .i64 41]) (by simp [results, Tryz.results151, go_sem, *]) rfl (HF1.out.err HX.out)
end Go.Proofs.YtnokfhkcfebimaaGreat
