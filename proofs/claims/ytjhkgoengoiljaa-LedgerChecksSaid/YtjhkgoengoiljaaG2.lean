/- Contracts of the functions that these laws reach: part 2: Contracts of the leaves; More small words over the model's memory; Contracts: lists of ints, the tape; Seven stores into one block, and what a world that has grown reads; Blocks of seven cells, known whole; Contracts: tasks and tickets; Contracts: a ticket is right; Contracts: copied, with, find, failed, fail. -/
import Derived.Test.YtjhkgoengoiljaaProg
import Derived.Test.YtjhkgoengoiljaaG1
import Derived.Deep.RegionHeld3
set_option linter.unusedVariables false
set_option linter.unusedSimpArgs false

/- Contracts of the leaves. -/
namespace Go.Proofs.Ytjhkgoengoiljaa
open Go.RowKit

def foldV (v n : Int) : Int := if n ≤ 1 then 0 else v % n
theorem foldV_tmod (v n : Int) (h : 1 < n) : foldV v n = if v.tmod n < 0 then v.tmod n + n else v.tmod n := by
  unfold foldV
  rw [if_neg (by omega)]
  have h1 := Int.tmod_eq_emod (a := v) (b := n)
  have h2 := Int.emod_nonneg v (show n ≠ 0 by omega)
  have h3 := Int.emod_lt_of_pos v (show 0 < n by omega)
  rw [h1]
  split <;> split <;> omega
theorem tmod_lo (v n : Int) (h : 1 < n) : -n < v.tmod n ∧ v.tmod n < n := by
  have h1 := Int.tmod_eq_emod (a := v) (b := n)
  have h2 := Int.emod_nonneg v (show n ≠ 0 by omega)
  have h3 := Int.emod_lt_of_pos v (show 0 < n by omega)
  rw [h1]
  split <;> omega
theorem foldV_lo (v n : Int) : 0 ≤ foldV v n ∧ (foldV v n < n ∨ foldV v n = 0) := by
  unfold foldV
  split
  · omega
  · exact ⟨Int.emod_nonneg v (by omega), .inl (Int.emod_lt_of_pos v (by omega))⟩

set_option maxHeartbeats 400000 in
theorem fold_any (v n : Int) (w : World) (hn : n ≤ 4294967296) :
    Calls Try.prog 19 #[.int .i64 v, .int .i64 n] w fun e w' => e = .returned (.int .i64 (foldV v n)) ∧ w = w' := by
  by_cases h1 : n ≤ 1
  · go_enter Try.func19, Try.ntmps19
    go_wp2
    go_ret; exact ⟨ret_int (by unfold foldV; rw [if_pos h1]), rfl⟩
  · have ht := hide (foldV_tmod v n (by omega))
    have hb := (tmod_lo v n (by omega)).1
    have hc := (tmod_lo v n (by omega)).2
    go_enter Try.func19, Try.ntmps19
    go_wp2
    all_goals (go_ret; exact ⟨ret_int (by rw [ht.out]; first | rw [if_pos ‹_›] | rw [if_neg (by omega)]), rfl⟩)


set_option maxHeartbeats 400000 in
theorem reported_any (n : Int) (w : World) :
    Calls Try.prog 33 #[.int .i64 n] w fun e w' => e = .returned (.bool (repB n)) ∧ w = w' := by
  go_enter Try.func33, Try.ntmps33
  go_wp2
  all_goals (go_ret; exact ⟨ret_bool (by rw [Bool.eq_iff_iff]; simp [repB]; omega), rfl⟩)

set_option maxHeartbeats 400000 in
theorem place_any (n : Int) (w : World) :
    Calls Try.prog 69 #[.int .i64 n] w fun e w' => e = .returned (.bool (placeB n)) ∧ w = w' := by
  go_enter Try.func69, Try.ntmps69
  go_wp2
  all_goals (go_ret; exact ⟨ret_bool (by rw [Bool.eq_iff_iff]; simp [placeB]; omega), rfl⟩)

set_option maxHeartbeats 400000 in
theorem runs_any (t : Tk) (w : World) :
    Calls Try.prog 44 #[.agg #[.string t.pk, .string t.ts, .int .i64 t.env, .int .i64 t.cost, .int .i64 t.rev, .int .i64 t.st, .int .i64 t.att, .int .i64 t.run, .int .i64 t.ep, .int .i64 t.out]] w fun e w' => e = .returned (.bool (ranB t.att t.run t.ep)) ∧ Below w.heap.size w w' := by
  go_enter Try.func44, Try.ntmps44
  go_wp2
  all_goals (go_ret; exact ⟨ret_bool (by rw [Bool.eq_iff_iff]; simp [ranB]; omega), (Below.refl _ _).alloc (Nat.le_refl _) _⟩)

set_option maxHeartbeats 400000 in
theorem rests_any (t : Tk) (w : World) :
    Calls Try.prog 52 #[.agg #[.string t.pk, .string t.ts, .int .i64 t.env, .int .i64 t.cost, .int .i64 t.rev, .int .i64 t.st, .int .i64 t.att, .int .i64 t.run, .int .i64 t.ep, .int .i64 t.out]] w fun e w' => e = .returned (.bool (restB t.att t.run t.ep)) ∧ Below w.heap.size w w' := by
  go_enter Try.func52, Try.ntmps52
  go_wp2
  all_goals (go_ret; exact ⟨ret_bool (by rw [Bool.eq_iff_iff]; simp [restB]; omega), (Below.refl _ _).alloc (Nat.le_refl _) _⟩)

set_option maxHeartbeats 400000 in
theorem ran_any (t : Tk) (w : World) :
    Calls Try.prog 67 #[.agg #[.string t.pk, .string t.ts, .int .i64 t.env, .int .i64 t.cost, .int .i64 t.rev, .int .i64 t.st, .int .i64 t.att, .int .i64 t.run, .int .i64 t.ep, .int .i64 t.out]] w fun e w' => e = .returned (.bool (ranB t.att t.run t.ep)) ∧ Below w.heap.size w w' := by
  go_enter Try.func67, Try.ntmps67
  go_wp2
  all_goals (go_ret; exact ⟨ret_bool (by rw [Bool.eq_iff_iff]; simp [ranB]; omega), (Below.refl _ _).alloc (Nat.le_refl _) _⟩)

set_option maxHeartbeats 400000 in
theorem idle_any (t : Tk) (w : World) :
    Calls Try.prog 66 #[.agg #[.string t.pk, .string t.ts, .int .i64 t.env, .int .i64 t.cost, .int .i64 t.rev, .int .i64 t.st, .int .i64 t.att, .int .i64 t.run, .int .i64 t.ep, .int .i64 t.out]] w fun e w' => e = .returned (.bool (restB t.att t.run t.ep)) ∧ Below w.heap.size w w' := by
  go_enter Try.func66, Try.ntmps66
  go_wp2
  all_goals (go_ret; exact ⟨ret_bool (by rw [Bool.eq_iff_iff]; simp [restB]; omega), (Below.refl _ _).alloc (Nat.le_refl _) _⟩)

set_option maxHeartbeats 400000 in
theorem has_any (A : Option Addr) (n c : Nat) (L : Ld) (k : Int) (w : World) :
    Calls Try.prog 62 #[.agg #[.slice A n c, .int .i64 L.r0, .int .i64 L.r1, .int .i64 L.r2, .int .i64 L.r3, .int .i64 L.r4, .int .i64 L.r5], .int .i64 k] w fun e w' => e = .returned (.bool (decide (0 ≤ k) && decide (k < n))) ∧ Below w.heap.size w w' := by
  go_enter Try.func62, Try.ntmps62
  go_wp2
  all_goals (go_ret; exact ⟨ret_bool (by rw [Bool.eq_iff_iff]; simp; omega), (Below.refl _ _).alloc (Nat.le_refl _) _⟩)

theorem bl (p : ByteArray) : p.toList = [] ↔ p.size = 0 := by
  rw [ByteArray.toList_eq, ← List.length_eq_zero_iff]; rfl
theorem bls (p : ByteArray) : p.toList.isEmpty = decide (p.size = 0) := by
  rw [Bool.eq_iff_iff, List.isEmpty_iff, bl, decide_eq_true_eq]

set_option maxHeartbeats 400000 in
theorem usable_any (p t : ByteArray) (w : World) :
    Calls Try.prog 71 #[.agg #[.string p, .string t]] w fun e w' => e = .returned (.bool (usableB p t)) ∧ Below w.heap.size w w' := by
  go_enter Try.func71, Try.ntmps71
  go_wp2
  all_goals (go_ret; refine ⟨ret_bool ?_, (Below.refl _ _).alloc (Nat.le_refl _) _⟩)
  all_goals (simp only [bl] at *; rw [Bool.eq_iff_iff]; simp only [usableB, bls, Bool.and_eq_true, decide_eq_true_eq, Bool.not_eq_true', decide_eq_false_iff_not, Bool.false_eq_true, false_iff]; omega)

set_option maxHeartbeats 400000 in
theorem usabler_any (p t : ByteArray) (w : World) :
    Calls Try.prog 68 #[.agg #[.string p, .string t]] w fun e w' => e = .returned (.bool (usableB p t)) ∧ Below w.heap.size w w' := by
  go_enter Try.func68, Try.ntmps68
  go_wp2
  all_goals (go_ret; refine ⟨ret_bool ?_, (Below.refl _ _).alloc (Nat.le_refl _) _⟩)
  all_goals (rw [Bool.eq_iff_iff]; simp [usableB]; omega)

set_option maxHeartbeats 800000 in
theorem dright_any (p : Rp) (w : World) :
    Calls Try.prog 64 #[.agg #[.int .i64 p.tick, .int .i64 p.att, .int .i64 p.run, .int .i64 p.ep, .int .i64 p.out]] w fun e w' => e = .returned (.bool (reportOk p)) ∧ Below w.heap.size w w' := by
  go_enter Try.func64, Try.ntmps64
  go_wp2
  all_goals (go_ret; exact ⟨ret_bool (by rw [Bool.eq_iff_iff]; simp [reportOk, ranB, repB]; omega), (Below.refl _ _).alloc (Nat.le_refl _) _⟩)

set_option maxHeartbeats 800000 in
theorem r32right_any (p : Rp) (w : World) :
    Calls Try.prog 56 #[.agg #[.int .i64 p.tick, .int .i64 p.att, .int .i64 p.run, .int .i64 p.ep, .int .i64 p.out]] w fun e w' => e = .returned (.bool (reportOk p)) ∧ Below w.heap.size w w' := by
  go_enter Try.func56, Try.ntmps56
  go_wp2
  all_goals (go_ret; exact ⟨ret_bool (by rw [Bool.eq_iff_iff]; simp [reportOk, ranB, repB]; omega), (Below.refl _ _).alloc (Nat.le_refl _) _⟩)

end Go.Proofs.Ytjhkgoengoiljaa

/- More small words over the model's memory. -/
namespace Go.Proofs.Ytjhkgoengoiljaa
open Go.RowKit

/-- What reads as before where only a row at H or beyond has been written. -/
theorem gcell_up {W w1 : World} {row : Option Nat} (hg : W.grownBy w1 row) (H : Nat) (hH : H ≤ W.heap.size) (hr : ∀ g, row = some g → H ≤ g) :
    (∀ b o, b < H → w1.cell? ⟨b, o, none⟩ = W.cell? ⟨b, o, none⟩) ∧ (∀ b o, b < H → w1.frozen? ⟨b, o, none⟩ = W.frozen? ⟨b, o, none⟩) ∧ H ≤ w1.heap.size := by
  obtain ⟨h1, h2, h3⟩ := gcell hg H hH
  have hne : ∀ b, b < H → some b ≠ row := fun b hb e => by have := hr b e.symm; omega
  exact ⟨fun b o hb => h1 b o hb (hne b hb), fun b o hb => h2 b o hb (hne b hb), h3⟩

/-- A store makes no cell and takes none away. -/
@[go_sem] theorem isSome_setCell (w : World) (p q : Addr) (v : Value) : ((w.setCell p v).cell? q).isSome = (w.cell? q).isSome := by
  by_cases h : p = q
  · subst h
    cases hc : w.cell? p with
    | some u => rw [World.cell?_setCell_same w p v hc]; rfl
    | none =>
      simp only [World.setCell, World.cell?, Array.getElem?_modify, ↓reduceIte] at hc ⊢
      cases hb : w.heap[p.block]? with
      | none => rfl
      | some x =>
        rw [hb] at hc
        cases x with
        | cells c e f =>
          simp only [Option.map_some] at hc ⊢
          cases hs : p.spot.isSome
          · simp only [hs, Bool.false_eq_true, if_false] at hc ⊢
            rw [Array.getElem?_setIfInBounds]
            simp only [↓reduceIte]
            rcases Nat.lt_or_ge p.off c.size with h1 | h1
            · rw [Array.getElem?_eq_getElem h1] at hc; cases hc
            · rw [if_neg (by omega)]
          · simp
        | _ => rfl
  · rw [World.cell?_setCell_other _ _ _ _ h]

end Go.Proofs.Ytjhkgoengoiljaa

/- Contracts: lists of ints, the tape. -/
namespace Go.Proofs.Ytjhkgoengoiljaa
open Go.RowKit

def iv (i : Int) : List Value := [.int .i64 i]
theorem iv_len (i : Int) : (iv i).length = 1 := rfl
theorem iv_one (i : Int) : ∀ u ∈ iv i, u.oneCell' = true := by
  intro u hu
  simp [iv] at hu
  subst hu
  rfl

/-- A slice of ints, element k. -/
theorem ints_at {w : World} {av : Option Nat} {A : Option Addr} {l : List Int} (h : Rs w av 1 iv A l) {k : Nat} (hk : k < l.length) :
    ∃ b o, A = some ⟨b, o, none⟩ ∧ some b ≠ av ∧ b < w.heap.size ∧ w.cell? ⟨b, o + k, none⟩ = some (.int .i64 l[k]) := by
  obtain ⟨b, o, h1, h2, h3, h4⟩ := h.at (List.getElem?_eq_getElem hk)
  refine ⟨b, o, h1, h2, h3, ?_⟩
  have := h4 0 (.int .i64 l[k]) rfl
  simpa using this

/-- The tape at block T: the list l, the next place a. -/
def TapeAt (w : World) (T : Nat) (A : Option Addr) (n c : Nat) (l : List Int) (a : Nat) : Prop :=
  T < w.heap.size ∧ w.cell? ⟨T, 0, none⟩ = some (.slice A n c) ∧ w.cell? ⟨T, 1, none⟩ = some (.int .i64 a) ∧ (∀ j, w.frozen? ⟨T, j, none⟩ = false) ∧ Rs w (some T) 1 iv A l ∧ l.length = n

def tapeV (l : List Int) (a : Nat) (N : Int) : Int := foldV (if h : a < l.length then l[a] else ((a : Int) * 7) % 11) N
theorem tapeV_lo (l : List Int) (a : Nat) (N : Int) : 0 ≤ tapeV l a N ∧ (tapeV l a N < N ∨ tapeV l a N = 0) := foldV_lo _ _

theorem TapeAt.fr {w w' : World} {T : Nat} {A : Option Addr} {n c : Nat} {l : List Int} {a : Nat} (h : TapeAt w T A n c l a) {S : Nat → Prop} (hb : Fr w w' S) (hS : ¬ S T) (hA : ∀ b o, A = some ⟨b, o, none⟩ → l ≠ [] → ¬ S b) : TapeAt w' T A n c l a := by
  obtain ⟨h1, h2, h3, h4, h5, h6⟩ := h
  have hk := hb.block T h1 hS
  refine ⟨Nat.lt_of_lt_of_le h1 hb.size, ?_, ?_, fun j => ?_, ?_, h6⟩
  · rw [World.cell?_of_block (w := w) (a := ⟨T, 0, none⟩) hk]; exact h2
  · rw [World.cell?_of_block (w := w) (a := ⟨T, 1, none⟩) hk]; exact h3
  · rw [World.frozen?_of_block (w := w) (a := ⟨T, j, none⟩) hk]; exact h4 j
  · intro hl
    obtain ⟨b, o, g1, g2, g3, g4⟩ := h5 hl
    refine ⟨b, o, g1, g2, Nat.lt_of_lt_of_le g3 hb.size, fun k x hk j u hu => ?_⟩
    rw [World.cell?_of_block (w := w) (a := ⟨b, o + k * 1 + j, none⟩) (hb.block b g3 (hA b o g1 hl))]
    exact g4 k x hk j u hu
theorem TapeAt.below {w w' : World} {T : Nat} {A : Option Addr} {n c : Nat} {l : List Int} {a : Nat} (h : TapeAt w T A n c l a) (hb : Below w.heap.size w w') : TapeAt w' T A n c l a :=
  h.fr (Fr.of_below (fun _ => False) hb) (fun h => h) (fun _ _ _ _ h => h)
theorem TapeAt.alloc {w : World} {T : Nat} {A : Option Addr} {n c : Nat} {l : List Int} {a : Nat} (h : TapeAt w T A n c l a) (o : Obj) : TapeAt (w.alloc o) T A n c l a := h.below ((Below.refl _ _).alloc (Nat.le_refl _) _)
theorem TapeAt.drew {w : World} {T : Nat} {A : Option Addr} {n c : Nat} {l : List Int} {a : Nat} (h : TapeAt w T A n c l a) : TapeAt w.drew T A n c l a := h

theorem fold_next (l : List Int) (a : Nat) (N v : Int) (h : v = if h : a < l.length then l[a] else ((a : Int) * 7) % 11) : foldV v N = tapeV l a N := by rw [h]; rfl

theorem tape_put {w : World} {T : Nat} {A : Option Addr} {n c : Nat} {l : List Int} {a : Nat} (h : TapeAt w T A n c l a) : TapeAt (w.setCell ⟨T, 1, none⟩ (.int .i64 (a + 1 : Nat))) T A n c l (a + 1) := by
  obtain ⟨h1, h2, h3, h4, h5, h6⟩ := h
  refine ⟨by simpa [World.setCell] using h1, ?_, World.cell?_setCell_same w _ _ h3, fun j => by rw [World.frozen?_setCell]; exact h4 j, ?_, h6⟩
  · rw [World.cell?_setCell_other _ _ _ _ (by simp)]; exact h2
  · intro hl
    obtain ⟨b, o, g1, g2, g3, g4⟩ := h5 hl
    refine ⟨b, o, g1, g2, by simpa [World.setCell] using g3, fun k x hk j u hu => ?_⟩
    rw [World.cell?_setCell_other _ _ _ _ (by intro e; injection e with e1; exact g2 (by rw [e1]))]
    exact g4 k x hk j u hu
theorem fr_put {w : World} {T : Nat} {o : Nat} {v : Value} : Fr w (w.setCell ⟨T, o, none⟩ v) (fun b => b = T) := Fr.setCell (S := fun b => b = T) (p := ⟨T, o, none⟩) (Fr.refl w _) (Or.inr rfl) v

set_option maxHeartbeats 1000000 in
theorem next_any (w : World) (T : Nat) (A : Option Addr) (n c : Nat) (l : List Int) (a : Nat) (N : Int) (hT : TapeAt w T A n c l a) (ha : a ≤ 4294967296) (hN : N ≤ 4294967296) :
    Calls Try.prog 13 #[.pointer (some ⟨T, 0, none⟩), .int .i64 N] w fun e w' => e = .returned (.int .i64 (tapeV l a N)) ∧ TapeAt w' T A n c l (a + 1) ∧ Fr w w' (fun b => b = T) := by
  have HT := hide hT
  obtain ⟨h1, h2, h3, h4, h5, h6⟩ := hT
  by_cases hlt : a < n
  · obtain ⟨b, o, rfl, hne, hb, hc⟩ := ints_at h5 (k := a) (by omega)
    obtain ⟨x, hx⟩ : ∃ x, x = l[a]'(by omega) := ⟨_, rfl⟩
    rw [← hx] at hc
    have HV := hide (fold_next l a N x (by rw [dif_pos (by omega)]; exact hx))
    have ht : decide (a < n) = true := by simpa using hlt
    have hi1 : (0 : Int) ≤ (a : Int) := by omega
    have hi2 : (a : Int) < (n : Int) := by omega
    have hbT : ¬ b = T := fun e => hne (by rw [e])
    clear h5 h6 hx
    go_enter Try.func13, Try.ntmps13
    go_wp2_with fail
    go_region_held3 (fun W => W.cell? ⟨T, 0, none⟩ = some (.slice (some ⟨b, o, none⟩) n c) ∧ W.cell? ⟨T, 1, none⟩ = some (.int .i64 a)) (first | (go_keep; done) | ((try dsimp only); (repeat' apply And.intro) <;> first | (go_keep; done) | ((repeat rw [World.cell?_setCell_other _ _ _ _ (by intro h; injection h; omega)]); go_keep; done))) (fail)
    go_wp2_with fail
    go_region_held3 (fun W => W.cell? ⟨T, 0, none⟩ = some (.slice (some ⟨b, o, none⟩) n c) ∧ W.cell? ⟨T, 1, none⟩ = some (.int .i64 a) ∧ W.cell? ⟨b, o + a, none⟩ = some (.int .i64 x)) (first | (go_keep; done) | ((try dsimp only); (repeat' apply And.intro) <;> first | (go_keep; done) | ((repeat rw [World.cell?_setCell_other _ _ _ _ (by intro h; injection h; omega)]); go_keep; done))) (fail)
    go_wp2_with (go_at_call 19; refine (fold_any _ _ _ hN).mono ?_; rintro e w1 ⟨rfl, rfl⟩)
    go_ret
    exact ⟨ret_int HV.out, tape_put HT.out, fr_put.drew.drew⟩
  · have HV := hide (fold_next l a N ((a : Int) * 7 % 11) (by rw [dif_neg (by omega)]))
    have ht : decide (a < n) = false := by simpa using hlt
    clear h5 h6
    go_enter Try.func13, Try.ntmps13
    go_wp2_with fail
    go_region_held3 (fun W => W.cell? ⟨T, 0, none⟩ = some (.slice A n c) ∧ W.cell? ⟨T, 1, none⟩ = some (.int .i64 a)) (first | (go_keep; done) | ((try dsimp only); (repeat' apply And.intro) <;> first | (go_keep; done) | ((repeat rw [World.cell?_setCell_other _ _ _ _ (by intro h; injection h; omega)]); go_keep; done))) (fail)
    go_wp2_with (go_at_call 19; refine (fold_any _ _ _ hN).mono ?_; rintro e w1 ⟨rfl, rfl⟩)
    go_ret
    exact ⟨ret_int HV.out, tape_put HT.out, fr_put.drew⟩

set_option maxHeartbeats 400000 in
theorem chance_any (w : World) (T : Nat) (A : Option Addr) (n c : Nat) (l : List Int) (a : Nat) (M N : Int) (hT : TapeAt w T A n c l a) (ha : a ≤ 4294967296) (hN : N ≤ 4294967296) :
    Calls Try.prog 21 #[.pointer (some ⟨T, 0, none⟩), .int .i64 M, .int .i64 N] w fun e w' => e = .returned (.bool (decide (tapeV l a N < M))) ∧ TapeAt w' T A n c l (a + 1) ∧ Fr w w' (fun b => b = T) := by
  go_enter Try.func21, Try.ntmps21
  go_wp2_with (go_at_call 13; refine (next_any _ T A n c l a N hT ha hN).mono ?_; rintro e w1 ⟨rfl, ht1, hf1⟩)
  go_ret
  exact ⟨rfl, ht1, hf1⟩

set_option maxHeartbeats 400000 in
theorem pick_any (w : World) (T : Nat) (A : Option Addr) (n c : Nat) (l : List Int) (a : Nat) (g m d : Nat) (xs : List Int) (hT : TapeAt w T A n c l a) (ha : a ≤ 4294967296)
    (hx : Rs w (some T) 1 iv (some ⟨g, 0, none⟩) xs) (hl : xs.length = m) (h0 : 0 < m) (hm : m ≤ 4294967296) :
    Calls Try.prog 23 #[.pointer (some ⟨T, 0, none⟩), .slice (some ⟨g, 0, none⟩) m d] w fun e w' => (∃ v, v ∈ xs ∧ e = .returned (.int .i64 v)) ∧ TapeAt w' T A n c l (a + 1) ∧ Fr w w' (fun b => b = T) := by
  have hv := tapeV_lo l a m
  obtain ⟨k, hk⟩ : ∃ k : Nat, tapeV l a m = k := ⟨(tapeV l a m).toNat, by omega⟩
  have hkm : k < m := by omega
  obtain ⟨b, o, hA, hne, hb, hc⟩ := ints_at hx (k := k) (by omega)
  obtain ⟨rfl, rfl⟩ : b = g ∧ o = 0 := by simp at hA; omega
  have hbT : ¬ b = T := fun e => hne (by rw [e])
  obtain ⟨x, hxx⟩ : ∃ x, x = xs[k]'(by omega) := ⟨_, rfl⟩
  rw [← hxx] at hc
  have HM := hide (show x ∈ xs from by rw [hxx]; exact List.getElem_mem _)
  have hmI : (0 : Int) < (m : Int) := by omega
  have hkI : (k : Int) < (m : Int) := by omega
  have hkJ : (0 : Int) ≤ (k : Int) := by omega
  have HK := hide hk
  have HX := hide hx
  clear hA hxx hl hv hk hx
  have hm0 : ((m : Int) == 0) = false := by simp; omega
  go_enter Try.func23, Try.ntmps23
  go_wp2_with (go_at_call 13; refine (next_any _ T A n c l a m hT ha (by omega)).mono ?_; rintro e w1 ⟨rfl, ht1, hf1⟩; rw [HK.out]; have hc1 : w1.cell? ⟨b, 0 + k, none⟩ = some (.int .i64 x) := (by rw [← hc]; exact World.cell?_of_block (w := w) (hf1.block b hb hbT)); simp only [Nat.zero_add] at hc1)
  go_ret
  exact ⟨⟨_, HM.out, rfl⟩, ht1, hf1⟩

end Go.Proofs.Ytjhkgoengoiljaa

/- Seven stores into one block, and what a world that has grown reads. -/
namespace Go.Proofs.Ytjhkgoengoiljaa
open Go.RowKit

def put7 (w : World) (B : Nat) (v0 v1 v2 v3 v4 v5 v6 : Value) : World :=
  ((((((w.setCell ⟨B, 0, none⟩ v0).setCell ⟨B, 1, none⟩ v1).setCell ⟨B, 2, none⟩ v2).setCell ⟨B, 3, none⟩ v3).setCell ⟨B, 4, none⟩ v4).setCell ⟨B, 5, none⟩ v5).setCell ⟨B, 6, none⟩ v6
theorem put7_cells {w : World} {B : Nat} {x0 x1 x2 x3 x4 x5 x6 v0 v1 v2 v3 v4 v5 v6 : Value} (h0 : w.cell? ⟨B, 0, none⟩ = some x0) (h1 : w.cell? ⟨B, 1, none⟩ = some x1) (h2 : w.cell? ⟨B, 2, none⟩ = some x2) (h3 : w.cell? ⟨B, 3, none⟩ = some x3) (h4 : w.cell? ⟨B, 4, none⟩ = some x4) (h5 : w.cell? ⟨B, 5, none⟩ = some x5) (h6 : w.cell? ⟨B, 6, none⟩ = some x6) :
    (put7 w B v0 v1 v2 v3 v4 v5 v6).cell? ⟨B, 0, none⟩ = some v0 ∧ (put7 w B v0 v1 v2 v3 v4 v5 v6).cell? ⟨B, 1, none⟩ = some v1 ∧ (put7 w B v0 v1 v2 v3 v4 v5 v6).cell? ⟨B, 2, none⟩ = some v2 ∧ (put7 w B v0 v1 v2 v3 v4 v5 v6).cell? ⟨B, 3, none⟩ = some v3 ∧
    (put7 w B v0 v1 v2 v3 v4 v5 v6).cell? ⟨B, 4, none⟩ = some v4 ∧ (put7 w B v0 v1 v2 v3 v4 v5 v6).cell? ⟨B, 5, none⟩ = some v5 ∧ (put7 w B v0 v1 v2 v3 v4 v5 v6).cell? ⟨B, 6, none⟩ = some v6 := by
  unfold put7
  refine ⟨?_, ?_, ?_, ?_, ?_, ?_, ?_⟩ <;> go_simp
theorem put7_other {w : World} {B : Nat} {v0 v1 v2 v3 v4 v5 v6 : Value} (b o : Nat) (h : B ≠ b) : (put7 w B v0 v1 v2 v3 v4 v5 v6).cell? ⟨b, o, none⟩ = w.cell? ⟨b, o, none⟩ := by
  unfold put7
  have h' : ∀ j, (⟨B, j, none⟩ : Addr) ≠ ⟨b, o, none⟩ := fun j e => h (by injection e)
  rw [World.cell?_setCell_other _ _ _ _ (h' _), World.cell?_setCell_other _ _ _ _ (h' _), World.cell?_setCell_other _ _ _ _ (h' _), World.cell?_setCell_other _ _ _ _ (h' _), World.cell?_setCell_other _ _ _ _ (h' _), World.cell?_setCell_other _ _ _ _ (h' _), World.cell?_setCell_other _ _ _ _ (h' _)]
theorem put7_frozen {w : World} {B : Nat} {v0 v1 v2 v3 v4 v5 v6 : Value} (b o : Nat) : (put7 w B v0 v1 v2 v3 v4 v5 v6).frozen? ⟨b, o, none⟩ = w.frozen? ⟨b, o, none⟩ := by
  unfold put7
  simp only [World.frozen?_setCell]

end Go.Proofs.Ytjhkgoengoiljaa

/- Blocks of seven cells, known whole. -/
namespace Go.Proofs.Ytjhkgoengoiljaa
open Go.RowKit

structure V7 where
  v0 : Value
  v1 : Value
  v2 : Value
  v3 : Value
  v4 : Value
  v5 : Value
  v6 : Value

/-- The seven cells of block b, which may be written. -/
def B7 (w : World) (b : Nat) (v : V7) : Prop :=
  b < w.heap.size ∧ (w.cell? ⟨b, 0, none⟩ = some v.v0 ∧ w.cell? ⟨b, 1, none⟩ = some v.v1 ∧ w.cell? ⟨b, 2, none⟩ = some v.v2 ∧ w.cell? ⟨b, 3, none⟩ = some v.v3 ∧ w.cell? ⟨b, 4, none⟩ = some v.v4 ∧ w.cell? ⟨b, 5, none⟩ = some v.v5 ∧ w.cell? ⟨b, 6, none⟩ = some v.v6) ∧ (∀ j, w.frozen? ⟨b, j, none⟩ = false) ∧ ∀ j, w.cell? ⟨b, j + 7, none⟩ = none

theorem put7_some {w : World} {B : Nat} {v0 v1 v2 v3 v4 v5 v6 : Value} (q : Addr) : ((put7 w B v0 v1 v2 v3 v4 v5 v6).cell? q).isSome = (w.cell? q).isSome := by
  unfold put7
  simp only [isSome_setCell]
theorem B7.fr {w w' : World} {b : Nat} {v : V7} {S : Nat → Prop} (h : B7 w b v) (hf : Fr w w' S) (hS : ¬ S b) : B7 w' b v := by
  obtain ⟨h0, ⟨h1, h2, h3, h4, h5, h6, h7⟩, h8, h9⟩ := h
  have hk := hf.block b h0 hS
  have tr : ∀ {o : Nat} {u : Value}, w.cell? ⟨b, o, none⟩ = some u → w'.cell? ⟨b, o, none⟩ = some u := fun hu => (World.cell?_of_block (w := w) hk).trans hu
  exact ⟨Nat.lt_of_lt_of_le h0 hf.size, ⟨tr h1, tr h2, tr h3, tr h4, tr h5, tr h6, tr h7⟩, fun j => (World.frozen?_of_block (w := w) hk).trans (h8 j), fun j => (World.cell?_of_block (w := w) hk).trans (h9 j)⟩
theorem B7.put {w : World} {b : Nat} {v : V7} (u : V7) (h : B7 w b v) : B7 (put7 w b u.v0 u.v1 u.v2 u.v3 u.v4 u.v5 u.v6) b u := by
  obtain ⟨h0, ⟨h1, h2, h3, h4, h5, h6, h7⟩, h8, h9⟩ := h
  exact ⟨by simpa [put7, World.setCell] using h0, put7_cells h1 h2 h3 h4 h5 h6 h7, fun j => (put7_frozen _ _).trans (h8 j), fun j => by
    have h := put7_some (w := w) (B := b) (v0 := u.v0) (v1 := u.v1) (v2 := u.v2) (v3 := u.v3) (v4 := u.v4) (v5 := u.v5) (v6 := u.v6) ⟨b, j + 7, none⟩
    rw [h9 j] at h
    exact Option.isSome_eq_false_iff.1 h |> Option.isNone_iff_eq_none.1⟩
theorem fr_put7 {w : World} {b : Nat} {v0 v1 v2 v3 v4 v5 v6 : Value} : Fr w (put7 w b v0 v1 v2 v3 v4 v5 v6) (fun i => i = b) := by
  unfold put7
  iterate 7 (refine Fr.setCell ?_ (Or.inr (by rfl)) _)
  exact Fr.refl _ _

/-- Six such blocks in a row. -/
def S6 (w : World) (H : Nat) (x0 x1 x2 x3 x4 x5 : V7) : Prop := B7 w H x0 ∧ B7 w (H + 1) x1 ∧ B7 w (H + 2) x2 ∧ B7 w (H + 3) x3 ∧ B7 w (H + 4) x4 ∧ B7 w (H + 5) x5
theorem S6.fr {w w' : World} {H : Nat} {x0 x1 x2 x3 x4 x5 : V7} {S : Nat → Prop} (h : S6 w H x0 x1 x2 x3 x4 x5) (hf : Fr w w' S) (hS : ∀ i, H ≤ i → i < H + 6 → ¬ S i) : S6 w' H x0 x1 x2 x3 x4 x5 := by
  obtain ⟨h0, h1, h2, h3, h4, h5⟩ := h
  exact ⟨h0.fr hf (hS _ (by omega) (by omega)), h1.fr hf (hS _ (by omega) (by omega)), h2.fr hf (hS _ (by omega) (by omega)), h3.fr hf (hS _ (by omega) (by omega)), h4.fr hf (hS _ (by omega) (by omega)), h5.fr hf (hS _ (by omega) (by omega))⟩
theorem S6.put4 {w : World} {H : Nat} {x0 x1 x2 x3 x4 x5 : V7} (u : V7) (h : S6 w H x0 x1 x2 x3 x4 x5) : S6 (put7 w (H + 4) u.v0 u.v1 u.v2 u.v3 u.v4 u.v5 u.v6) H x0 x1 x2 x3 u x5 := by
  obtain ⟨h0, h1, h2, h3, h4, h5⟩ := h
  exact ⟨h0.fr fr_put7 (by omega), h1.fr fr_put7 (by omega), h2.fr fr_put7 (by omega), h3.fr fr_put7 (by omega), h4.put u, h5.fr fr_put7 (by omega)⟩
theorem S6.put5 {w : World} {H : Nat} {x0 x1 x2 x3 x4 x5 : V7} (u : V7) (h : S6 w H x0 x1 x2 x3 x4 x5) : S6 (put7 w (H + 5) u.v0 u.v1 u.v2 u.v3 u.v4 u.v5 u.v6) H x0 x1 x2 x3 x4 u := by
  obtain ⟨h0, h1, h2, h3, h4, h5⟩ := h
  exact ⟨h0.fr fr_put7 (by omega), h1.fr fr_put7 (by omega), h2.fr fr_put7 (by omega), h3.fr fr_put7 (by omega), h4.fr fr_put7 (by omega), h5.put u⟩

/-- A slice that reads as a list, where other blocks were written. -/
theorem Rs.fr {w w' : World} {av : Option Nat} {α : Type} {s : Nat} {f : α → List Value} {A : Option Addr} {l : List α} {S : Nat → Prop} (h : Rs w av s f A l) (hf : Fr w w' S) (hS : l ≠ [] → ∀ b o, A = some ⟨b, o, none⟩ → some b ≠ av → ¬ S b) : Rs w' av s f A l := by
  intro hl
  obtain ⟨b, o, hA, hn, hb, hc⟩ := h hl
  refine ⟨b, o, hA, hn, Nat.lt_of_lt_of_le hb hf.size, fun k a hk j u hu => ?_⟩
  rw [World.cell?_of_block (w := w) (hf.block b hb (hS hl b o hA hn))]
  exact hc k a hk j u hu
theorem Rs.tape {w w' : World} {T : Nat} {α : Type} {s : Nat} {f : α → List Value} {A : Option Addr} {l : List α} (h : Rs w (some T) s f A l) (hf : Fr w w' (fun i => i = T)) : Rs w' (some T) s f A l :=
  h.fr hf (fun _ _ _ _ hn e => hn (by rw [e]))

/-- A value that is no string. -/
def noStr : Value → Prop
  | .string _ => False
  | _ => True
/-- A list of elements whose first cell is a string does not lie in such a block without strings. -/
theorem rs_not_b7 {w : World} {av : Option Nat} {α : Type} {s : Nat} {f : α → List Value} {A : Option Addr} {l : List α} {b : Nat} {v : V7} (h : Rs w av s f A l) (hf : ∀ a, ∃ p, (f a)[0]? = some (.string p)) (hb : B7 w b v)
    (hv : noStr v.v0 ∧ noStr v.v1 ∧ noStr v.v2 ∧ noStr v.v3 ∧ noStr v.v4 ∧ noStr v.v5 ∧ noStr v.v6) : l ≠ [] → ∀ b' o, A = some ⟨b', o, none⟩ → b' ≠ b := by
  intro hl b' o hA he
  subst he
  obtain ⟨b2, o2, hA2, _, _, hc⟩ := h hl
  rw [hA] at hA2
  injection hA2 with hA2
  injection hA2 with h1 h2
  subst h1 h2
  obtain ⟨a, l', rfl⟩ := List.exists_cons_of_ne_nil hl
  obtain ⟨p, hp⟩ := hf a
  have hc0 := hc 0 a rfl 0 _ hp
  simp only [Nat.zero_mul, Nat.add_zero] at hc0
  obtain ⟨_, ⟨h1, h2, h3, h4, h5, h6, h7⟩, _, h9⟩ := hb
  obtain ⟨n1, n2, n3, n4, n5, n6, n7⟩ := hv
  have key : ∀ u, w.cell? ⟨b', o, none⟩ = some u → noStr u → False := by
    intro u hu hn
    rw [hc0] at hu
    injection hu with hu
    subst hu
    exact hn
  match o with
  | 0 => exact key _ h1 n1
  | 1 => exact key _ h2 n2
  | 2 => exact key _ h3 n3
  | 3 => exact key _ h4 n4
  | 4 => exact key _ h5 n5
  | 5 => exact key _ h6 n6
  | 6 => exact key _ h7 n7
  | j + 7 => rw [h9 j] at hc0; cases hc0

end Go.Proofs.Ytjhkgoengoiljaa

/- Contracts: tasks and tickets. -/
namespace Go.Proofs.Ytjhkgoengoiljaa
open Go.RowKit

set_option maxHeartbeats 800000 in
theorem hnew_ok (p t : ByteArray) (x : Int) (w : World) (h1 : usableB p t = true) (h2 : placeB x = true) :
    Calls Try.prog 61 #[.agg #[.string p, .string t], .int .i64 x, .int .i64 2] w fun e w' =>
      e = .returned (.tuple #[.agg #[.string p, .string t, .int .i64 x, .int .i64 2, .int .i64 0, .int .i64 0, .int .i64 0, .slice none 0 0], .int .i64 0]) ∧ Below w.heap.size w w' := by
  have hx : 0 ≤ x ∧ x ≤ 63 := by simpa [placeB] using h2
  obtain ⟨hx1, hx2⟩ := hx
  go_enter Try.func61, Try.ntmps61
  go_wp2_with (go_at_call 71; refine (usable_any p t _).mono ?_; rintro e w1 ⟨rfl, hb1⟩; obtain ⟨hc1, hf1, hz1⟩ := gcell (grown_of_below hb1 none) (w.heap.size + 2) (by first | (simp; done) | (simp; omega)); have : w.heap.size < w1.heap.size := (by omega); have : w.heap.size + 1 < w1.heap.size := (by omega))
  refine bodyPost_ret (v := .tuple #[.agg #[.string p, .string t, .int .i64 x, .int .i64 2, .int .i64 0, .int .i64 0, .int .i64 0, .slice none 0 0], .int .i64 0]) (by simp [results, Try.results61, go_sem, hc1]) rfl ⟨rfl, ?_⟩
  (repeat' refine Below.setCell ?_ (by simp) _)
  exact (((Below.refl _ _).alloc (Nat.le_refl _) _).alloc (by simp) _).trans (hb1.mono (by simp; omega))

set_option maxHeartbeats 800000 in
theorem hnew_no (p t : ByteArray) (x : Int) (w : World) (h1 : (usableB p t && placeB x) = false) :
    Calls Try.prog 61 #[.agg #[.string p, .string t], .int .i64 x, .int .i64 2] w fun e w' =>
      ∃ er, e = .returned (.tuple #[.agg #[.string ⟨#[]⟩, .string ⟨#[]⟩, .int .i64 0, .int .i64 0, .int .i64 0, .int .i64 0, .int .i64 0, .slice none 0 0], .int .i64 er]) ∧ (er != 0) = true ∧ Below w.heap.size w w' := by
  cases h2 : usableB p t
  · clear h1
    go_enter Try.func61, Try.ntmps61
    go_wp2_with (go_at_call 71; refine (usable_any p t _).mono ?_; rintro e w1 ⟨rfl, hb1⟩; obtain ⟨hc1, hf1, hz1⟩ := gcell (grown_of_below hb1 none) (w.heap.size + 2) (by first | (simp; done) | (simp; omega)); have : w.heap.size < w1.heap.size := (by omega); have : w.heap.size + 1 < w1.heap.size := (by omega))
    refine bodyPost_ret (v := .tuple #[.agg #[.string ⟨#[]⟩, .string ⟨#[]⟩, .int .i64 0, .int .i64 0, .int .i64 0, .int .i64 0, .int .i64 0, .slice none 0 0], .int .i64 1]) (by simp [results, Try.results61, go_sem, hc1]) rfl ⟨_, rfl, by decide, ?_⟩
    (repeat' refine Below.setCell ?_ (by simp) _)
    exact (((Below.refl _ _).alloc (Nat.le_refl _) _).alloc (by simp) _).trans (hb1.mono (by simp; omega))
  · have hx : x < 0 ∨ 63 < x := by
      rw [h2, Bool.true_and] at h1
      simp [placeB] at h1
      omega
    have HX := hide hx
    clear h1 hx
    go_enter Try.func61, Try.ntmps61
    go_wp2_with (go_at_call 71; refine (usable_any p t _).mono ?_; rintro e w1 ⟨rfl, hb1⟩; obtain ⟨hc1, hf1, hz1⟩ := gcell (grown_of_below hb1 none) (w.heap.size + 2) (by first | (simp; done) | (simp; omega)); have : w.heap.size < w1.heap.size := (by omega); have : w.heap.size + 1 < w1.heap.size := (by omega))
    all_goals first
      | (exfalso; have := HX.out; omega)
      | (refine bodyPost_ret (v := .tuple #[.agg #[.string ⟨#[]⟩, .string ⟨#[]⟩, .int .i64 0, .int .i64 0, .int .i64 0, .int .i64 0, .int .i64 0, .slice none 0 0], .int .i64 3]) (by simp [results, Try.results61, go_sem, hc1]) rfl ⟨_, rfl, by decide, ?_⟩
         (repeat' refine Below.setCell ?_ (by simp) _)
         exact (((Below.refl _ _).alloc (Nat.le_refl _) _).alloc (by simp) _).trans (hb1.mono (by simp; omega)))

set_option maxHeartbeats 800000 in
theorem shcheck1_any (t : Tk) (w : World) :
    Calls Try.prog 60 #[.agg #[.string t.pk, .string t.ts, .int .i64 t.env, .int .i64 t.cost]] w fun e w' => e = .returned (.bool (!taskOk t)) ∧ Below w.heap.size w w' := by
  cases h1 : (usableB t.pk t.ts && placeB t.env)
  · have HT := hide (show taskOk t = false by rw [taskOk, h1]; rfl)
    have H1 := hide h1
    clear h1
    go_enter Try.func60, Try.ntmps60
    go_wp2_with (go_at_call 61; refine (hnew_no t.pk t.ts t.env _ H1.out).mono ?_; rintro e w1 ⟨er, rfl, he, hb1⟩; obtain ⟨hc1, hf1, hz1⟩ := gcell (grown_of_below hb1 none) (w.heap.size + 1) (by first | (simp; done) | (simp; omega)); have : w.heap.size < w1.heap.size := (by omega))
    all_goals (go_ret; refine ⟨ret_bool (by rw [HT.out]; rfl), ?_⟩)
    all_goals exact (((Below.refl _ _).alloc (Nat.le_refl _) _).trans (hb1.mono (by simp; try omega))).alloc (by omega) _
  · have HT := hide (show taskOk t = costB t.cost by rw [taskOk, h1]; rfl)
    rw [Bool.and_eq_true] at h1
    obtain ⟨h1, h2⟩ := h1
    have H1 := hide h1
    have H2 := hide h2
    clear h1 h2
    go_enter Try.func60, Try.ntmps60
    go_wp2_with (go_at_call 61; refine (hnew_ok t.pk t.ts t.env _ H1.out H2.out).mono ?_; rintro e w1 ⟨rfl, hb1⟩; obtain ⟨hc1, hf1, hz1⟩ := gcell (grown_of_below hb1 none) (w.heap.size + 1) (by first | (simp; done) | (simp; omega)); have : w.heap.size < w1.heap.size := (by omega))
    all_goals (go_ret; refine ⟨ret_bool (by rw [HT.out, Bool.eq_iff_iff]; simp [costB]; try omega), ?_⟩)
    all_goals exact (((Below.refl _ _).alloc (Nat.le_refl _) _).trans (hb1.mono (by simp; try omega))).alloc (by omega) _

/-- The four cells of a task at block b. -/
def TaskAt (w : World) (b : Nat) (t : Tk) : Prop := w.cell? ⟨b, 0, none⟩ = some (.string t.pk) ∧ w.cell? ⟨b, 1, none⟩ = some (.string t.ts) ∧ w.cell? ⟨b, 2, none⟩ = some (.int .i64 t.env) ∧ w.cell? ⟨b, 3, none⟩ = some (.int .i64 t.cost)

set_option maxRecDepth 100000 in
set_option maxHeartbeats 800000 in
theorem indexf_one (b : Nat) (t : Tk) (w : World) (hT : TaskAt w b t) :
    Calls Try.prog 70 #[.slice (some ⟨b, 0, none⟩) 1 1, .func (.func 60) #[] #[]] w fun e w' => e = .returned (.int .i64 (if taskOk t then -1 else 0)) ∧ Below w.heap.size w w' := by
  obtain ⟨h0, h1, h2, h3⟩ := hT
  cases ht : taskOk t
  · have HT := hide ht
    clear ht
    go_enter Try.func70, Try.ntmps70
    go_wp2
    refine wp_loop_rounds 2 ?_; rw [rounds_succ]
    go_wp2_with (go_at_call 60; refine (shcheck1_any t _).mono ?_; rintro e w1 ⟨rfl, hb1⟩; rw [HT.out])
    go_ret
    exact ⟨ret_int (by simp), hb1⟩
  · have HT := hide ht
    clear ht
    go_enter Try.func70, Try.ntmps70
    go_wp2
    refine wp_loop_rounds 2 ?_; rw [rounds_succ]
    go_wp2_with (go_at_call 60; refine (shcheck1_any t _).mono ?_; rintro e w1 ⟨rfl, hb1⟩; rw [HT.out])
    rw [rounds_succ]
    go_wp2_with fail
    go_ret
    exact ⟨ret_int (by simp), hb1⟩

set_option maxHeartbeats 800000 in
theorem contf_one (b : Nat) (t : Tk) (w : World) (hT : TaskAt w b t) :
    Calls Try.prog 59 #[.slice (some ⟨b, 0, none⟩) 1 1, .func (.func 60) #[] #[]] w fun e w' => e = .returned (.bool (!taskOk t)) ∧ Below w.heap.size w w' := by
  cases ht : taskOk t
  · have HT := hide ht
    clear ht
    go_enter Try.func59, Try.ntmps59
    go_wp2_with (go_at_call 70; refine (indexf_one b t _ hT).mono ?_; rintro e w1 ⟨rfl, hb1⟩; simp only [HT.out])
    go_ret
    exact ⟨rfl, hb1⟩
  · have HT := hide ht
    clear ht
    go_enter Try.func59, Try.ntmps59
    go_wp2_with (go_at_call 70; refine (indexf_one b t _ hT).mono ?_; rintro e w1 ⟨rfl, hb1⟩; simp only [HT.out])
    go_ret
    exact ⟨rfl, hb1⟩

set_option maxHeartbeats 800000 in
theorem shcheck_one (b : Nat) (t : Tk) (w : World) (hT : TaskAt w b t) :
    Calls Try.prog 40 #[.slice (some ⟨b, 0, none⟩) 1 1] w fun e w' => e = .returned (.bool (taskOk t)) ∧ Below w.heap.size w w' := by
  go_enter Try.func40, Try.ntmps40
  go_wp2_with (go_at_call 59; refine (contf_one b t _ hT).mono ?_; rintro e w1 ⟨rfl, hb1⟩)
  go_ret
  exact ⟨ret_bool (by simp), hb1⟩

set_option maxRecDepth 100000 in
set_option maxHeartbeats 800000 in
theorem r30check_one (b : Nat) (t : Tk) (w : World) (hT : TaskAt w b t) (hb : b < w.heap.size) :
    Calls Try.prog 53 #[.slice (some ⟨b, 0, none⟩) 1 1] w fun e w' => e = .returned (.bool (taskOk t)) ∧ Below w.heap.size w w' := by
  obtain ⟨h0, h1, h2, h3⟩ := hT
  cases h1 : usableB t.pk t.ts
  · have HT := hide (show taskOk t = false by rw [taskOk, h1]; rfl)
    have H1 := hide h1
    clear h1
    go_enter Try.func53, Try.ntmps53
    go_wp2
    refine wp_loop_rounds 2 ?_; rw [rounds_succ]
    go_wp2_with (go_at_call 68; refine (usabler_any t.pk t.ts _).mono ?_; rintro e w1 ⟨rfl, hb1⟩; rw [H1.out])
    go_ret
    exact ⟨ret_bool HT.out.symm, hb1⟩
  · have HT := hide (show taskOk t = (placeB t.env && costB t.cost) by rw [taskOk, h1, Bool.true_and])
    have H1 := hide h1
    clear h1
    go_enter Try.func53, Try.ntmps53
    go_wp2
    refine wp_loop_rounds 2 ?_; rw [rounds_succ]
    go_wp2_with (first
      | (go_at_call 68; refine (usabler_any t.pk t.ts _).mono ?_; rintro e w1 ⟨rfl, hb1⟩; rw [H1.out]; obtain ⟨hc1, hf1, hz1⟩ := gcell (grown_of_below hb1 none) _ (Nat.le_refl _))
      | (go_at_call 69; refine (place_any t.env _).mono ?_; rintro e w2 ⟨rfl, rfl⟩))
    all_goals first
      | (go_ret; exact ⟨ret_bool (by rw [HT.out, Bool.eq_iff_iff]; simp [costB, *]; try omega), hb1⟩)
      | (rw [rounds_succ]; go_wp2_with fail; go_ret; exact ⟨ret_bool (by rw [HT.out, Bool.eq_iff_iff]; simp [costB, *]; try omega), hb1⟩)

end Go.Proofs.Ytjhkgoengoiljaa

/- Contracts: a ticket is right. -/
namespace Go.Proofs.Ytjhkgoengoiljaa
open Go.RowKit

theorem bb_start {w w1 : World} {o1 o2 : Obj} (hb : Below ((w.alloc o1).alloc o2).heap.size ((w.alloc o1).alloc o2) w1) : Below w.heap.size w w1 :=
  (((Below.refl _ _).alloc (Nat.le_refl _) _).alloc (by simp) _).trans (hb.mono (by simp; omega))
theorem bb_trans {B : Nat} {w w1 w2 : World} (h : Below B w w1) (hB : B ≤ w1.heap.size) (hb : Below w1.heap.size w1 w2) : Below B w w2 := h.trans (hb.mono hB)


set_option maxRecDepth 100000 in
set_option maxHeartbeats 2000000 in
theorem right_any (t : Tk) (w : World) :
    Calls Try.prog 32 #[.agg #[.string t.pk, .string t.ts, .int .i64 t.env, .int .i64 t.cost, .int .i64 t.rev, .int .i64 t.st, .int .i64 t.att, .int .i64 t.run, .int .i64 t.ep, .int .i64 t.out]] w fun e w' => e = .returned (.bool (tkOk t)) ∧ Below w.heap.size w w' := by
  go_enter Try.func32, Try.ntmps32
  go_wp2_with (first | (go_at_call 40; refine (shcheck_one (w.heap.size + 1) t _ (by simp [TaskAt])).mono ?_; rintro e w1 ⟨rfl, hb1⟩; have hb2 := bb_start hb1; obtain ⟨hc1, hf1, hz1⟩ := gcell (grown_of_below hb1 none) (w.heap.size + 1) (by first | (simp; done) | (simp; omega)); have : w.heap.size < w1.heap.size := (by omega)) | (go_at_call 44; refine (runs_any t _).mono ?_; rintro e w2 ⟨rfl, hb3⟩; obtain ⟨hc2, hf2, hz2⟩ := gcell (grown_of_below hb3 none) (w.heap.size + 1) hz1; have hb4 := bb_trans hb2 (by omega) hb3) | (go_at_call 52; refine (rests_any t _).mono ?_; rintro e w3 ⟨rfl, hb5⟩; obtain ⟨hc3, hf3, hz3⟩ := gcell (grown_of_below hb5 none) (w.heap.size + 1) (by omega); have hb6 : Below w.heap.size w w3 := (by first | exact bb_trans hb4 (by omega) hb5 | exact bb_trans hb2 (by omega) hb5)) | (go_at_call 33; refine (reported_any _ _).mono ?_; rintro e w4 ⟨rfl, rfl⟩))
  all_goals (go_ret; refine ⟨ret_bool ?_, ?_⟩)
  all_goals first
    | (first | exact hb6 | exact hb4 | exact hb2)
    | (simp_all [tkOk, stateB, revB]; done)
    | (simp_all [tkOk, stateB, revB]; omega)
    | trace_state

end Go.Proofs.Ytjhkgoengoiljaa

/- Contracts: copied, with, find, failed, fail. -/
namespace Go.Proofs.Ytjhkgoengoiljaa
open Go.RowKit

def Tk.vals (t : Tk) : List Value := [.string t.pk, .string t.ts, .int .i64 t.env, .int .i64 t.cost, .int .i64 t.rev, .int .i64 t.st, .int .i64 t.att, .int .i64 t.run, .int .i64 t.ep, .int .i64 t.out]
theorem Tk.vals_len (t : Tk) : t.vals.length = 10 := rfl
theorem Tk.vals_one (t : Tk) : ∀ u ∈ t.vals, u.oneCell' = true := by
  intro u hu
  simp [Tk.vals] at hu
  rcases hu with rfl | rfl | rfl | rfl | rfl | rfl | rfl | rfl | rfl | rfl <;> rfl

/-- The ten cells of a ticket from place o on of block b. -/
def TkAt (w : World) (b o : Nat) (t : Tk) : Prop :=
  w.cell? ⟨b, o, none⟩ = some (.string t.pk) ∧ w.cell? ⟨b, o + 1, none⟩ = some (.string t.ts) ∧ w.cell? ⟨b, o + 2, none⟩ = some (.int .i64 t.env) ∧ w.cell? ⟨b, o + 3, none⟩ = some (.int .i64 t.cost) ∧
  w.cell? ⟨b, o + 4, none⟩ = some (.int .i64 t.rev) ∧ w.cell? ⟨b, o + 5, none⟩ = some (.int .i64 t.st) ∧ w.cell? ⟨b, o + 6, none⟩ = some (.int .i64 t.att) ∧ w.cell? ⟨b, o + 7, none⟩ = some (.int .i64 t.run) ∧
  w.cell? ⟨b, o + 8, none⟩ = some (.int .i64 t.ep) ∧ w.cell? ⟨b, o + 9, none⟩ = some (.int .i64 t.out)
theorem tkAt_of {w : World} {b o : Nat} {t : Tk} (h : ∀ j u, t.vals[j]? = some u → w.cell? ⟨b, o + j, none⟩ = some u) : TkAt w b o t :=
  ⟨h 0 _ rfl, h 1 _ rfl, h 2 _ rfl, h 3 _ rfl, h 4 _ rfl, h 5 _ rfl, h 6 _ rfl, h 7 _ rfl, h 8 _ rfl, h 9 _ rfl⟩

/-- All ten cells of ticket k are set. -/
theorem own_put10 {w : World} {base g n cap k : Nat} {e : TypeId} {l : List Tk} {t0 : Tk} (t : Tk) (s0 : w.ownsRow base e 10 (.slice (some ⟨g, 0, none⟩) n cap) n ((l.set k t0).flatMap Tk.vals)) (hkl : k < l.length) :
    World.ownsRow ((((((((((w.setCell ⟨g, k * 10 + 0, none⟩ (.string t.pk)).setCell ⟨g, k * 10 + 1, none⟩ (.string t.ts)).setCell ⟨g, k * 10 + 2, none⟩ (.int .i64 t.env)).setCell ⟨g, k * 10 + 3, none⟩ (.int .i64 t.cost)).setCell ⟨g, k * 10 + 4, none⟩ (.int .i64 t.rev)).setCell ⟨g, k * 10 + 5, none⟩ (.int .i64 t.st)).setCell ⟨g, k * 10 + 6, none⟩ (.int .i64 t.att)).setCell ⟨g, k * 10 + 7, none⟩ (.int .i64 t.run)).setCell ⟨g, k * 10 + 8, none⟩ (.int .i64 t.ep)).setCell ⟨g, k * 10 + 9, none⟩ (.int .i64 t.out)) base e 10 (.slice (some ⟨g, 0, none⟩) n cap) n ((l.set k t).flatMap Tk.vals) := by
  have s1 := own_put Tk.vals_len (j := 0) (t1 := { t0 with pk := t.pk }) (u := .string t.pk) s0 hkl (by decide) rfl
  have s2 := own_put Tk.vals_len (j := 1) (t1 := { t0 with pk := t.pk, ts := t.ts }) (u := .string t.ts) s1 hkl (by decide) rfl
  have s3 := own_put Tk.vals_len (j := 2) (t1 := { t0 with pk := t.pk, ts := t.ts, env := t.env }) (u := .int .i64 t.env) s2 hkl (by decide) rfl
  have s4 := own_put Tk.vals_len (j := 3) (t1 := { t0 with pk := t.pk, ts := t.ts, env := t.env, cost := t.cost }) (u := .int .i64 t.cost) s3 hkl (by decide) rfl
  have s5 := own_put Tk.vals_len (j := 4) (t1 := { t0 with pk := t.pk, ts := t.ts, env := t.env, cost := t.cost, rev := t.rev }) (u := .int .i64 t.rev) s4 hkl (by decide) rfl
  have s6 := own_put Tk.vals_len (j := 5) (t1 := { t0 with pk := t.pk, ts := t.ts, env := t.env, cost := t.cost, rev := t.rev, st := t.st }) (u := .int .i64 t.st) s5 hkl (by decide) rfl
  have s7 := own_put Tk.vals_len (j := 6) (t1 := { t0 with pk := t.pk, ts := t.ts, env := t.env, cost := t.cost, rev := t.rev, st := t.st, att := t.att }) (u := .int .i64 t.att) s6 hkl (by decide) rfl
  have s8 := own_put Tk.vals_len (j := 7) (t1 := { t0 with pk := t.pk, ts := t.ts, env := t.env, cost := t.cost, rev := t.rev, st := t.st, att := t.att, run := t.run }) (u := .int .i64 t.run) s7 hkl (by decide) rfl
  have s9 := own_put Tk.vals_len (j := 8) (t1 := { t0 with pk := t.pk, ts := t.ts, env := t.env, cost := t.cost, rev := t.rev, st := t.st, att := t.att, run := t.run, ep := t.ep }) (u := .int .i64 t.ep) s8 hkl (by decide) rfl
  have s10 := own_put Tk.vals_len (j := 9) (t1 := { t0 with pk := t.pk, ts := t.ts, env := t.env, cost := t.cost, rev := t.rev, st := t.st, att := t.att, run := t.run, ep := t.ep, out := t.out }) (u := .int .i64 t.out) s9 hkl (by decide) rfl
  exact s10

theorem info43 : (Try.prog.info? 43).map (fun i => (i.zero, i.size, i.bytes)) = some (some (.agg #[.string ByteArray.empty, .string ByteArray.empty, .int .i64 0, .int .i64 0, .int .i64 0, .int .i64 0, .int .i64 0, .int .i64 0, .int .i64 0, .int .i64 0]), 10, 96) := by kernel_rfl
theorem size43 : (Try.prog.info? 43).map (·.size) = some 10 := by kernel_rfl

set_option maxHeartbeats 800000 in
theorem copied_any (A : Option Addr) (c n : Nat) (L : Ld) (w : World) (av : Option Nat) (hR : Rs w av 10 Tk.vals A L.tks) (hn : L.tks.length = n) (h128 : n ≤ 128) :
    Calls Try.prog 41 #[.agg #[.slice A n c, .int .i64 L.r0, .int .i64 L.r1, .int .i64 L.r2, .int .i64 L.r3, .int .i64 L.r4, .int .i64 L.r5]] w fun e w' =>
      ∃ g, e = .returned (.agg #[.slice (some ⟨g, 0, none⟩) n (n + 1), .int .i64 L.r0, .int .i64 L.r1, .int .i64 L.r2, .int .i64 L.r3, .int .i64 L.r4, .int .i64 L.r5]) ∧
        w'.ownsRow w.heap.size 43 10 (.slice (some ⟨g, 0, none⟩) n (n + 1)) n (L.tks.flatMap Tk.vals) ∧ Below w.heap.size w w' := by
  have hN := hide hn; clear hn
  go_enter Try.func41, Try.ntmps41
  go_wp2_with (first
    | (at_make; refine wl_make _ rfl _ _ _ rfl w.heap.size 43 _ 10 96 Try.underlying23 info43 (w.heap.size + 2) n (n + 1) (by simp) _ _ rfl rfl rfl (by omega) (by omega) rfl (by omega) (by simp only [maxLen]; omega) (by simp; omega) ?_; intro w1 ys hown1 _ hg1; obtain ⟨hc1, hf1, hz1⟩ := gcell hg1 (w.heap.size + 2) (by simp))
    | (refine wl_copy _ rfl (.tmp 12) (.tmp 14) 23 23 rfl 43 10 Try.underlying23 size43 w.heap.size (w.heap.size + 2) n (n + 1) c ys A rfl rfl hown1 L.tks (((hR.alloc _).alloc _).grown hg1 (.inr rfl)) hN.out Tk.vals_len Tk.vals_one ?_; intro w2 hown2 hg2; obtain ⟨hc2, hf2, hz2⟩ := gcell hg2 (w.heap.size + 2) hz1))
  refine bodyPost_ret (v := .agg #[.slice (some ⟨w.heap.size + 2, 0, none⟩) n (n + 1), .int .i64 L.r0, .int .i64 L.r1, .int .i64 L.r2, .int .i64 L.r3, .int .i64 L.r4, .int .i64 L.r5]) (by simp [results, Try.results41, go_sem, hc1, hc2]) rfl ⟨_, rfl, ?_, ?_⟩
  · (repeat' refine own_far ?_ (by simp [Value.ownBlock]) _); exact hown2
  · (repeat' refine Below.setCell ?_ (by simp) _)
    exact ((((Below.refl _ _).alloc (Nat.le_refl _) _).alloc (by simp) _).grown hg1 (by simp; omega) (by simp)).grown hg2 (by omega) (by simp)

end Go.Proofs.Ytjhkgoengoiljaa
