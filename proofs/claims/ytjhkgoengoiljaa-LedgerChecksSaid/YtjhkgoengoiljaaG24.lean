/- Contracts of the functions that these laws reach: part 24: Contracts: Totals of both. -/
import Derived.Test.YtjhkgoengoiljaaG7
import Derived.Test.YtjhkgoengoiljaaG2
set_option linter.unusedVariables false
set_option linter.unusedSimpArgs false

/- Contracts: Totals of both. -/
namespace Go.Proofs.Ytjhkgoengoiljaa
open Go.RowKit

def cnt : Nat → List Tk → Nat
  | 0 => countOf (stIs 0)
  | 1 => countOf (stIs 1)
  | 2 => countOf (doneIs 0)
  | 3 => countOf (doneIs 1)
  | 4 => countOf (doneIs 2)
  | 5 => countOf (doneIs 3)
  | 6 => countOf (doneIs 4)
  | 7 => countOf (doneIs 5)
  | _ => countOf (doneIs 6)
def cntP : Nat → Tk → Bool
  | 0 => stIs 0
  | 1 => stIs 1
  | 2 => doneIs 0
  | 3 => doneIs 1
  | 4 => doneIs 2
  | 5 => doneIs 3
  | 6 => doneIs 4
  | 7 => doneIs 5
  | _ => doneIs 6
theorem countOf_append (p : Tk → Bool) (t : Tk) : ∀ l : List Tk, countOf p (l ++ [t]) = countOf p l + if p t then 1 else 0
  | [] => by simp [countOf]
  | x :: l => by simp only [List.cons_append, countOf, countOf_append p t l]; omega
theorem countOf_le (p : Tk → Bool) : ∀ l : List Tk, countOf p l ≤ l.length
  | [] => Nat.le_refl _
  | x :: l => by
    have := countOf_le p l
    simp only [countOf, List.length_cons]
    split <;> omega
theorem cnt_eq (j : Nat) (l : List Tk) : cnt j l = countOf (cntP j) l := by
  match j with
  | 0 | 1 | 2 | 3 | 4 | 5 | 6 | 7 => rfl
  | j + 8 => rfl
theorem cnt_take (j : Nat) {l : List Tk} {k : Nat} {t : Tk} (h : l[k]? = some t) : cnt j (l.take (k + 1)) = cnt j (l.take k) + if cntP j t then 1 else 0 := by
  rw [cnt_eq, cnt_eq, List.take_add_one, h]
  exact countOf_append _ _ _
theorem cnt_le (j : Nat) (l : List Tk) : cnt j l ≤ l.length := by rw [cnt_eq]; exact countOf_le _ _
theorem tk_cases {t : Tk} (h : tkOk t = true) : t.st = 0 ∨ t.st = 1 ∨ (t.st = 2 ∧ (t.out = 1 ∨ t.out = 2 ∨ t.out = 3 ∨ t.out = 4 ∨ t.out = 5 ∨ t.out = 6)) := by
  have hs : stateB t = true := by simp [tkOk] at h; exact h.2
  by_cases h0 : t.st = 0
  · exact .inl h0
  · by_cases h1 : t.st = 1
    · exact .inr (.inl h1)
    · by_cases h2 : t.st = 2
      · refine .inr (.inr ⟨h2, ?_⟩)
        by_cases h6 : t.out = 6
        · simp [h6]
        · by_cases h45 : t.out = 4 ∨ t.out = 5
          · omega
          · rw [stateB, if_neg h0, if_neg h1, if_pos h2, if_neg h6, if_neg h45] at hs
            simp [repB] at hs
            omega
      · simp [stateB, h0, h1, h2] at hs

/-- The ten cells of a Totals at block B. -/
def TotAt (w : World) (B : Nat) (n : Nat) (l : List Tk) : Prop :=
  w.cell? ⟨B, 0, none⟩ = some (.int .i64 n) ∧ w.cell? ⟨B, 1, none⟩ = some (.int .i64 (cnt 0 l : Nat)) ∧ w.cell? ⟨B, 2, none⟩ = some (.int .i64 (cnt 1 l : Nat)) ∧ w.cell? ⟨B, 3, none⟩ = some (.int .i64 (cnt 2 l : Nat)) ∧ w.cell? ⟨B, 4, none⟩ = some (.int .i64 (cnt 3 l : Nat)) ∧ w.cell? ⟨B, 5, none⟩ = some (.int .i64 (cnt 4 l : Nat)) ∧ w.cell? ⟨B, 6, none⟩ = some (.int .i64 (cnt 5 l : Nat)) ∧ w.cell? ⟨B, 7, none⟩ = some (.int .i64 (cnt 6 l : Nat)) ∧ w.cell? ⟨B, 8, none⟩ = some (.int .i64 (cnt 7 l : Nat)) ∧ w.cell? ⟨B, 9, none⟩ = some (.int .i64 (cnt 8 l : Nat))
def ZAt (w : World) (B : Nat) : Prop := (∀ j, j < 10 → w.cell? ⟨B, j, none⟩ = some (.int .i64 0)) ∧ ∀ j, w.frozen? ⟨B, j, none⟩ = false

set_option maxRecDepth 100000 in
set_option maxHeartbeats 1000000 in
theorem totals_bad (w : World) (av : Option Nat) (A : Option Addr) (c n : Nat) (L : Ld) (hR : Rs w av 10 Tk.vals A L.tks) (hn : L.tks.length = n) (hc63 : n ≤ 4294967296) (hok : L.ok = false) :
    Calls Try.prog 26 #[.agg #[.slice A n c, .int .i64 L.r0, .int .i64 L.r1, .int .i64 L.r2, .int .i64 L.r3, .int .i64 L.r4, .int .i64 L.r5]] w fun e w' => e = .returned (.tuple #[.agg #[.int .i64 0, .int .i64 0, .int .i64 0, .int .i64 0, .int .i64 0, .int .i64 0, .int .i64 0, .int .i64 0, .int .i64 0, .int .i64 0], .int .i64 1]) ∧ Below w.heap.size w w' := by
  have hN := hide hn; clear hn
  have HK := hide hok; clear hok
  go_enter Try.func26, Try.ntmps26
  go_wp2_with (go_at_call 11; refine (check_any A c n L _ av ((hR.alloc _).alloc _) hN.out hc63).mono ?_; rintro e w1 ⟨rfl, hb1⟩; rw [HK.out]; obtain ⟨hc1, hf1, hz1⟩ := gcell (grown_of_below hb1 none) (w.heap.size + 2) (by first | (simp; done) | (simp; omega)); have : w.heap.size < w1.heap.size := (by omega); have : w.heap.size + 1 < w1.heap.size := (by omega))
  refine bodyPost_ret (by simp [results, Try.results26, go_sem, *]) rfl ⟨rfl, ?_⟩
  (refine Fr.below (S := fun _ => False) ?_ (Nat.le_refl _) (fun _ _ h => h); (repeat' first | (with_reducible refine Fr.setCell ?_ (Or.inl (by first | (simp; done) | (simp; omega))) _) | (with_reducible refine Fr.alloc ?_ _) | (with_reducible refine Fr.drew ?_)); exact (((Fr.refl w _).alloc _).alloc _).below_ hb1)

set_option maxRecDepth 100000 in
set_option maxHeartbeats 1000000 in
theorem rtotals_bad (w : World) (av : Option Nat) (A : Option Addr) (c n : Nat) (L : Ld) (hR : Rs w av 10 Tk.vals A L.tks) (hn : L.tks.length = n) (hc63 : n ≤ 4294967296) (hok : L.ok = false) :
    Calls Try.prog 27 #[.agg #[.slice A n c, .int .i64 L.r0, .int .i64 L.r1, .int .i64 L.r2, .int .i64 L.r3, .int .i64 L.r4, .int .i64 L.r5]] w fun e w' => e = .returned (.tuple #[.agg #[.int .i64 0, .int .i64 0, .int .i64 0, .int .i64 0, .int .i64 0, .int .i64 0, .int .i64 0, .int .i64 0, .int .i64 0, .int .i64 0], .int .i64 1]) ∧ Below w.heap.size w w' := by
  have hN := hide hn; clear hn
  have HK := hide hok; clear hok
  go_enter Try.func27, Try.ntmps27
  go_wp2_with (go_at_call 30; refine (rcheck_any A c n L _ av ((hR.alloc _).alloc _) hN.out hc63).mono ?_; rintro e w1 ⟨rfl, hb1⟩; rw [HK.out]; obtain ⟨hc1, hf1, hz1⟩ := gcell (grown_of_below hb1 none) (w.heap.size + 2) (by first | (simp; done) | (simp; omega)); have : w.heap.size < w1.heap.size := (by omega); have : w.heap.size + 1 < w1.heap.size := (by omega))
  refine bodyPost_ret (by simp [results, Try.results27, go_sem, *]) rfl ⟨rfl, ?_⟩
  (refine Fr.below (S := fun _ => False) ?_ (Nat.le_refl _) (fun _ _ h => h); (repeat' first | (with_reducible refine Fr.setCell ?_ (Or.inl (by first | (simp; done) | (simp; omega))) _) | (with_reducible refine Fr.alloc ?_ _) | (with_reducible refine Fr.drew ?_)); exact (((Fr.refl w _).alloc _).alloc _).below_ hb1)

set_option maxRecDepth 100000 in
set_option maxHeartbeats 4000000 in
theorem totals_ok (w : World) (av : Option Nat) (A : Option Addr) (c n : Nat) (L : Ld) (hR : Rs w av 10 Tk.vals A L.tks) (hn : L.tks.length = n) (hc63 : n ≤ 4294967296) (hok : L.ok = true) :
    Calls Try.prog 26 #[.agg #[.slice A n c, .int .i64 L.r0, .int .i64 L.r1, .int .i64 L.r2, .int .i64 L.r3, .int .i64 L.r4, .int .i64 L.r5]] w fun e w' => e = .returned (.tuple #[.agg #[.int .i64 n, .int .i64 (cnt 0 (L.tks) : Nat), .int .i64 (cnt 1 (L.tks) : Nat), .int .i64 (cnt 2 (L.tks) : Nat), .int .i64 (cnt 3 (L.tks) : Nat), .int .i64 (cnt 4 (L.tks) : Nat), .int .i64 (cnt 5 (L.tks) : Nat), .int .i64 (cnt 6 (L.tks) : Nat), .int .i64 (cnt 7 (L.tks) : Nat), .int .i64 (cnt 8 (L.tks) : Nat)], .int .i64 0]) ∧ Below w.heap.size w w' := by
  have h128 : n ≤ 128 := by have : L.tks.length ≤ 128 := (by simp [Ld.ok] at hok; exact hok.1.1.1); omega
  have HTK := hide (show ∀ (i : Nat) (t : Tk), L.tks[i]? = some t → tkOk t = true from fun i t hi => by simp [Ld.ok] at hok; exact hok.1.2 t (List.mem_of_getElem? hi))
  have hN := hide hn; clear hn
  have HK := hide hok; clear hok
  go_enter Try.func26, Try.ntmps26
  go_wp2_with (go_at_call 11; refine (check_any A c n L _ av ((hR.alloc _).alloc _) hN.out hc63).mono ?_; rintro e w1 ⟨rfl, hb1⟩; rw [HK.out]; obtain ⟨hc1, hf1, hz1⟩ := gcell (grown_of_below hb1 none) (w.heap.size + 2) (by first | (simp; done) | (simp; omega)); have : w.heap.size < w1.heap.size := (by omega); have : w.heap.size + 1 < w1.heap.size := (by omega))
  have HR1 := hide (((hR.alloc _).alloc _).below hb1)
  have HF1 := hide ((((Fr.refl w (fun _ => False)).alloc _).alloc _).below_ hb1)
  have z0 : w1.cell? ⟨w.heap.size, 0, none⟩ = some (.slice A n c) := by go_simp
  have Z0 := hide z0
  have HZ := hide (show ZAt w1 (w.heap.size + 1) from ⟨fun j hj => by
    match j, hj with
    | 0, _ | 1, _ | 2, _ | 3, _ | 4, _ | 5, _ | 6, _ | 7, _ | 8, _ | 9, _ => go_simp
    | j + 10, hj => omega, fun j => by go_simp⟩)
  clear hc1 hf1 hb1 hR z0
  go_loopw [18] (fun x wr => ∃ (k : Nat), k ≤ n ∧ x = .int .i64 k ∧ Hid (TotAt wr w1.heap.size n (L.tks.take k)) ∧ (∀ j, wr.frozen? ⟨w1.heap.size, j, none⟩ = false) ∧ Hid (Fr w1 wr (fun i => i = w1.heap.size)) ∧ w1.heap.size < wr.heap.size) (fun x _ => n - (intOf x).toNat)
  case atStart => exact ⟨0, by omega, rfl, hide (by unfold TotAt; refine ⟨?_, ?_, ?_, ?_, ?_, ?_, ?_, ?_, ?_, ?_⟩ <;> go_simp <;> rfl), by intro j; go_simp, hide ((Fr.refl _ _).alloc _), by simp⟩
  case round =>
    obtain ⟨k, hk, rfl, HT, gB, HF, hlB⟩ := hrel
    obtain ⟨t0, t1, t2, t3, t4, t5, t6, t7, t8, t9⟩ := HT.out
    have hzr := HF.out.size
    obtain ⟨hcF, hfF, -⟩ := fcell HF.out w1.heap.size (Nat.le_refl _)
    have z0 : wr.cell? ⟨w.heap.size, 0, none⟩ = some (.slice A n c) := (hcF _ _ (by omega) (by omega)).trans Z0.out
    have hB1 := HF.out.below (B := w1.heap.size) (Nat.le_refl _) (fun i hi h => by omega)
    by_cases hlt : k < n
    · have hi1 : (0 : Int) ≤ (k : Int) := by omega
      have hi2 : (k : Int) < (n : Int) := by omega
      obtain ⟨t, ht⟩ : ∃ t, L.tks[k]? = some t := ⟨_, List.getElem?_eq_getElem (by have := hN.out; omega)⟩
      have HKT := hide ht
      have HTC := hide (tk_cases (HTK.out _ _ ht))
      obtain ⟨b, o, rfl, -, hb, hcells⟩ := (HR1.out.below hB1).at ht
      obtain ⟨f0, f1, f2, f3, f4, f5, f6, f7, f8, f9⟩ := tkAt_of hcells
      clear hcells ht hB1 hcF hfF
      obtain ⟨a0, ha0⟩ : ∃ a, a = cnt 0 (L.tks.take k) := ⟨_, rfl⟩
      have hb0 : a0 ≤ 128 := by have h1 := cnt_le 0 (L.tks.take k); have h2 : (L.tks.take k).length ≤ k := List.length_take_le _ _; omega
      rw [← ha0] at t1
      have HA0 := hide ha0
      clear ha0
      obtain ⟨a1, ha1⟩ : ∃ a, a = cnt 1 (L.tks.take k) := ⟨_, rfl⟩
      have hb1 : a1 ≤ 128 := by have h1 := cnt_le 1 (L.tks.take k); have h2 : (L.tks.take k).length ≤ k := List.length_take_le _ _; omega
      rw [← ha1] at t2
      have HA1 := hide ha1
      clear ha1
      obtain ⟨a2, ha2⟩ : ∃ a, a = cnt 2 (L.tks.take k) := ⟨_, rfl⟩
      have hb2 : a2 ≤ 128 := by have h1 := cnt_le 2 (L.tks.take k); have h2 : (L.tks.take k).length ≤ k := List.length_take_le _ _; omega
      rw [← ha2] at t3
      have HA2 := hide ha2
      clear ha2
      obtain ⟨a3, ha3⟩ : ∃ a, a = cnt 3 (L.tks.take k) := ⟨_, rfl⟩
      have hb3 : a3 ≤ 128 := by have h1 := cnt_le 3 (L.tks.take k); have h2 : (L.tks.take k).length ≤ k := List.length_take_le _ _; omega
      rw [← ha3] at t4
      have HA3 := hide ha3
      clear ha3
      obtain ⟨a4, ha4⟩ : ∃ a, a = cnt 4 (L.tks.take k) := ⟨_, rfl⟩
      have hb4 : a4 ≤ 128 := by have h1 := cnt_le 4 (L.tks.take k); have h2 : (L.tks.take k).length ≤ k := List.length_take_le _ _; omega
      rw [← ha4] at t5
      have HA4 := hide ha4
      clear ha4
      obtain ⟨a5, ha5⟩ : ∃ a, a = cnt 5 (L.tks.take k) := ⟨_, rfl⟩
      have hb5 : a5 ≤ 128 := by have h1 := cnt_le 5 (L.tks.take k); have h2 : (L.tks.take k).length ≤ k := List.length_take_le _ _; omega
      rw [← ha5] at t6
      have HA5 := hide ha5
      clear ha5
      obtain ⟨a6, ha6⟩ : ∃ a, a = cnt 6 (L.tks.take k) := ⟨_, rfl⟩
      have hb6 : a6 ≤ 128 := by have h1 := cnt_le 6 (L.tks.take k); have h2 : (L.tks.take k).length ≤ k := List.length_take_le _ _; omega
      rw [← ha6] at t7
      have HA6 := hide ha6
      clear ha6
      obtain ⟨a7, ha7⟩ : ∃ a, a = cnt 7 (L.tks.take k) := ⟨_, rfl⟩
      have hb7 : a7 ≤ 128 := by have h1 := cnt_le 7 (L.tks.take k); have h2 : (L.tks.take k).length ≤ k := List.length_take_le _ _; omega
      rw [← ha7] at t8
      have HA7 := hide ha7
      clear ha7
      obtain ⟨a8, ha8⟩ : ∃ a, a = cnt 8 (L.tks.take k) := ⟨_, rfl⟩
      have hb8 : a8 ≤ 128 := by have h1 := cnt_le 8 (L.tks.take k); have h2 : (L.tks.take k).length ≤ k := List.length_take_le _ _; omega
      rw [← ha8] at t9
      have HA8 := hide ha8
      clear ha8
      have n0 : w.heap.size < wr.heap.size := by omega
      have m0 : ¬ w1.heap.size = wr.heap.size := by omega
      have m1 : ¬ w1.heap.size = w.heap.size := by omega
      rcases HTC.out with hs | hs | ⟨hs, ho | ho | ho | ho | ho | ho⟩
      · rw [hs] at f5
        have HE0 := hide (show ((cnt 0 (L.tks.take (k + 1)) : Nat) : Int) = (a0 : Int) + 1 from by rw [cnt_take 0 HKT.out, ← HA0.out]; simp [cntP, stIs, doneIs, hs])
        have HE1 := hide (show ((cnt 1 (L.tks.take (k + 1)) : Nat) : Int) = (a1 : Int) from by rw [cnt_take 1 HKT.out, ← HA1.out]; simp [cntP, stIs, doneIs, hs])
        have HE2 := hide (show ((cnt 2 (L.tks.take (k + 1)) : Nat) : Int) = (a2 : Int) from by rw [cnt_take 2 HKT.out, ← HA2.out]; simp [cntP, stIs, doneIs, hs])
        have HE3 := hide (show ((cnt 3 (L.tks.take (k + 1)) : Nat) : Int) = (a3 : Int) from by rw [cnt_take 3 HKT.out, ← HA3.out]; simp [cntP, stIs, doneIs, hs])
        have HE4 := hide (show ((cnt 4 (L.tks.take (k + 1)) : Nat) : Int) = (a4 : Int) from by rw [cnt_take 4 HKT.out, ← HA4.out]; simp [cntP, stIs, doneIs, hs])
        have HE5 := hide (show ((cnt 5 (L.tks.take (k + 1)) : Nat) : Int) = (a5 : Int) from by rw [cnt_take 5 HKT.out, ← HA5.out]; simp [cntP, stIs, doneIs, hs])
        have HE6 := hide (show ((cnt 6 (L.tks.take (k + 1)) : Nat) : Int) = (a6 : Int) from by rw [cnt_take 6 HKT.out, ← HA6.out]; simp [cntP, stIs, doneIs, hs])
        have HE7 := hide (show ((cnt 7 (L.tks.take (k + 1)) : Nat) : Int) = (a7 : Int) from by rw [cnt_take 7 HKT.out, ← HA7.out]; simp [cntP, stIs, doneIs, hs])
        have HE8 := hide (show ((cnt 8 (L.tks.take (k + 1)) : Nat) : Int) = (a8 : Int) from by rw [cnt_take 8 HKT.out, ← HA8.out]; simp [cntP, stIs, doneIs, hs])
        clear hs
        go_wp2_with fail
        go_roundw
        case rel =>
          refine ⟨k + 1, by omega, by go_num, hide ?_, ?_, hide ?_, ?_⟩
          · unfold TotAt
            rw [HE0.out, HE1.out, HE2.out, HE3.out, HE4.out, HE5.out, HE6.out, HE7.out, HE8.out]
            refine ⟨?_, ?_, ?_, ?_, ?_, ?_, ?_, ?_, ?_, ?_⟩ <;> go_simp
          · intro j; go_simp
          · first | (refine Fr.alloc (Fr.setCell ?_ (Or.inr (by rfl)) _) _; exact HF.out) | (refine Fr.setCell ?_ (Or.inr (by rfl)) _; exact HF.out)
          · simp; omega
        case measure => simp [intOf]; omega
      · rw [hs] at f5
        have HE0 := hide (show ((cnt 0 (L.tks.take (k + 1)) : Nat) : Int) = (a0 : Int) from by rw [cnt_take 0 HKT.out, ← HA0.out]; simp [cntP, stIs, doneIs, hs])
        have HE1 := hide (show ((cnt 1 (L.tks.take (k + 1)) : Nat) : Int) = (a1 : Int) + 1 from by rw [cnt_take 1 HKT.out, ← HA1.out]; simp [cntP, stIs, doneIs, hs])
        have HE2 := hide (show ((cnt 2 (L.tks.take (k + 1)) : Nat) : Int) = (a2 : Int) from by rw [cnt_take 2 HKT.out, ← HA2.out]; simp [cntP, stIs, doneIs, hs])
        have HE3 := hide (show ((cnt 3 (L.tks.take (k + 1)) : Nat) : Int) = (a3 : Int) from by rw [cnt_take 3 HKT.out, ← HA3.out]; simp [cntP, stIs, doneIs, hs])
        have HE4 := hide (show ((cnt 4 (L.tks.take (k + 1)) : Nat) : Int) = (a4 : Int) from by rw [cnt_take 4 HKT.out, ← HA4.out]; simp [cntP, stIs, doneIs, hs])
        have HE5 := hide (show ((cnt 5 (L.tks.take (k + 1)) : Nat) : Int) = (a5 : Int) from by rw [cnt_take 5 HKT.out, ← HA5.out]; simp [cntP, stIs, doneIs, hs])
        have HE6 := hide (show ((cnt 6 (L.tks.take (k + 1)) : Nat) : Int) = (a6 : Int) from by rw [cnt_take 6 HKT.out, ← HA6.out]; simp [cntP, stIs, doneIs, hs])
        have HE7 := hide (show ((cnt 7 (L.tks.take (k + 1)) : Nat) : Int) = (a7 : Int) from by rw [cnt_take 7 HKT.out, ← HA7.out]; simp [cntP, stIs, doneIs, hs])
        have HE8 := hide (show ((cnt 8 (L.tks.take (k + 1)) : Nat) : Int) = (a8 : Int) from by rw [cnt_take 8 HKT.out, ← HA8.out]; simp [cntP, stIs, doneIs, hs])
        clear hs
        go_wp2_with fail
        go_roundw
        case rel =>
          refine ⟨k + 1, by omega, by go_num, hide ?_, ?_, hide ?_, ?_⟩
          · unfold TotAt
            rw [HE0.out, HE1.out, HE2.out, HE3.out, HE4.out, HE5.out, HE6.out, HE7.out, HE8.out]
            refine ⟨?_, ?_, ?_, ?_, ?_, ?_, ?_, ?_, ?_, ?_⟩ <;> go_simp
          · intro j; go_simp
          · first | (refine Fr.alloc (Fr.setCell ?_ (Or.inr (by rfl)) _) _; exact HF.out) | (refine Fr.setCell ?_ (Or.inr (by rfl)) _; exact HF.out)
          · simp; omega
        case measure => simp [intOf]; omega
      · rw [hs] at f5
        rw [ho] at f9
        have HE0 := hide (show ((cnt 0 (L.tks.take (k + 1)) : Nat) : Int) = (a0 : Int) from by rw [cnt_take 0 HKT.out, ← HA0.out]; simp [cntP, stIs, doneIs, hs, ho])
        have HE1 := hide (show ((cnt 1 (L.tks.take (k + 1)) : Nat) : Int) = (a1 : Int) from by rw [cnt_take 1 HKT.out, ← HA1.out]; simp [cntP, stIs, doneIs, hs, ho])
        have HE2 := hide (show ((cnt 2 (L.tks.take (k + 1)) : Nat) : Int) = (a2 : Int) from by rw [cnt_take 2 HKT.out, ← HA2.out]; simp [cntP, stIs, doneIs, hs, ho])
        have HE3 := hide (show ((cnt 3 (L.tks.take (k + 1)) : Nat) : Int) = (a3 : Int) + 1 from by rw [cnt_take 3 HKT.out, ← HA3.out]; simp [cntP, stIs, doneIs, hs, ho])
        have HE4 := hide (show ((cnt 4 (L.tks.take (k + 1)) : Nat) : Int) = (a4 : Int) from by rw [cnt_take 4 HKT.out, ← HA4.out]; simp [cntP, stIs, doneIs, hs, ho])
        have HE5 := hide (show ((cnt 5 (L.tks.take (k + 1)) : Nat) : Int) = (a5 : Int) from by rw [cnt_take 5 HKT.out, ← HA5.out]; simp [cntP, stIs, doneIs, hs, ho])
        have HE6 := hide (show ((cnt 6 (L.tks.take (k + 1)) : Nat) : Int) = (a6 : Int) from by rw [cnt_take 6 HKT.out, ← HA6.out]; simp [cntP, stIs, doneIs, hs, ho])
        have HE7 := hide (show ((cnt 7 (L.tks.take (k + 1)) : Nat) : Int) = (a7 : Int) from by rw [cnt_take 7 HKT.out, ← HA7.out]; simp [cntP, stIs, doneIs, hs, ho])
        have HE8 := hide (show ((cnt 8 (L.tks.take (k + 1)) : Nat) : Int) = (a8 : Int) from by rw [cnt_take 8 HKT.out, ← HA8.out]; simp [cntP, stIs, doneIs, hs, ho])
        clear hs ho
        go_wp2_with fail
        go_roundw
        case rel =>
          refine ⟨k + 1, by omega, by go_num, hide ?_, ?_, hide ?_, ?_⟩
          · unfold TotAt
            rw [HE0.out, HE1.out, HE2.out, HE3.out, HE4.out, HE5.out, HE6.out, HE7.out, HE8.out]
            refine ⟨?_, ?_, ?_, ?_, ?_, ?_, ?_, ?_, ?_, ?_⟩ <;> go_simp
          · intro j; go_simp
          · first | (refine Fr.alloc (Fr.setCell ?_ (Or.inr (by rfl)) _) _; exact HF.out) | (refine Fr.setCell ?_ (Or.inr (by rfl)) _; exact HF.out)
          · simp; omega
        case measure => simp [intOf]; omega
      · rw [hs] at f5
        rw [ho] at f9
        have HE0 := hide (show ((cnt 0 (L.tks.take (k + 1)) : Nat) : Int) = (a0 : Int) from by rw [cnt_take 0 HKT.out, ← HA0.out]; simp [cntP, stIs, doneIs, hs, ho])
        have HE1 := hide (show ((cnt 1 (L.tks.take (k + 1)) : Nat) : Int) = (a1 : Int) from by rw [cnt_take 1 HKT.out, ← HA1.out]; simp [cntP, stIs, doneIs, hs, ho])
        have HE2 := hide (show ((cnt 2 (L.tks.take (k + 1)) : Nat) : Int) = (a2 : Int) from by rw [cnt_take 2 HKT.out, ← HA2.out]; simp [cntP, stIs, doneIs, hs, ho])
        have HE3 := hide (show ((cnt 3 (L.tks.take (k + 1)) : Nat) : Int) = (a3 : Int) from by rw [cnt_take 3 HKT.out, ← HA3.out]; simp [cntP, stIs, doneIs, hs, ho])
        have HE4 := hide (show ((cnt 4 (L.tks.take (k + 1)) : Nat) : Int) = (a4 : Int) + 1 from by rw [cnt_take 4 HKT.out, ← HA4.out]; simp [cntP, stIs, doneIs, hs, ho])
        have HE5 := hide (show ((cnt 5 (L.tks.take (k + 1)) : Nat) : Int) = (a5 : Int) from by rw [cnt_take 5 HKT.out, ← HA5.out]; simp [cntP, stIs, doneIs, hs, ho])
        have HE6 := hide (show ((cnt 6 (L.tks.take (k + 1)) : Nat) : Int) = (a6 : Int) from by rw [cnt_take 6 HKT.out, ← HA6.out]; simp [cntP, stIs, doneIs, hs, ho])
        have HE7 := hide (show ((cnt 7 (L.tks.take (k + 1)) : Nat) : Int) = (a7 : Int) from by rw [cnt_take 7 HKT.out, ← HA7.out]; simp [cntP, stIs, doneIs, hs, ho])
        have HE8 := hide (show ((cnt 8 (L.tks.take (k + 1)) : Nat) : Int) = (a8 : Int) from by rw [cnt_take 8 HKT.out, ← HA8.out]; simp [cntP, stIs, doneIs, hs, ho])
        clear hs ho
        go_wp2_with fail
        go_roundw
        case rel =>
          refine ⟨k + 1, by omega, by go_num, hide ?_, ?_, hide ?_, ?_⟩
          · unfold TotAt
            rw [HE0.out, HE1.out, HE2.out, HE3.out, HE4.out, HE5.out, HE6.out, HE7.out, HE8.out]
            refine ⟨?_, ?_, ?_, ?_, ?_, ?_, ?_, ?_, ?_, ?_⟩ <;> go_simp
          · intro j; go_simp
          · first | (refine Fr.alloc (Fr.setCell ?_ (Or.inr (by rfl)) _) _; exact HF.out) | (refine Fr.setCell ?_ (Or.inr (by rfl)) _; exact HF.out)
          · simp; omega
        case measure => simp [intOf]; omega
      · rw [hs] at f5
        rw [ho] at f9
        have HE0 := hide (show ((cnt 0 (L.tks.take (k + 1)) : Nat) : Int) = (a0 : Int) from by rw [cnt_take 0 HKT.out, ← HA0.out]; simp [cntP, stIs, doneIs, hs, ho])
        have HE1 := hide (show ((cnt 1 (L.tks.take (k + 1)) : Nat) : Int) = (a1 : Int) from by rw [cnt_take 1 HKT.out, ← HA1.out]; simp [cntP, stIs, doneIs, hs, ho])
        have HE2 := hide (show ((cnt 2 (L.tks.take (k + 1)) : Nat) : Int) = (a2 : Int) from by rw [cnt_take 2 HKT.out, ← HA2.out]; simp [cntP, stIs, doneIs, hs, ho])
        have HE3 := hide (show ((cnt 3 (L.tks.take (k + 1)) : Nat) : Int) = (a3 : Int) from by rw [cnt_take 3 HKT.out, ← HA3.out]; simp [cntP, stIs, doneIs, hs, ho])
        have HE4 := hide (show ((cnt 4 (L.tks.take (k + 1)) : Nat) : Int) = (a4 : Int) from by rw [cnt_take 4 HKT.out, ← HA4.out]; simp [cntP, stIs, doneIs, hs, ho])
        have HE5 := hide (show ((cnt 5 (L.tks.take (k + 1)) : Nat) : Int) = (a5 : Int) + 1 from by rw [cnt_take 5 HKT.out, ← HA5.out]; simp [cntP, stIs, doneIs, hs, ho])
        have HE6 := hide (show ((cnt 6 (L.tks.take (k + 1)) : Nat) : Int) = (a6 : Int) from by rw [cnt_take 6 HKT.out, ← HA6.out]; simp [cntP, stIs, doneIs, hs, ho])
        have HE7 := hide (show ((cnt 7 (L.tks.take (k + 1)) : Nat) : Int) = (a7 : Int) from by rw [cnt_take 7 HKT.out, ← HA7.out]; simp [cntP, stIs, doneIs, hs, ho])
        have HE8 := hide (show ((cnt 8 (L.tks.take (k + 1)) : Nat) : Int) = (a8 : Int) from by rw [cnt_take 8 HKT.out, ← HA8.out]; simp [cntP, stIs, doneIs, hs, ho])
        clear hs ho
        go_wp2_with fail
        go_roundw
        case rel =>
          refine ⟨k + 1, by omega, by go_num, hide ?_, ?_, hide ?_, ?_⟩
          · unfold TotAt
            rw [HE0.out, HE1.out, HE2.out, HE3.out, HE4.out, HE5.out, HE6.out, HE7.out, HE8.out]
            refine ⟨?_, ?_, ?_, ?_, ?_, ?_, ?_, ?_, ?_, ?_⟩ <;> go_simp
          · intro j; go_simp
          · first | (refine Fr.alloc (Fr.setCell ?_ (Or.inr (by rfl)) _) _; exact HF.out) | (refine Fr.setCell ?_ (Or.inr (by rfl)) _; exact HF.out)
          · simp; omega
        case measure => simp [intOf]; omega
      · rw [hs] at f5
        rw [ho] at f9
        have HE0 := hide (show ((cnt 0 (L.tks.take (k + 1)) : Nat) : Int) = (a0 : Int) from by rw [cnt_take 0 HKT.out, ← HA0.out]; simp [cntP, stIs, doneIs, hs, ho])
        have HE1 := hide (show ((cnt 1 (L.tks.take (k + 1)) : Nat) : Int) = (a1 : Int) from by rw [cnt_take 1 HKT.out, ← HA1.out]; simp [cntP, stIs, doneIs, hs, ho])
        have HE2 := hide (show ((cnt 2 (L.tks.take (k + 1)) : Nat) : Int) = (a2 : Int) from by rw [cnt_take 2 HKT.out, ← HA2.out]; simp [cntP, stIs, doneIs, hs, ho])
        have HE3 := hide (show ((cnt 3 (L.tks.take (k + 1)) : Nat) : Int) = (a3 : Int) from by rw [cnt_take 3 HKT.out, ← HA3.out]; simp [cntP, stIs, doneIs, hs, ho])
        have HE4 := hide (show ((cnt 4 (L.tks.take (k + 1)) : Nat) : Int) = (a4 : Int) from by rw [cnt_take 4 HKT.out, ← HA4.out]; simp [cntP, stIs, doneIs, hs, ho])
        have HE5 := hide (show ((cnt 5 (L.tks.take (k + 1)) : Nat) : Int) = (a5 : Int) from by rw [cnt_take 5 HKT.out, ← HA5.out]; simp [cntP, stIs, doneIs, hs, ho])
        have HE6 := hide (show ((cnt 6 (L.tks.take (k + 1)) : Nat) : Int) = (a6 : Int) + 1 from by rw [cnt_take 6 HKT.out, ← HA6.out]; simp [cntP, stIs, doneIs, hs, ho])
        have HE7 := hide (show ((cnt 7 (L.tks.take (k + 1)) : Nat) : Int) = (a7 : Int) from by rw [cnt_take 7 HKT.out, ← HA7.out]; simp [cntP, stIs, doneIs, hs, ho])
        have HE8 := hide (show ((cnt 8 (L.tks.take (k + 1)) : Nat) : Int) = (a8 : Int) from by rw [cnt_take 8 HKT.out, ← HA8.out]; simp [cntP, stIs, doneIs, hs, ho])
        clear hs ho
        go_wp2_with fail
        go_roundw
        case rel =>
          refine ⟨k + 1, by omega, by go_num, hide ?_, ?_, hide ?_, ?_⟩
          · unfold TotAt
            rw [HE0.out, HE1.out, HE2.out, HE3.out, HE4.out, HE5.out, HE6.out, HE7.out, HE8.out]
            refine ⟨?_, ?_, ?_, ?_, ?_, ?_, ?_, ?_, ?_, ?_⟩ <;> go_simp
          · intro j; go_simp
          · first | (refine Fr.alloc (Fr.setCell ?_ (Or.inr (by rfl)) _) _; exact HF.out) | (refine Fr.setCell ?_ (Or.inr (by rfl)) _; exact HF.out)
          · simp; omega
        case measure => simp [intOf]; omega
      · rw [hs] at f5
        rw [ho] at f9
        have HE0 := hide (show ((cnt 0 (L.tks.take (k + 1)) : Nat) : Int) = (a0 : Int) from by rw [cnt_take 0 HKT.out, ← HA0.out]; simp [cntP, stIs, doneIs, hs, ho])
        have HE1 := hide (show ((cnt 1 (L.tks.take (k + 1)) : Nat) : Int) = (a1 : Int) from by rw [cnt_take 1 HKT.out, ← HA1.out]; simp [cntP, stIs, doneIs, hs, ho])
        have HE2 := hide (show ((cnt 2 (L.tks.take (k + 1)) : Nat) : Int) = (a2 : Int) from by rw [cnt_take 2 HKT.out, ← HA2.out]; simp [cntP, stIs, doneIs, hs, ho])
        have HE3 := hide (show ((cnt 3 (L.tks.take (k + 1)) : Nat) : Int) = (a3 : Int) from by rw [cnt_take 3 HKT.out, ← HA3.out]; simp [cntP, stIs, doneIs, hs, ho])
        have HE4 := hide (show ((cnt 4 (L.tks.take (k + 1)) : Nat) : Int) = (a4 : Int) from by rw [cnt_take 4 HKT.out, ← HA4.out]; simp [cntP, stIs, doneIs, hs, ho])
        have HE5 := hide (show ((cnt 5 (L.tks.take (k + 1)) : Nat) : Int) = (a5 : Int) from by rw [cnt_take 5 HKT.out, ← HA5.out]; simp [cntP, stIs, doneIs, hs, ho])
        have HE6 := hide (show ((cnt 6 (L.tks.take (k + 1)) : Nat) : Int) = (a6 : Int) from by rw [cnt_take 6 HKT.out, ← HA6.out]; simp [cntP, stIs, doneIs, hs, ho])
        have HE7 := hide (show ((cnt 7 (L.tks.take (k + 1)) : Nat) : Int) = (a7 : Int) + 1 from by rw [cnt_take 7 HKT.out, ← HA7.out]; simp [cntP, stIs, doneIs, hs, ho])
        have HE8 := hide (show ((cnt 8 (L.tks.take (k + 1)) : Nat) : Int) = (a8 : Int) from by rw [cnt_take 8 HKT.out, ← HA8.out]; simp [cntP, stIs, doneIs, hs, ho])
        clear hs ho
        go_wp2_with fail
        go_roundw
        case rel =>
          refine ⟨k + 1, by omega, by go_num, hide ?_, ?_, hide ?_, ?_⟩
          · unfold TotAt
            rw [HE0.out, HE1.out, HE2.out, HE3.out, HE4.out, HE5.out, HE6.out, HE7.out, HE8.out]
            refine ⟨?_, ?_, ?_, ?_, ?_, ?_, ?_, ?_, ?_, ?_⟩ <;> go_simp
          · intro j; go_simp
          · first | (refine Fr.alloc (Fr.setCell ?_ (Or.inr (by rfl)) _) _; exact HF.out) | (refine Fr.setCell ?_ (Or.inr (by rfl)) _; exact HF.out)
          · simp; omega
        case measure => simp [intOf]; omega
      · rw [hs] at f5
        rw [ho] at f9
        have HE0 := hide (show ((cnt 0 (L.tks.take (k + 1)) : Nat) : Int) = (a0 : Int) from by rw [cnt_take 0 HKT.out, ← HA0.out]; simp [cntP, stIs, doneIs, hs, ho])
        have HE1 := hide (show ((cnt 1 (L.tks.take (k + 1)) : Nat) : Int) = (a1 : Int) from by rw [cnt_take 1 HKT.out, ← HA1.out]; simp [cntP, stIs, doneIs, hs, ho])
        have HE2 := hide (show ((cnt 2 (L.tks.take (k + 1)) : Nat) : Int) = (a2 : Int) from by rw [cnt_take 2 HKT.out, ← HA2.out]; simp [cntP, stIs, doneIs, hs, ho])
        have HE3 := hide (show ((cnt 3 (L.tks.take (k + 1)) : Nat) : Int) = (a3 : Int) from by rw [cnt_take 3 HKT.out, ← HA3.out]; simp [cntP, stIs, doneIs, hs, ho])
        have HE4 := hide (show ((cnt 4 (L.tks.take (k + 1)) : Nat) : Int) = (a4 : Int) from by rw [cnt_take 4 HKT.out, ← HA4.out]; simp [cntP, stIs, doneIs, hs, ho])
        have HE5 := hide (show ((cnt 5 (L.tks.take (k + 1)) : Nat) : Int) = (a5 : Int) from by rw [cnt_take 5 HKT.out, ← HA5.out]; simp [cntP, stIs, doneIs, hs, ho])
        have HE6 := hide (show ((cnt 6 (L.tks.take (k + 1)) : Nat) : Int) = (a6 : Int) from by rw [cnt_take 6 HKT.out, ← HA6.out]; simp [cntP, stIs, doneIs, hs, ho])
        have HE7 := hide (show ((cnt 7 (L.tks.take (k + 1)) : Nat) : Int) = (a7 : Int) from by rw [cnt_take 7 HKT.out, ← HA7.out]; simp [cntP, stIs, doneIs, hs, ho])
        have HE8 := hide (show ((cnt 8 (L.tks.take (k + 1)) : Nat) : Int) = (a8 : Int) + 1 from by rw [cnt_take 8 HKT.out, ← HA8.out]; simp [cntP, stIs, doneIs, hs, ho])
        clear hs ho
        go_wp2_with fail
        go_roundw
        case rel =>
          refine ⟨k + 1, by omega, by go_num, hide ?_, ?_, hide ?_, ?_⟩
          · unfold TotAt
            rw [HE0.out, HE1.out, HE2.out, HE3.out, HE4.out, HE5.out, HE6.out, HE7.out, HE8.out]
            refine ⟨?_, ?_, ?_, ?_, ?_, ?_, ?_, ?_, ?_, ?_⟩ <;> go_simp
          · intro j; go_simp
          · first | (refine Fr.alloc (Fr.setCell ?_ (Or.inr (by rfl)) _) _; exact HF.out) | (refine Fr.setCell ?_ (Or.inr (by rfl)) _; exact HF.out)
          · simp; omega
        case measure => simp [intOf]; omega
    · have hkn : decide ((k : Int) < (n : Int)) = false := by simp; omega
      have e0 : L.tks.take k = L.tks := List.take_of_length_le (by have := hN.out; omega)
      rw [e0] at t1 t2 t3 t4 t5 t6 t7 t8 t9
      obtain ⟨hz, hzf⟩ := HZ.out
      have n1 : w.heap.size + 1 < w1.heap.size := by omega
      have y0 := (hcF (w.heap.size + 1) 0 n1 (by omega)).trans (hz 0 (by omega))
      have y1 := (hcF (w.heap.size + 1) 1 n1 (by omega)).trans (hz 1 (by omega))
      have y2 := (hcF (w.heap.size + 1) 2 n1 (by omega)).trans (hz 2 (by omega))
      have y3 := (hcF (w.heap.size + 1) 3 n1 (by omega)).trans (hz 3 (by omega))
      have y4 := (hcF (w.heap.size + 1) 4 n1 (by omega)).trans (hz 4 (by omega))
      have y5 := (hcF (w.heap.size + 1) 5 n1 (by omega)).trans (hz 5 (by omega))
      have y6 := (hcF (w.heap.size + 1) 6 n1 (by omega)).trans (hz 6 (by omega))
      have y7 := (hcF (w.heap.size + 1) 7 n1 (by omega)).trans (hz 7 (by omega))
      have y8 := (hcF (w.heap.size + 1) 8 n1 (by omega)).trans (hz 8 (by omega))
      have y9 := (hcF (w.heap.size + 1) 9 n1 (by omega)).trans (hz 9 (by omega))
      have yf := fun j => (hfF (w.heap.size + 1) j n1 (by omega)).trans (hzf j)
      clear hcF hfF hz hzf e0
      go_wp2_with fail
      refine bodyPost_ret (v := .tuple #[.agg #[.int .i64 n, .int .i64 (cnt 0 (L.tks) : Nat), .int .i64 (cnt 1 (L.tks) : Nat), .int .i64 (cnt 2 (L.tks) : Nat), .int .i64 (cnt 3 (L.tks) : Nat), .int .i64 (cnt 4 (L.tks) : Nat), .int .i64 (cnt 5 (L.tks) : Nat), .int .i64 (cnt 6 (L.tks) : Nat), .int .i64 (cnt 7 (L.tks) : Nat), .int .i64 (cnt 8 (L.tks) : Nat)], .int .i64 0]) (by simp [results, Try.results26, go_sem, *]) rfl ⟨rfl, ?_⟩
      refine Fr.below (S := fun _ => False) ?_ (Nat.le_refl _) (fun _ _ h => h)
      (repeat' first | (with_reducible refine Fr.setCell ?_ (Or.inl (by first | (simp; done) | (simp; omega))) _) | (with_reducible refine Fr.alloc ?_ _) | (with_reducible refine Fr.drew ?_))
      exact HF1.out.step HF.out (fun i hi h => by omega)

end Go.Proofs.Ytjhkgoengoiljaa
