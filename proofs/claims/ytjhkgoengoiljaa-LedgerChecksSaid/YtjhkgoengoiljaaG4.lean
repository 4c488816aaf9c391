/- Contracts of the functions that these laws reach: part 4: Contracts: change with a closure; Contracts: change with a closure; Contracts: Begin. -/
import Derived.Test.YtjhkgoengoiljaaG3
set_option linter.unusedVariables false
set_option linter.unusedSimpArgs false

/- Contracts: change with a closure. -/
namespace Go.Proofs.Ytjhkgoengoiljaa
open Go.RowKit


set_option maxRecDepth 100000 in
set_option maxHeartbeats 800000 in
theorem change_cancel_ok (A : Option Addr) (c n : Nat) (L : Ld) (k : Int) (t : Tk)  (w : World) (av : Option Nat) (hR : Rs w av 10 Tk.vals A L.tks) (hn : L.tks.length = n) (hc63 : n ≤ 4294967296) (hok : L.ok = true) (hk : L.get? k = some t)  (hst : t.st ≠ 2) :
    Calls Try.prog 42 #[.agg #[.slice A n c, .int .i64 L.r0, .int .i64 L.r1, .int .i64 L.r2, .int .i64 L.r3, .int .i64 L.r4, .int .i64 L.r5], .int .i64 k, .func (.func 51) #[] #[]] w fun e w' => ∃ g, e = .returned (.tuple #[.agg #[.slice (some ⟨g, 0, none⟩) n (n + 1), .int .i64 L.r0, .int .i64 L.r1, .int .i64 L.r2, .int .i64 L.r3, .int .i64 L.r4, .int .i64 L.r5], .int .i64 0]) ∧
      w'.ownsRow w.heap.size 43 10 (.slice (some ⟨g, 0, none⟩) n (n + 1)) n ((L.put k { t with st := 2, out := 6 }).tks.flatMap Tk.vals) ∧ Fr w w' (fun j => False) := by
  obtain ⟨i, rfl, hil, hi⟩ := get?_some hk
  have h128 := ok_len hok
  rw [hn] at hil h128
  have hN := hide hn
  have HI := hide hi
  have hkk := hide (show (decide (0 ≤ (i : Int)) && decide ((i : Int) < (n : Int))) = true by simp; omega)
  clear hn hk hi
  go_enter Try.func42, Try.ntmps42
  go_wp2_with (first
    | (go_at_call 11; refine (check_any A c n L _ av ((hR.alloc _).alloc _) hN.out hc63).mono ?_; rintro e w1 ⟨rfl, hb1⟩; obtain ⟨hc1, hf1, hz1⟩ := gcell (grown_of_below hb1 none) (w.heap.size + 2) (by first | (simp; done) | (simp; omega)); have : w.heap.size < w1.heap.size := (by omega); have : w.heap.size + 1 < w1.heap.size := (by omega))
    | (go_at_call 62; refine (has_any A n c L i _).mono ?_; rintro e w2 ⟨rfl, hb2⟩; rw [hkk.out]; obtain ⟨hc2, hf2, hz2⟩ := gcell (grown_of_below hb2 none) (w.heap.size + 2) (by omega))
    | (go_at_call 41; refine (copied_any A c n L _ av ((((hR.alloc _).alloc _).below hb1).below hb2) hN.out (by omega)).mono ?_; rintro e w3 ⟨g, rfl, hown3, hb3⟩; obtain ⟨hc3, hf3, hz3⟩ := gcell (grown_of_below hb3 none) (w.heap.size + 2) (by omega); have hge : w2.heap.size ≤ g := (hown3.lt g rfl).1; have hlt : g < w3.heap.size := (hown3.lt g rfl).2; have hn0 : ¬ w.heap.size = g := (by omega); have hn1 : ¬ w.heap.size + 1 = g := (by omega); have HOWN := hide (show ∀ v1 v2 v3 v4 v5 v6 v7, World.ownsRow (((((((w3.setCell ⟨w.heap.size, 0, none⟩ v1).setCell ⟨w.heap.size, 1, none⟩ v2).setCell ⟨w.heap.size, 2, none⟩ v3).setCell ⟨w.heap.size, 3, none⟩ v4).setCell ⟨w.heap.size, 4, none⟩ v5).setCell ⟨w.heap.size, 5, none⟩ v6).setCell ⟨w.heap.size, 6, none⟩ v7) w2.heap.size 43 10 (.slice (some ⟨g, 0, none⟩) n (n + 1)) n (L.tks.flatMap Tk.vals) from fun v1 v2 v3 v4 v5 v6 v7 => by (repeat' refine own_far ?_ (by simp [Value.ownBlock]; omega) _); exact hown3); clear hown3; have HFR := hide (show ∀ v1 v2 v3 v4 v5 v6 v7 (S : Nat → Prop), Fr w (((((((w3.setCell ⟨w.heap.size, 0, none⟩ v1).setCell ⟨w.heap.size, 1, none⟩ v2).setCell ⟨w.heap.size, 2, none⟩ v3).setCell ⟨w.heap.size, 3, none⟩ v4).setCell ⟨w.heap.size, 4, none⟩ v5).setCell ⟨w.heap.size, 5, none⟩ v6).setCell ⟨w.heap.size, 6, none⟩ v7) S from fun v1 v2 v3 v4 v5 v6 v7 S => by (repeat' refine Fr.setCell ?_ (by simp) _); exact (((((Fr.refl _ _).alloc _).alloc _).below_ hb1).below_ hb2).below_ hb3))
    | (go_at_call 51; refine (cancel1_ok g i n (n + 1) w2.heap.size L.tks t _ (HOWN.out _ _ _ _ _ _ _) HI.out hst).mono ?_; rintro e w4 ⟨rfl, hown4, hfr4⟩; obtain ⟨hc4, hf4, hz4⟩ := fcell hfr4 (w.heap.size + 2) (by simp; omega)))
  refine bodyPost_ret (v := .tuple #[.agg #[.slice (some ⟨g, 0, none⟩) n (n + 1), .int .i64 L.r0, .int .i64 L.r1, .int .i64 L.r2, .int .i64 L.r3, .int .i64 L.r4, .int .i64 L.r5], .int .i64 0]) (by simp [results, Try.results42, go_sem, hc1, hc2, hc3, hc4, hn1]) rfl ⟨g, rfl, ?_, ?_⟩
  · (repeat' refine own_far ?_ (by simp [Value.ownBlock]; omega) _)
    exact own_base hown4 (by omega)
  · (repeat' refine Fr.setCell ?_ (by simp) _)
    exact (HFR.out _ _ _ _ _ _ _ _).step hfr4 (fun j hj hs => by have hs2 : j = g := hs; omega)

set_option maxRecDepth 100000 in
set_option maxHeartbeats 800000 in
theorem change_cancel_err (A : Option Addr) (c n : Nat) (L : Ld) (k : Int) (t : Tk)  (w : World) (av : Option Nat) (hR : Rs w av 10 Tk.vals A L.tks) (hn : L.tks.length = n) (hc63 : n ≤ 4294967296) (hok : L.ok = true) (hk : L.get? k = some t) (er : Int) (her : (er != 0) = true)  (hst : t.st = 2) (he : Hid (er = 45)) :
    Calls Try.prog 42 #[.agg #[.slice A n c, .int .i64 L.r0, .int .i64 L.r1, .int .i64 L.r2, .int .i64 L.r3, .int .i64 L.r4, .int .i64 L.r5], .int .i64 k, .func (.func 51) #[] #[]] w fun e w' => e = .returned (.tuple #[.agg #[.slice none 0 0, .int .i64 0, .int .i64 0, .int .i64 0, .int .i64 0, .int .i64 0, .int .i64 0], .int .i64 er]) ∧ Below w.heap.size w w' := by
  obtain ⟨i, rfl, hil, hi⟩ := get?_some hk
  have h128 := ok_len hok
  rw [hn] at hil h128
  have hN := hide hn
  have HI := hide hi
  have hkk := hide (show (decide (0 ≤ (i : Int)) && decide ((i : Int) < (n : Int))) = true by simp; omega)
  clear hn hk hi
  go_enter Try.func42, Try.ntmps42
  go_wp2_with (first
    | (go_at_call 11; refine (check_any A c n L _ av ((hR.alloc _).alloc _) hN.out hc63).mono ?_; rintro e w1 ⟨rfl, hb1⟩; obtain ⟨hc1, hf1, hz1⟩ := gcell (grown_of_below hb1 none) (w.heap.size + 2) (by first | (simp; done) | (simp; omega)); have : w.heap.size < w1.heap.size := (by omega); have : w.heap.size + 1 < w1.heap.size := (by omega))
    | (go_at_call 62; refine (has_any A n c L i _).mono ?_; rintro e w2 ⟨rfl, hb2⟩; rw [hkk.out]; obtain ⟨hc2, hf2, hz2⟩ := gcell (grown_of_below hb2 none) (w.heap.size + 2) (by omega))
    | (go_at_call 41; refine (copied_any A c n L _ av ((((hR.alloc _).alloc _).below hb1).below hb2) hN.out (by omega)).mono ?_; rintro e w3 ⟨g, rfl, hown3, hb3⟩; obtain ⟨hc3, hf3, hz3⟩ := gcell (grown_of_below hb3 none) (w.heap.size + 2) (by omega); have hge : w2.heap.size ≤ g := (hown3.lt g rfl).1; have hlt : g < w3.heap.size := (hown3.lt g rfl).2; have hn0 : ¬ w.heap.size = g := (by omega); have hn1 : ¬ w.heap.size + 1 = g := (by omega); have HOWN := hide (show ∀ v1 v2 v3 v4 v5 v6 v7, World.ownsRow (((((((w3.setCell ⟨w.heap.size, 0, none⟩ v1).setCell ⟨w.heap.size, 1, none⟩ v2).setCell ⟨w.heap.size, 2, none⟩ v3).setCell ⟨w.heap.size, 3, none⟩ v4).setCell ⟨w.heap.size, 4, none⟩ v5).setCell ⟨w.heap.size, 5, none⟩ v6).setCell ⟨w.heap.size, 6, none⟩ v7) w2.heap.size 43 10 (.slice (some ⟨g, 0, none⟩) n (n + 1)) n (L.tks.flatMap Tk.vals) from fun v1 v2 v3 v4 v5 v6 v7 => by (repeat' refine own_far ?_ (by simp [Value.ownBlock]; omega) _); exact hown3); clear hown3; have HFR := hide (show ∀ v1 v2 v3 v4 v5 v6 v7 (S : Nat → Prop), Fr w (((((((w3.setCell ⟨w.heap.size, 0, none⟩ v1).setCell ⟨w.heap.size, 1, none⟩ v2).setCell ⟨w.heap.size, 2, none⟩ v3).setCell ⟨w.heap.size, 3, none⟩ v4).setCell ⟨w.heap.size, 4, none⟩ v5).setCell ⟨w.heap.size, 5, none⟩ v6).setCell ⟨w.heap.size, 6, none⟩ v7) S from fun v1 v2 v3 v4 v5 v6 v7 S => by (repeat' refine Fr.setCell ?_ (by simp) _); exact (((((Fr.refl _ _).alloc _).alloc _).below_ hb1).below_ hb2).below_ hb3))
    | (go_at_call 51; refine (cancel1_err g i n (n + 1) w2.heap.size L.tks t _ (HOWN.out _ _ _ _ _ _ _) HI.out hst).mono ?_; rw [← he.out]; rintro e w4 ⟨rfl, rfl⟩))
  refine bodyPost_ret (by simp [results, Try.results42, go_sem, hc1, hc2, hc3]) rfl ⟨rfl, ?_⟩
  (repeat' refine Below.setCell ?_ (by simp) _)
  exact (((((((Fr.refl _ _).alloc _).alloc _).below_ hb1).below_ hb2).below_ hb3 : Fr w w3 _)).below (S := fun _ => False) (Nat.le_refl _) (fun _ _ h => h)

end Go.Proofs.Ytjhkgoengoiljaa

/- Contracts: change with a closure. -/
namespace Go.Proofs.Ytjhkgoengoiljaa
open Go.RowKit


set_option maxRecDepth 100000 in
set_option maxHeartbeats 800000 in
theorem change_begin_ok (A : Option Addr) (c n : Nat) (L : Ld) (k : Int) (t : Tk) (b1 b2 b3 : Nat) (run ep a0 : Int) (w : World) (av : Option Nat) (hR : Rs w av 10 Tk.vals A L.tks) (hn : L.tks.length = n) (hc63 : n ≤ 4294967296) (hok : L.ok = true) (hk : L.get? k = some t) (h1 : w.cell? ⟨b1, 0, none⟩ = some (.int .i64 run)) (h2 : w.cell? ⟨b2, 0, none⟩ = some (.int .i64 ep)) (_h3 : w.cell? ⟨b3, 0, none⟩ = some (.int .i64 a0)) (_h3f : w.frozen? ⟨b3, 0, none⟩ = false) (hb1b : b1 < w.heap.size) (hb2b : b2 < w.heap.size) (hb3b : b3 < w.heap.size) (hran : ranB 1 run ep = true) (hst : t.st = 0) (hatt : 0 ≤ t.att ∧ t.att ≤ 4) :
    Calls Try.prog 42 #[.agg #[.slice A n c, .int .i64 L.r0, .int .i64 L.r1, .int .i64 L.r2, .int .i64 L.r3, .int .i64 L.r4, .int .i64 L.r5], .int .i64 k, .func (.func 43) #[] #[.pointer (some ⟨b1, 0, none⟩), .pointer (some ⟨b2, 0, none⟩), .pointer (some ⟨b3, 0, none⟩)]] w fun e w' => ∃ g, e = .returned (.tuple #[.agg #[.slice (some ⟨g, 0, none⟩) n (n + 1), .int .i64 L.r0, .int .i64 L.r1, .int .i64 L.r2, .int .i64 L.r3, .int .i64 L.r4, .int .i64 L.r5], .int .i64 0]) ∧
      w'.ownsRow w.heap.size 43 10 (.slice (some ⟨g, 0, none⟩) n (n + 1)) n ((L.put k { t with st := 1, att := t.att + 1, run := run, ep := ep }).tks.flatMap Tk.vals) ∧ w'.cell? ⟨b3, 0, none⟩ = some (.int .i64 (t.att + 1)) ∧ Fr w w' (fun j => j = b3) := by
  obtain ⟨i, rfl, hil, hi⟩ := get?_some hk
  have h128 := ok_len hok
  rw [hn] at hil h128
  have hN := hide hn
  have HI := hide hi
  have hkk := hide (show (decide (0 ≤ (i : Int)) && decide ((i : Int) < (n : Int))) = true by simp; omega)
  clear hn hk hi
  have hb'b1 : b1 < w.heap.size + 2 := by omega
  have hmb1 : ¬ w.heap.size = b1 := by omega
  have hqb1 : ¬ w.heap.size + 1 = b1 := by omega
  have hb'b2 : b2 < w.heap.size + 2 := by omega
  have hmb2 : ¬ w.heap.size = b2 := by omega
  have hqb2 : ¬ w.heap.size + 1 = b2 := by omega
  have hb'b3 : b3 < w.heap.size + 2 := by omega
  have hmb3 : ¬ w.heap.size = b3 := by omega
  have hqb3 : ¬ w.heap.size + 1 = b3 := by omega
  go_enter Try.func42, Try.ntmps42
  go_wp2_with (first
    | (go_at_call 11; refine (check_any A c n L _ av ((hR.alloc _).alloc _) hN.out hc63).mono ?_; rintro e w1 ⟨rfl, hb1⟩; obtain ⟨hc1, hf1, hz1⟩ := gcell (grown_of_below hb1 none) (w.heap.size + 2) (by first | (simp; done) | (simp; omega)); have : w.heap.size < w1.heap.size := (by omega); have : w.heap.size + 1 < w1.heap.size := (by omega))
    | (go_at_call 62; refine (has_any A n c L i _).mono ?_; rintro e w2 ⟨rfl, hb2⟩; rw [hkk.out]; obtain ⟨hc2, hf2, hz2⟩ := gcell (grown_of_below hb2 none) (w.heap.size + 2) (by omega))
    | (go_at_call 41; refine (copied_any A c n L _ av ((((hR.alloc _).alloc _).below hb1).below hb2) hN.out (by omega)).mono ?_; rintro e w3 ⟨g, rfl, hown3, hb3⟩; obtain ⟨hc3, hf3, hz3⟩ := gcell (grown_of_below hb3 none) (w.heap.size + 2) (by omega); have hge : w2.heap.size ≤ g := (hown3.lt g rfl).1; have hlt : g < w3.heap.size := (hown3.lt g rfl).2; have hn0 : ¬ w.heap.size = g := (by omega); have hn1 : ¬ w.heap.size + 1 = g := (by omega); have HOWN := hide (show ∀ v1 v2 v3 v4 v5 v6 v7, World.ownsRow (((((((w3.setCell ⟨w.heap.size, 0, none⟩ v1).setCell ⟨w.heap.size, 1, none⟩ v2).setCell ⟨w.heap.size, 2, none⟩ v3).setCell ⟨w.heap.size, 3, none⟩ v4).setCell ⟨w.heap.size, 4, none⟩ v5).setCell ⟨w.heap.size, 5, none⟩ v6).setCell ⟨w.heap.size, 6, none⟩ v7) w2.heap.size 43 10 (.slice (some ⟨g, 0, none⟩) n (n + 1)) n (L.tks.flatMap Tk.vals) from fun v1 v2 v3 v4 v5 v6 v7 => by (repeat' refine own_far ?_ (by simp [Value.ownBlock]; omega) _); exact hown3); clear hown3; have HFR := hide (show ∀ v1 v2 v3 v4 v5 v6 v7 (S : Nat → Prop), Fr w (((((((w3.setCell ⟨w.heap.size, 0, none⟩ v1).setCell ⟨w.heap.size, 1, none⟩ v2).setCell ⟨w.heap.size, 2, none⟩ v3).setCell ⟨w.heap.size, 3, none⟩ v4).setCell ⟨w.heap.size, 4, none⟩ v5).setCell ⟨w.heap.size, 5, none⟩ v6).setCell ⟨w.heap.size, 6, none⟩ v7) S from fun v1 v2 v3 v4 v5 v6 v7 S => by (repeat' refine Fr.setCell ?_ (by simp) _); exact (((((Fr.refl _ _).alloc _).alloc _).below_ hb1).below_ hb2).below_ hb3))
    | (go_at_call 43; refine (begin1_ok g i n (n + 1) w2.heap.size b1 b2 b3 run ep a0 L.tks t _ (HOWN.out _ _ _ _ _ _ _) HI.out (by go_simp) (by go_simp) (by go_simp) (by go_simp) (by simp; omega) (by simp; omega) (by simp; omega) (by simp; omega) (by omega) hran hst hatt).mono ?_; rintro e w4 ⟨rfl, hown4, hcell4, hfr4⟩; obtain ⟨hc4, hf4, hz4⟩ := fcell hfr4 (w.heap.size + 2) (by simp; omega)))
  refine bodyPost_ret (v := .tuple #[.agg #[.slice (some ⟨g, 0, none⟩) n (n + 1), .int .i64 L.r0, .int .i64 L.r1, .int .i64 L.r2, .int .i64 L.r3, .int .i64 L.r4, .int .i64 L.r5], .int .i64 0]) (by simp [results, Try.results42, go_sem, hc1, hc2, hc3, hc4, hn1, hqb3]) rfl ⟨g, rfl, ?_, ?_, ?_⟩
  · (repeat' refine own_far ?_ (by simp [Value.ownBlock]; omega) _)
    exact own_base hown4 (by omega)
  · go_simp
  · (repeat' refine Fr.setCell ?_ (by simp) _)
    exact (HFR.out _ _ _ _ _ _ _ _).step hfr4 (fun j hj hs => hs.resolve_left (by omega))

set_option maxRecDepth 100000 in
set_option maxHeartbeats 800000 in
theorem change_begin_err (A : Option Addr) (c n : Nat) (L : Ld) (k : Int) (t : Tk) (b1 b2 b3 : Nat) (run ep a0 : Int) (w : World) (av : Option Nat) (hR : Rs w av 10 Tk.vals A L.tks) (hn : L.tks.length = n) (hc63 : n ≤ 4294967296) (hok : L.ok = true) (hk : L.get? k = some t) (er : Int) (her : (er != 0) = true) (h1 : w.cell? ⟨b1, 0, none⟩ = some (.int .i64 run)) (h2 : w.cell? ⟨b2, 0, none⟩ = some (.int .i64 ep)) (_h3 : w.cell? ⟨b3, 0, none⟩ = some (.int .i64 a0)) (_h3f : w.frozen? ⟨b3, 0, none⟩ = false) (hb1b : b1 < w.heap.size) (hb2b : b2 < w.heap.size) (hb3b : b3 < w.heap.size) (hran : (ranB 1 run ep = false ∧ er = 3) ∨ (ranB 1 run ep = true ∧ t.st ≠ 0 ∧ er = 45)) :
    Calls Try.prog 42 #[.agg #[.slice A n c, .int .i64 L.r0, .int .i64 L.r1, .int .i64 L.r2, .int .i64 L.r3, .int .i64 L.r4, .int .i64 L.r5], .int .i64 k, .func (.func 43) #[] #[.pointer (some ⟨b1, 0, none⟩), .pointer (some ⟨b2, 0, none⟩), .pointer (some ⟨b3, 0, none⟩)]] w fun e w' => e = .returned (.tuple #[.agg #[.slice none 0 0, .int .i64 0, .int .i64 0, .int .i64 0, .int .i64 0, .int .i64 0, .int .i64 0], .int .i64 er]) ∧ Below w.heap.size w w' := by
  obtain ⟨i, rfl, hil, hi⟩ := get?_some hk
  have h128 := ok_len hok
  rw [hn] at hil h128
  have hN := hide hn
  have HI := hide hi
  have hkk := hide (show (decide (0 ≤ (i : Int)) && decide ((i : Int) < (n : Int))) = true by simp; omega)
  clear hn hk hi
  have hb'b1 : b1 < w.heap.size + 2 := by omega
  have hmb1 : ¬ w.heap.size = b1 := by omega
  have hqb1 : ¬ w.heap.size + 1 = b1 := by omega
  have hb'b2 : b2 < w.heap.size + 2 := by omega
  have hmb2 : ¬ w.heap.size = b2 := by omega
  have hqb2 : ¬ w.heap.size + 1 = b2 := by omega
  have hb'b3 : b3 < w.heap.size + 2 := by omega
  have hmb3 : ¬ w.heap.size = b3 := by omega
  have hqb3 : ¬ w.heap.size + 1 = b3 := by omega
  go_enter Try.func42, Try.ntmps42
  go_wp2_with (first
    | (go_at_call 11; refine (check_any A c n L _ av ((hR.alloc _).alloc _) hN.out hc63).mono ?_; rintro e w1 ⟨rfl, hb1⟩; obtain ⟨hc1, hf1, hz1⟩ := gcell (grown_of_below hb1 none) (w.heap.size + 2) (by first | (simp; done) | (simp; omega)); have : w.heap.size < w1.heap.size := (by omega); have : w.heap.size + 1 < w1.heap.size := (by omega))
    | (go_at_call 62; refine (has_any A n c L i _).mono ?_; rintro e w2 ⟨rfl, hb2⟩; rw [hkk.out]; obtain ⟨hc2, hf2, hz2⟩ := gcell (grown_of_below hb2 none) (w.heap.size + 2) (by omega))
    | (go_at_call 41; refine (copied_any A c n L _ av ((((hR.alloc _).alloc _).below hb1).below hb2) hN.out (by omega)).mono ?_; rintro e w3 ⟨g, rfl, hown3, hb3⟩; obtain ⟨hc3, hf3, hz3⟩ := gcell (grown_of_below hb3 none) (w.heap.size + 2) (by omega); have hge : w2.heap.size ≤ g := (hown3.lt g rfl).1; have hlt : g < w3.heap.size := (hown3.lt g rfl).2; have hn0 : ¬ w.heap.size = g := (by omega); have hn1 : ¬ w.heap.size + 1 = g := (by omega); have HOWN := hide (show ∀ v1 v2 v3 v4 v5 v6 v7, World.ownsRow (((((((w3.setCell ⟨w.heap.size, 0, none⟩ v1).setCell ⟨w.heap.size, 1, none⟩ v2).setCell ⟨w.heap.size, 2, none⟩ v3).setCell ⟨w.heap.size, 3, none⟩ v4).setCell ⟨w.heap.size, 4, none⟩ v5).setCell ⟨w.heap.size, 5, none⟩ v6).setCell ⟨w.heap.size, 6, none⟩ v7) w2.heap.size 43 10 (.slice (some ⟨g, 0, none⟩) n (n + 1)) n (L.tks.flatMap Tk.vals) from fun v1 v2 v3 v4 v5 v6 v7 => by (repeat' refine own_far ?_ (by simp [Value.ownBlock]; omega) _); exact hown3); clear hown3; have HFR := hide (show ∀ v1 v2 v3 v4 v5 v6 v7 (S : Nat → Prop), Fr w (((((((w3.setCell ⟨w.heap.size, 0, none⟩ v1).setCell ⟨w.heap.size, 1, none⟩ v2).setCell ⟨w.heap.size, 2, none⟩ v3).setCell ⟨w.heap.size, 3, none⟩ v4).setCell ⟨w.heap.size, 4, none⟩ v5).setCell ⟨w.heap.size, 5, none⟩ v6).setCell ⟨w.heap.size, 6, none⟩ v7) S from fun v1 v2 v3 v4 v5 v6 v7 S => by (repeat' refine Fr.setCell ?_ (by simp) _); exact (((((Fr.refl _ _).alloc _).alloc _).below_ hb1).below_ hb2).below_ hb3))
    | (go_at_call 43; refine (begin1_err g i n (n + 1) w2.heap.size b1 b2 b3 run ep L.tks t _ er (HOWN.out _ _ _ _ _ _ _) HI.out (by go_simp) (by go_simp) (by simp; omega) (by simp; omega) (by simp; omega) hran).mono ?_; rintro e w4 ⟨rfl, hb4⟩; obtain ⟨hc4, hf4, hz4⟩ := gcell (grown_of_below hb4 none) (w.heap.size + 2) (by simp; omega)))
  refine bodyPost_ret (by simp [results, Try.results42, go_sem, hc1, hc2, hc3, hc4]) rfl ⟨rfl, ?_⟩
  (repeat' refine Below.setCell ?_ (by simp) _)
  exact ((HFR.out _ _ _ _ _ _ _ _).below_ hb4).below (S := fun _ => False) (Nat.le_refl _) (fun _ _ h => h)

end Go.Proofs.Ytjhkgoengoiljaa

/- Contracts: Begin. -/
namespace Go.Proofs.Ytjhkgoengoiljaa
open Go.RowKit

theorem tk_att {L : Ld} {k : Int} {t : Tk} (hok : L.ok = true) (hk : L.get? k = some t) : tkOk t = true := by
  obtain ⟨i, rfl, _, hi⟩ := get?_some hk
  cases h : tkOk t
  · rw [ok_take hi h] at hok; cases hok
  · rfl
theorem tk_wait {t : Tk} (h : tkOk t = true) (hs : t.st = 0) : 0 ≤ t.att ∧ t.att ≤ 4 := by
  simp [tkOk, stateB, hs, restB] at h
  omega


set_option maxRecDepth 100000 in
set_option maxHeartbeats 2000000 in
theorem begin_bad (w : World) (av : Option Nat) (A : Option Addr) (c n : Nat) (L : Ld) (hR : Rs w av 10 Tk.vals A L.tks) (hn : L.tks.length = n) (hc63 : n ≤ 4294967296) (k run ep : Int) (hok : L.ok = false) :
    Calls Try.prog 17 #[.agg #[.slice A n c, .int .i64 L.r0, .int .i64 L.r1, .int .i64 L.r2, .int .i64 L.r3, .int .i64 L.r4, .int .i64 L.r5], .int .i64 k, .int .i64 run, .int .i64 ep] w fun e w' => e = .returned (.tuple #[.agg #[.slice none 0 0, .int .i64 0, .int .i64 0, .int .i64 0, .int .i64 0, .int .i64 0, .int .i64 0], .int .i64 0, .int .i64 1]) ∧ Below w.heap.size w w' := by
  have hN := hide hn; clear hn
  go_enter Try.func17, Try.ntmps17
  go_wp2_with (go_at_call 42; refine (change_bad A c n L k _ _ av (((((hR.alloc _).alloc _).alloc _).alloc _).alloc _) hN.out hc63 hok).mono ?_; rintro e w1 ⟨rfl, hb1⟩; obtain ⟨hc1, hf1, hz1⟩ := gcell (grown_of_below hb1 none) (w.heap.size + 5) (by first | (simp; done) | (simp; omega)); have : w.heap.size + 3 < w1.heap.size := (by omega); have : w.heap.size + 4 < w1.heap.size := (by omega); have : w.heap.size < w1.heap.size := (by omega))
  have := hc1 (w.heap.size) 0 (by omega) (by simp); simp [go_sem] at this; have := hc1 (w.heap.size) 1 (by omega) (by simp); simp [go_sem] at this; have := hc1 (w.heap.size) 2 (by omega) (by simp); simp [go_sem] at this; have := hc1 (w.heap.size) 3 (by omega) (by simp); simp [go_sem] at this; have := hc1 (w.heap.size) 4 (by omega) (by simp); simp [go_sem] at this; have := hc1 (w.heap.size) 5 (by omega) (by simp); simp [go_sem] at this; have := hc1 (w.heap.size) 6 (by omega) (by simp); simp [go_sem] at this; have := hc1 (w.heap.size + 3) 0 (by omega) (by simp); simp [go_sem] at this; have := hc1 (w.heap.size + 3) 1 (by omega) (by simp); simp [go_sem] at this; have := hc1 (w.heap.size + 3) 2 (by omega) (by simp); simp [go_sem] at this; have := hc1 (w.heap.size + 3) 3 (by omega) (by simp); simp [go_sem] at this; have := hc1 (w.heap.size + 3) 4 (by omega) (by simp); simp [go_sem] at this; have := hc1 (w.heap.size + 3) 5 (by omega) (by simp); simp [go_sem] at this; have := hc1 (w.heap.size + 3) 6 (by omega) (by simp); simp [go_sem] at this; have := hc1 (w.heap.size + 4) 0 (by omega) (by simp); simp [go_sem] at this; have := fun j => hf1 (w.heap.size) j (by omega) (by simp); simp [go_sem] at this; have := fun j => hf1 (w.heap.size + 3) j (by omega) (by simp); simp [go_sem] at this; clear hc1 hf1
  go_region
  go_wp2_with fail
  refine bodyPost_ret (by simp [results, Try.results17, go_sem, *]) rfl ⟨rfl, ?_⟩
  refine Below.drew ?_
  (repeat' refine Below.setCell ?_ (by first | (simp; done) | (simp; omega)) _)
  exact (Fr.of_below _ hb1 |> (((((((Fr.refl w (fun _ => False)).alloc _).alloc _).alloc _).alloc _).alloc _)).trans).below (Nat.le_refl _) (fun _ _ h => h)

set_option maxRecDepth 100000 in
set_option maxHeartbeats 2000000 in
theorem begin_none (w : World) (av : Option Nat) (A : Option Addr) (c n : Nat) (L : Ld) (hR : Rs w av 10 Tk.vals A L.tks) (hn : L.tks.length = n) (hc63 : n ≤ 4294967296) (k run ep : Int) (hok : L.ok = true) (hk : L.get? k = none) :
    Calls Try.prog 17 #[.agg #[.slice A n c, .int .i64 L.r0, .int .i64 L.r1, .int .i64 L.r2, .int .i64 L.r3, .int .i64 L.r4, .int .i64 L.r5], .int .i64 k, .int .i64 run, .int .i64 ep] w fun e w' => e = .returned (.tuple #[.agg #[.slice none 0 0, .int .i64 0, .int .i64 0, .int .i64 0, .int .i64 0, .int .i64 0, .int .i64 0], .int .i64 0, .int .i64 18]) ∧ Below w.heap.size w w' := by
  have hN := hide hn; clear hn
  have HK := hide hk; clear hk
  go_enter Try.func17, Try.ntmps17
  go_wp2_with (go_at_call 42; refine (change_none A c n L k _ _ av (((((hR.alloc _).alloc _).alloc _).alloc _).alloc _) hN.out hc63 hok HK.out).mono ?_; rintro e w1 ⟨rfl, hb1⟩; obtain ⟨hc1, hf1, hz1⟩ := gcell (grown_of_below hb1 none) (w.heap.size + 5) (by first | (simp; done) | (simp; omega)); have : w.heap.size + 3 < w1.heap.size := (by omega); have : w.heap.size + 4 < w1.heap.size := (by omega); have : w.heap.size < w1.heap.size := (by omega))
  have := hc1 (w.heap.size) 0 (by omega) (by simp); simp [go_sem] at this; have := hc1 (w.heap.size) 1 (by omega) (by simp); simp [go_sem] at this; have := hc1 (w.heap.size) 2 (by omega) (by simp); simp [go_sem] at this; have := hc1 (w.heap.size) 3 (by omega) (by simp); simp [go_sem] at this; have := hc1 (w.heap.size) 4 (by omega) (by simp); simp [go_sem] at this; have := hc1 (w.heap.size) 5 (by omega) (by simp); simp [go_sem] at this; have := hc1 (w.heap.size) 6 (by omega) (by simp); simp [go_sem] at this; have := hc1 (w.heap.size + 3) 0 (by omega) (by simp); simp [go_sem] at this; have := hc1 (w.heap.size + 3) 1 (by omega) (by simp); simp [go_sem] at this; have := hc1 (w.heap.size + 3) 2 (by omega) (by simp); simp [go_sem] at this; have := hc1 (w.heap.size + 3) 3 (by omega) (by simp); simp [go_sem] at this; have := hc1 (w.heap.size + 3) 4 (by omega) (by simp); simp [go_sem] at this; have := hc1 (w.heap.size + 3) 5 (by omega) (by simp); simp [go_sem] at this; have := hc1 (w.heap.size + 3) 6 (by omega) (by simp); simp [go_sem] at this; have := hc1 (w.heap.size + 4) 0 (by omega) (by simp); simp [go_sem] at this; have := fun j => hf1 (w.heap.size) j (by omega) (by simp); simp [go_sem] at this; have := fun j => hf1 (w.heap.size + 3) j (by omega) (by simp); simp [go_sem] at this; clear hc1 hf1
  go_region
  go_wp2_with fail
  refine bodyPost_ret (by simp [results, Try.results17, go_sem, *]) rfl ⟨rfl, ?_⟩
  refine Below.drew ?_
  (repeat' refine Below.setCell ?_ (by first | (simp; done) | (simp; omega)) _)
  exact (Fr.of_below _ hb1 |> (((((((Fr.refl w (fun _ => False)).alloc _).alloc _).alloc _).alloc _).alloc _)).trans).below (Nat.le_refl _) (fun _ _ h => h)

set_option maxRecDepth 100000 in
set_option maxHeartbeats 2000000 in
theorem begin_err (w : World) (av : Option Nat) (A : Option Addr) (c n : Nat) (L : Ld) (hR : Rs w av 10 Tk.vals A L.tks) (hn : L.tks.length = n) (hc63 : n ≤ 4294967296) (k run ep : Int) (t : Tk) (hok : L.ok = true) (hk : L.get? k = some t) (er : Int) (her : (er != 0) = true) (hran : (ranB 1 run ep = false ∧ er = 3) ∨ (ranB 1 run ep = true ∧ t.st ≠ 0 ∧ er = 45)) :
    Calls Try.prog 17 #[.agg #[.slice A n c, .int .i64 L.r0, .int .i64 L.r1, .int .i64 L.r2, .int .i64 L.r3, .int .i64 L.r4, .int .i64 L.r5], .int .i64 k, .int .i64 run, .int .i64 ep] w fun e w' => e = .returned (.tuple #[.agg #[.slice none 0 0, .int .i64 0, .int .i64 0, .int .i64 0, .int .i64 0, .int .i64 0, .int .i64 0], .int .i64 0, .int .i64 er]) ∧ Below w.heap.size w w' := by
  have hN := hide hn; clear hn
  have HK := hide hk; clear hk
  have HR := hide hran; clear hran
  go_enter Try.func17, Try.ntmps17
  go_wp2_with (go_at_call 42; refine (change_begin_err A c n L k t (w.heap.size + 1) (w.heap.size + 2) (w.heap.size + 4) run ep 0 _ av (((((hR.alloc _).alloc _).alloc _).alloc _).alloc _) hN.out hc63 hok HK.out er her (by simp [go_sem]) (by simp [go_sem]) (by simp [go_sem]) (by simp [go_sem]) (by simp) (by simp) (by simp) HR.out).mono ?_; rintro e w1 ⟨rfl, hb1⟩; obtain ⟨hc1, hf1, hz1⟩ := gcell (grown_of_below hb1 none) (w.heap.size + 5) (by first | (simp; done) | (simp; omega)); have : w.heap.size + 3 < w1.heap.size := (by omega); have : w.heap.size + 4 < w1.heap.size := (by omega); have : w.heap.size < w1.heap.size := (by omega))
  have := hc1 (w.heap.size) 0 (by omega) (by simp); simp [go_sem] at this; have := hc1 (w.heap.size) 1 (by omega) (by simp); simp [go_sem] at this; have := hc1 (w.heap.size) 2 (by omega) (by simp); simp [go_sem] at this; have := hc1 (w.heap.size) 3 (by omega) (by simp); simp [go_sem] at this; have := hc1 (w.heap.size) 4 (by omega) (by simp); simp [go_sem] at this; have := hc1 (w.heap.size) 5 (by omega) (by simp); simp [go_sem] at this; have := hc1 (w.heap.size) 6 (by omega) (by simp); simp [go_sem] at this; have := hc1 (w.heap.size + 3) 0 (by omega) (by simp); simp [go_sem] at this; have := hc1 (w.heap.size + 3) 1 (by omega) (by simp); simp [go_sem] at this; have := hc1 (w.heap.size + 3) 2 (by omega) (by simp); simp [go_sem] at this; have := hc1 (w.heap.size + 3) 3 (by omega) (by simp); simp [go_sem] at this; have := hc1 (w.heap.size + 3) 4 (by omega) (by simp); simp [go_sem] at this; have := hc1 (w.heap.size + 3) 5 (by omega) (by simp); simp [go_sem] at this; have := hc1 (w.heap.size + 3) 6 (by omega) (by simp); simp [go_sem] at this; have := hc1 (w.heap.size + 4) 0 (by omega) (by simp); simp [go_sem] at this; have := fun j => hf1 (w.heap.size) j (by omega) (by simp); simp [go_sem] at this; have := fun j => hf1 (w.heap.size + 3) j (by omega) (by simp); simp [go_sem] at this; clear hc1 hf1
  go_region
  go_wp2_with fail
  refine bodyPost_ret (by simp [results, Try.results17, go_sem, *]) rfl ⟨rfl, ?_⟩
  refine Below.drew ?_
  (repeat' refine Below.setCell ?_ (by first | (simp; done) | (simp; omega)) _)
  exact (Fr.of_below _ hb1 |> (((((((Fr.refl w (fun _ => False)).alloc _).alloc _).alloc _).alloc _).alloc _)).trans).below (Nat.le_refl _) (fun _ _ h => h)

set_option maxRecDepth 100000 in
set_option maxHeartbeats 2000000 in
theorem begin_ok (w : World) (av : Option Nat) (A : Option Addr) (c n : Nat) (L : Ld) (hR : Rs w av 10 Tk.vals A L.tks) (hn : L.tks.length = n) (hc63 : n ≤ 4294967296) (k run ep : Int) (t : Tk) (hok : L.ok = true) (hk : L.get? k = some t) (hran : ranB 1 run ep = true) (hst : t.st = 0) (hav : ∀ x, av = some x → x < w.heap.size) :
    Calls Try.prog 17 #[.agg #[.slice A n c, .int .i64 L.r0, .int .i64 L.r1, .int .i64 L.r2, .int .i64 L.r3, .int .i64 L.r4, .int .i64 L.r5], .int .i64 k, .int .i64 run, .int .i64 ep] w fun e w' => ∃ g, e = .returned (.tuple #[.agg #[.slice (some ⟨g, 0, none⟩) n (n + 1), .int .i64 L.r0, .int .i64 L.r1, .int .i64 L.r2, .int .i64 L.r3, .int .i64 L.r4, .int .i64 L.r5], .int .i64 (t.att + 1), .int .i64 0]) ∧
      Rs w' av 10 Tk.vals (some ⟨g, 0, none⟩) (L.put k { t with st := 1, att := t.att + 1, run := run, ep := ep }).tks ∧ Below w.heap.size w w' := by
  have hatt := tk_wait (tk_att hok hk) hst
  have hN := hide hn; clear hn
  have HK := hide hk; clear hk
  have HR := hide hran; clear hran
  have HS := hide hst; clear hst
  go_enter Try.func17, Try.ntmps17
  go_wp2_with (go_at_call 42; refine (change_begin_ok A c n L k t (w.heap.size + 1) (w.heap.size + 2) (w.heap.size + 4) run ep 0 _ av (((((hR.alloc _).alloc _).alloc _).alloc _).alloc _) hN.out hc63 hok HK.out (by simp [go_sem]) (by simp [go_sem]) (by simp [go_sem]) (by simp [go_sem]) (by simp) (by simp) (by simp) HR.out HS.out hatt).mono ?_; rintro e w1 ⟨g, rfl, hown1, hcell1, hfr1⟩; obtain ⟨hc1, hf1, hz1⟩ := fcell hfr1 (w.heap.size + 4) (by simp); have : w.heap.size + 3 < w1.heap.size := (by have := hfr1.size; simp at this; omega); have : w.heap.size + 4 < w1.heap.size := (by have := hfr1.size; simp at this; omega); have : w.heap.size < w1.heap.size := (by omega); have hg1 := (hown1.lt g rfl).1; simp at hg1; have hg2 := (hown1.lt g rfl).2)
  have := hc1 (w.heap.size) 0 (by omega) (by simp); simp [go_sem] at this; have := hc1 (w.heap.size) 1 (by omega) (by simp); simp [go_sem] at this; have := hc1 (w.heap.size) 2 (by omega) (by simp); simp [go_sem] at this; have := hc1 (w.heap.size) 3 (by omega) (by simp); simp [go_sem] at this; have := hc1 (w.heap.size) 4 (by omega) (by simp); simp [go_sem] at this; have := hc1 (w.heap.size) 5 (by omega) (by simp); simp [go_sem] at this; have := hc1 (w.heap.size) 6 (by omega) (by simp); simp [go_sem] at this
  have := hc1 (w.heap.size + 3) 0 (by omega) (by simp); simp [go_sem] at this; have := hc1 (w.heap.size + 3) 1 (by omega) (by simp); simp [go_sem] at this; have := hc1 (w.heap.size + 3) 2 (by omega) (by simp); simp [go_sem] at this; have := hc1 (w.heap.size + 3) 3 (by omega) (by simp); simp [go_sem] at this; have := hc1 (w.heap.size + 3) 4 (by omega) (by simp); simp [go_sem] at this; have := hc1 (w.heap.size + 3) 5 (by omega) (by simp); simp [go_sem] at this; have := hc1 (w.heap.size + 3) 6 (by omega) (by simp); simp [go_sem] at this
  have := fun j => hf1 (w.heap.size) j (by omega) (by simp); simp [go_sem] at this
  have := fun j => hf1 (w.heap.size + 3) j (by omega) (by simp); simp [go_sem] at this
  clear hc1 hf1
  go_region
  go_wp2_with fail
  refine bodyPost_ret (v := .tuple #[.agg #[.slice (some ⟨g, 0, none⟩) n (n + 1), .int .i64 L.r0, .int .i64 L.r1, .int .i64 L.r2, .int .i64 L.r3, .int .i64 L.r4, .int .i64 L.r5], .int .i64 (t.att + 1), .int .i64 0]) (by simp [results, Try.results17, go_sem, *]) rfl ⟨g, rfl, ?_, ?_⟩
  · refine Rs.of_own (base := w.heap.size) (n := n) (c := n + 1) (e := 43) (own_drew ?_) Tk.vals_len (by simp [Ld.put, hN.out]) hav
    (repeat' refine own_far ?_ (by simp [Value.ownBlock]; omega) _)
    exact own_base hown1 (by simp; omega)
  · refine Below.drew ?_
    (repeat' refine Below.setCell ?_ (by first | (simp; done) | (simp; omega)) _)
    exact (((((((Fr.refl w (fun _ => False)).alloc _).alloc _).alloc _).alloc _).alloc _).step hfr1 (fun j hj hs => by have hs2 : j = w.heap.size + 4 := hs; omega)).below (Nat.le_refl _) (fun _ _ h => h)

theorem nil_res {w' : World} {av : Option Nat} : Rs w' av 10 Tk.vals none Ld.nil.tks := Rs.nil

theorem begin_any (w : World) (av : Option Nat) (A : Option Addr) (c n : Nat) (L : Ld) (hR : Rs w av 10 Tk.vals A L.tks) (hn : L.tks.length = n) (hc63 : n ≤ 4294967296) (k run ep : Int) (hav : ∀ x, av = some x → x < w.heap.size) :
    Calls Try.prog 17 #[.agg #[.slice A n c, .int .i64 L.r0, .int .i64 L.r1, .int .i64 L.r2, .int .i64 L.r3, .int .i64 L.r4, .int .i64 L.r5], .int .i64 k, .int .i64 run, .int .i64 ep] w fun e w' => ∃ A' c', e = .returned (.tuple #[.agg #[.slice A' (L.begin k run ep).1.tks.length c', .int .i64 (L.begin k run ep).1.r0, .int .i64 (L.begin k run ep).1.r1, .int .i64 (L.begin k run ep).1.r2, .int .i64 (L.begin k run ep).1.r3, .int .i64 (L.begin k run ep).1.r4, .int .i64 (L.begin k run ep).1.r5], .int .i64 (L.begin k run ep).2.1, .int .i64 (L.begin k run ep).2.2]) ∧ Rs w' av 10 Tk.vals A' (L.begin k run ep).1.tks ∧ Below w.heap.size w w' := by
  cases hok : L.ok
  · have e1 : L.begin k run ep = (.nil, 0, 1) := by simp [Ld.begin, hok]
    rw [e1]
    exact (begin_bad w av A c n L hR hn hc63 k run ep hok).mono fun e w' ⟨he, hb⟩ => ⟨none, 0, he, Rs.nil, hb⟩
  cases hk : L.get? k with
  | none =>
    have e1 : L.begin k run ep = (.nil, 0, 18) := by simp [Ld.begin, hok, hk]
    rw [e1]
    exact (begin_none w av A c n L hR hn hc63 k run ep hok hk).mono fun e w' ⟨he, hb⟩ => ⟨none, 0, he, Rs.nil, hb⟩
  | some t =>
    cases hran : ranB 1 run ep
    · have e1 : L.begin k run ep = (.nil, 0, 3) := by simp [Ld.begin, hok, hk, hran]
      rw [e1]
      exact (begin_err w av A c n L hR hn hc63 k run ep t hok hk 3 rfl (.inl ⟨hran, rfl⟩)).mono fun e w' ⟨he, hb⟩ => ⟨none, 0, he, Rs.nil, hb⟩
    by_cases hst : t.st = 0
    · have e1 : L.begin k run ep = (L.put k { t with st := 1, att := t.att + 1, run := run, ep := ep }, t.att + 1, 0) := by simp [Ld.begin, hok, hk, hran, hst]
      rw [e1]
      have hlen : (L.put k { t with st := 1, att := t.att + 1, run := run, ep := ep }).tks.length = n := by simp [Ld.put, hn]
      refine (begin_ok w av A c n L hR hn hc63 k run ep t hok hk hran hst hav).mono fun e w' ⟨g, he, hr, hb⟩ => ⟨some ⟨g, 0, none⟩, n + 1, ?_, hr, hb⟩
      dsimp only
      rw [hlen]
      exact he
    · have e1 : L.begin k run ep = (.nil, 0, 45) := by simp [Ld.begin, hok, hk, hran, hst]
      rw [e1]
      exact (begin_err w av A c n L hR hn hc63 k run ep t hok hk 45 rfl (.inr ⟨hran, hst, rfl⟩)).mono fun e w' ⟨he, hb⟩ => ⟨none, 0, he, Rs.nil, hb⟩

end Go.Proofs.Ytjhkgoengoiljaa
