/- Contracts of the functions that these laws reach: part 13: Contracts: Take. -/
import Derived.Test.YtjhkgoengoiljaaG12
import Derived.Test.YtjhkgoengoiljaaG2
import Derived.Deep.Cut
import Derived.Deep.RegionHeld3
set_option linter.unusedVariables false
set_option linter.unusedSimpArgs false

/- Contracts: Take. -/
namespace Go.Proofs.Ytjhkgoengoiljaa
open Go.RowKit

theorem ok_len' {L : Ld} (h : L.ok = true) : L.tks.length ≤ 128 := by simp [Ld.ok] at h; exact h.1.1.1
theorem ok_reps {L : Ld} (h : L.ok = true) : (0 ≤ L.r1 ∧ L.r1 ≤ 1073741824) ∧ (0 ≤ L.r2 ∧ L.r2 ≤ 1073741824) ∧ (0 ≤ L.r3 ∧ L.r3 ≤ 1073741824) ∧ (0 ≤ L.r4 ∧ L.r4 ≤ 1073741824) ∧ (0 ≤ L.r5 ∧ L.r5 ≤ 1073741824) := by
  simp [Ld.ok, Ld.repsOk, cntB] at h
  omega

set_option maxRecDepth 100000 in
set_option maxHeartbeats 2000000 in
theorem take_ok2 (w : World) (av : Option Nat) (A : Option Addr) (c n : Nat) (L : Ld) (hR : Rs w av 10 Tk.vals A L.tks) (hn : L.tks.length = n) (hc63 : n ≤ 4294967296) (p : Rp) (hp : reportOk p = true) (hok : L.ok = true) (hk : L.kind p = 2) (hr : L.r2 ≠ 1073741824) (hav : ∀ x, av = some x → x < w.heap.size) :
    Calls Try.prog 18 #[.agg #[.slice A n c, .int .i64 L.r0, .int .i64 L.r1, .int .i64 L.r2, .int .i64 L.r3, .int .i64 L.r4, .int .i64 L.r5], .agg #[.int .i64 p.tick, .int .i64 p.att, .int .i64 p.run, .int .i64 p.ep, .int .i64 p.out]] w fun e w' => ∃ A' c', e = .returned (.tuple #[.agg #[.slice A' n c', .int .i64 ({ L with r2 := L.r2 + 1 } : Ld).r0, .int .i64 ({ L with r2 := L.r2 + 1 } : Ld).r1, .int .i64 ({ L with r2 := L.r2 + 1 } : Ld).r2, .int .i64 ({ L with r2 := L.r2 + 1 } : Ld).r3, .int .i64 ({ L with r2 := L.r2 + 1 } : Ld).r4, .int .i64 ({ L with r2 := L.r2 + 1 } : Ld).r5], .int .i64 2, .int .i64 0]) ∧ Rs w' av 10 Tk.vals A' L.tks ∧ Below w.heap.size w w' := by
  have h128 : n ≤ 128 := hn ▸ ok_len' hok
  obtain ⟨⟨a1, b1⟩, ⟨a2, b2⟩, ⟨a3, b3⟩, ⟨a4, b4⟩, ⟨a5, b5⟩⟩ := ok_reps hok
  have hq : (L.r2 == 1073741824) = false := by simp [hr]
  have hN := hide hn; clear hn
  have HP := hide hp; clear hp
  have HK := hide hok; clear hok
  have HKI := hide hk; clear hk
  have HV := hide hav; clear hav
  clear hr
  go_enter Try.func18, Try.ntmps18
  go_wp2_with (first
    | (go_at_call 45; refine (send_ok _ p HP.out).mono ?_; rintro e w1 ⟨⟨A1, c1, rfl⟩, hb1⟩; obtain ⟨hc1, hf1, hz1⟩ := gcell (grown_of_below hb1 none) (w.heap.size + 3) (by first | (simp; done) | (simp; omega)); have : w.heap.size < w1.heap.size := (by omega); have : w.heap.size + 1 < w1.heap.size := (by omega); have : w.heap.size + 2 < w1.heap.size := (by omega))
    | (go_at_call 11; refine (check_any A c n L _ av (((((hR.alloc _).alloc _).alloc _).below hb1).alloc _) hN.out hc63).mono ?_; rintro e w2 ⟨rfl, hb2⟩; rw [HK.out]; obtain ⟨hc2, hf2, hz2⟩ := gcell (grown_of_below hb2 none) (w1.heap.size + 1) (by simp); have : w.heap.size < w2.heap.size := (by omega); have : w.heap.size + 1 < w2.heap.size := (by omega); have : w.heap.size + 2 < w2.heap.size := (by omega); have : w.heap.size < w1.heap.size + 1 := (by omega); have : w.heap.size + 1 < w1.heap.size + 1 := (by omega); have : w.heap.size + 2 < w1.heap.size + 1 := (by omega))
    | (go_at_call 46; refine (kind_any A n c L p _ av ((((((hR.alloc _).alloc _).alloc _).below hb1).alloc _).below hb2) hN.out hc63).mono ?_; rintro e w3 ⟨rfl, hb3⟩; rw [HKI.out]; obtain ⟨hc3, hf3, hz3⟩ := gcell (grown_of_below hb3 none) w2.heap.size (by simp); have : w.heap.size < w3.heap.size := (by omega); have : w.heap.size + 1 < w3.heap.size := (by omega); have : w.heap.size + 2 < w3.heap.size := (by omega)))
  (go_at_call 41; refine (copied_any A c n L _ av (((((((hR.alloc _).alloc _).alloc _).below hb1).alloc _).below hb2).below hb3) hN.out h128).mono ?_; rintro e w4 ⟨g, rfl, hown4, hb4⟩; obtain ⟨hc4, hf4, hz4⟩ := gcell (grown_of_below hb4 none) w3.heap.size (by simp); have : w.heap.size < w4.heap.size := (by omega); have : w.heap.size + 1 < w4.heap.size := (by omega); have : w.heap.size + 2 < w4.heap.size := (by omega); have : w4.cell? ⟨w.heap.size, 0, none⟩ = some (.slice A n c) := (by go_simp); have : w4.cell? ⟨w.heap.size, 1, none⟩ = some (.int .i64 L.r0) := (by go_simp); have : w4.cell? ⟨w.heap.size, 2, none⟩ = some (.int .i64 L.r1) := (by go_simp); have : w4.cell? ⟨w.heap.size, 3, none⟩ = some (.int .i64 L.r2) := (by go_simp); have : w4.cell? ⟨w.heap.size, 4, none⟩ = some (.int .i64 L.r3) := (by go_simp); have : w4.cell? ⟨w.heap.size, 5, none⟩ = some (.int .i64 L.r4) := (by go_simp); have : w4.cell? ⟨w.heap.size, 6, none⟩ = some (.int .i64 L.r5) := (by go_simp); have : w4.cell? ⟨w.heap.size + 2, 0, none⟩ = some (.slice none 0 0) := (by go_simp); have : w4.cell? ⟨w.heap.size + 2, 1, none⟩ = some (.int .i64 0) := (by go_simp); have : w4.cell? ⟨w.heap.size + 2, 2, none⟩ = some (.int .i64 0) := (by go_simp); have : w4.cell? ⟨w.heap.size + 2, 3, none⟩ = some (.int .i64 0) := (by go_simp); have : w4.cell? ⟨w.heap.size + 2, 4, none⟩ = some (.int .i64 0) := (by go_simp); have : w4.cell? ⟨w.heap.size + 2, 5, none⟩ = some (.int .i64 0) := (by go_simp); have : w4.cell? ⟨w.heap.size + 2, 6, none⟩ = some (.int .i64 0) := (by go_simp); have : w4.cell? ⟨w.heap.size + 1, 0, none⟩ = some (.int .i64 p.tick) := (by go_simp); have : w4.cell? ⟨w.heap.size + 1, 1, none⟩ = some (.int .i64 p.att) := (by go_simp); have : w4.cell? ⟨w.heap.size + 1, 2, none⟩ = some (.int .i64 p.run) := (by go_simp); have : w4.cell? ⟨w.heap.size + 1, 3, none⟩ = some (.int .i64 p.ep) := (by go_simp); have : w4.cell? ⟨w.heap.size + 1, 4, none⟩ = some (.int .i64 p.out) := (by go_simp); have : ∀ j, w4.frozen? ⟨w.heap.size, j, none⟩ = false := (by intro j; go_simp); have : ∀ j, w4.frozen? ⟨w.heap.size + 2, j, none⟩ = false := (by intro j; go_simp); have HO := hide hown4; have HB1 := hide hb1; have HB2 := hide hb2; have HB3 := hide hb3; have HB4 := hide hb4; clear hc1 hf1 hc2 hf2 hc3 hf3 hc4 hf4 hown4 hb1 hb2 hb3 hb4)
  go_upto_region 9 with (fail)
  generalize hW : World.setCell (World.setCell (World.setCell (World.setCell (World.setCell (World.setCell (World.setCell (World.setCell w4 _ _) _ _) _ _) _ _) _ _) _ _) _ _) _ _ = w5
  have p0 : w5.cell? ⟨w.heap.size, 0, none⟩ = some (.slice (some ⟨g, 0, none⟩) n (n + 1)) := (by rw [← hW]; clear hW; go_simp); have p1 : w5.cell? ⟨w.heap.size, 1, none⟩ = some (.int .i64 (L.r0)) := (by rw [← hW]; clear hW; go_simp); have p2 : w5.cell? ⟨w.heap.size, 2, none⟩ = some (.int .i64 (L.r1)) := (by rw [← hW]; clear hW; go_simp); have p3 : w5.cell? ⟨w.heap.size, 3, none⟩ = some (.int .i64 (L.r2 + 1)) := (by rw [← hW]; clear hW; go_simp); have p4 : w5.cell? ⟨w.heap.size, 4, none⟩ = some (.int .i64 (L.r3)) := (by rw [← hW]; clear hW; go_simp); have p5 : w5.cell? ⟨w.heap.size, 5, none⟩ = some (.int .i64 (L.r4)) := (by rw [← hW]; clear hW; go_simp); have p6 : w5.cell? ⟨w.heap.size, 6, none⟩ = some (.int .i64 (L.r5)) := (by rw [← hW]; clear hW; go_simp)
  have q0 : w5.cell? ⟨w.heap.size + 2, 0, none⟩ = some (.slice none 0 0) := (by rw [← hW]; clear hW; go_simp); have q1 : w5.cell? ⟨w.heap.size + 2, 1, none⟩ = some (.int .i64 0) := (by rw [← hW]; clear hW; go_simp); have q2 : w5.cell? ⟨w.heap.size + 2, 2, none⟩ = some (.int .i64 0) := (by rw [← hW]; clear hW; go_simp); have q3 : w5.cell? ⟨w.heap.size + 2, 3, none⟩ = some (.int .i64 0) := (by rw [← hW]; clear hW; go_simp); have q4 : w5.cell? ⟨w.heap.size + 2, 4, none⟩ = some (.int .i64 0) := (by rw [← hW]; clear hW; go_simp); have q5 : w5.cell? ⟨w.heap.size + 2, 5, none⟩ = some (.int .i64 0) := (by rw [← hW]; clear hW; go_simp); have q6 : w5.cell? ⟨w.heap.size + 2, 6, none⟩ = some (.int .i64 0) := (by rw [← hW]; clear hW; go_simp)
  have g5 : ∀ j, w5.frozen? ⟨w.heap.size + 2, j, none⟩ = false := (by intro j; rw [← hW]; clear hW; go_simp)
  have HW := hide hW
  clear hW
  go_wp2_with fail
  refine bodyPost_ret (v := .tuple #[.agg #[.slice (some ⟨g, 0, none⟩) n (n + 1), .int .i64 ({ L with r2 := L.r2 + 1 } : Ld).r0, .int .i64 ({ L with r2 := L.r2 + 1 } : Ld).r1, .int .i64 ({ L with r2 := L.r2 + 1 } : Ld).r2, .int .i64 ({ L with r2 := L.r2 + 1 } : Ld).r3, .int .i64 ({ L with r2 := L.r2 + 1 } : Ld).r4, .int .i64 ({ L with r2 := L.r2 + 1 } : Ld).r5], .int .i64 2, .int .i64 0]) (by simp [results, Try.results18, go_sem, *]) rfl ⟨some ⟨g, 0, none⟩, n + 1, rfl, ?_, ?_⟩
  · refine Rs.of_own (base := w.heap.size) (n := n) (c := n + 1) (e := 43) ?_ Tk.vals_len hN.out HV.out
    have hg3 := (HO.out.lt g rfl).1
    have hW := HW.out; clear HW; subst hW
    ((repeat' first | (with_reducible refine own_far ?_ (by simp [Value.ownBlock]; omega) _) | (with_reducible refine own_drew ?_) | (with_reducible refine World.ownsRow.alloc ?_ _)); exact own_base HO.out (by omega))
  · refine Fr.below (S := fun _ => False) ?_ (Nat.le_refl _) (fun _ _ h => h)
    have hW := HW.out; clear HW; subst hW
    (repeat' first | (with_reducible refine Fr.setCell ?_ (Or.inl (by first | (simp; done) | (simp; omega))) _) | (with_reducible refine Fr.alloc ?_ _) | (with_reducible refine Fr.drew ?_))
    refine Fr.below_ ?_ HB4.out
    refine Fr.below_ ?_ HB3.out
    refine Fr.below_ ?_ HB2.out
    (repeat' first | (with_reducible refine Fr.setCell ?_ (Or.inl (by first | (simp; done) | (simp; omega))) _) | (with_reducible refine Fr.alloc ?_ _) | (with_reducible refine Fr.drew ?_))
    exact ((((Fr.refl w _).alloc _).alloc _).alloc _).below_ HB1.out

set_option maxRecDepth 100000 in
set_option maxHeartbeats 2000000 in
theorem take_ok3 (w : World) (av : Option Nat) (A : Option Addr) (c n : Nat) (L : Ld) (hR : Rs w av 10 Tk.vals A L.tks) (hn : L.tks.length = n) (hc63 : n ≤ 4294967296) (p : Rp) (hp : reportOk p = true) (hok : L.ok = true) (hk : L.kind p = 3) (hr : L.r3 ≠ 1073741824) (hav : ∀ x, av = some x → x < w.heap.size) :
    Calls Try.prog 18 #[.agg #[.slice A n c, .int .i64 L.r0, .int .i64 L.r1, .int .i64 L.r2, .int .i64 L.r3, .int .i64 L.r4, .int .i64 L.r5], .agg #[.int .i64 p.tick, .int .i64 p.att, .int .i64 p.run, .int .i64 p.ep, .int .i64 p.out]] w fun e w' => ∃ A' c', e = .returned (.tuple #[.agg #[.slice A' n c', .int .i64 ({ L with r3 := L.r3 + 1 } : Ld).r0, .int .i64 ({ L with r3 := L.r3 + 1 } : Ld).r1, .int .i64 ({ L with r3 := L.r3 + 1 } : Ld).r2, .int .i64 ({ L with r3 := L.r3 + 1 } : Ld).r3, .int .i64 ({ L with r3 := L.r3 + 1 } : Ld).r4, .int .i64 ({ L with r3 := L.r3 + 1 } : Ld).r5], .int .i64 3, .int .i64 0]) ∧ Rs w' av 10 Tk.vals A' L.tks ∧ Below w.heap.size w w' := by
  have h128 : n ≤ 128 := hn ▸ ok_len' hok
  obtain ⟨⟨a1, b1⟩, ⟨a2, b2⟩, ⟨a3, b3⟩, ⟨a4, b4⟩, ⟨a5, b5⟩⟩ := ok_reps hok
  have hq : (L.r3 == 1073741824) = false := by simp [hr]
  have hN := hide hn; clear hn
  have HP := hide hp; clear hp
  have HK := hide hok; clear hok
  have HKI := hide hk; clear hk
  have HV := hide hav; clear hav
  clear hr
  go_enter Try.func18, Try.ntmps18
  go_wp2_with (first
    | (go_at_call 45; refine (send_ok _ p HP.out).mono ?_; rintro e w1 ⟨⟨A1, c1, rfl⟩, hb1⟩; obtain ⟨hc1, hf1, hz1⟩ := gcell (grown_of_below hb1 none) (w.heap.size + 3) (by first | (simp; done) | (simp; omega)); have : w.heap.size < w1.heap.size := (by omega); have : w.heap.size + 1 < w1.heap.size := (by omega); have : w.heap.size + 2 < w1.heap.size := (by omega))
    | (go_at_call 11; refine (check_any A c n L _ av (((((hR.alloc _).alloc _).alloc _).below hb1).alloc _) hN.out hc63).mono ?_; rintro e w2 ⟨rfl, hb2⟩; rw [HK.out]; obtain ⟨hc2, hf2, hz2⟩ := gcell (grown_of_below hb2 none) (w1.heap.size + 1) (by simp); have : w.heap.size < w2.heap.size := (by omega); have : w.heap.size + 1 < w2.heap.size := (by omega); have : w.heap.size + 2 < w2.heap.size := (by omega); have : w.heap.size < w1.heap.size + 1 := (by omega); have : w.heap.size + 1 < w1.heap.size + 1 := (by omega); have : w.heap.size + 2 < w1.heap.size + 1 := (by omega))
    | (go_at_call 46; refine (kind_any A n c L p _ av ((((((hR.alloc _).alloc _).alloc _).below hb1).alloc _).below hb2) hN.out hc63).mono ?_; rintro e w3 ⟨rfl, hb3⟩; rw [HKI.out]; obtain ⟨hc3, hf3, hz3⟩ := gcell (grown_of_below hb3 none) w2.heap.size (by simp); have : w.heap.size < w3.heap.size := (by omega); have : w.heap.size + 1 < w3.heap.size := (by omega); have : w.heap.size + 2 < w3.heap.size := (by omega)))
  (go_at_call 41; refine (copied_any A c n L _ av (((((((hR.alloc _).alloc _).alloc _).below hb1).alloc _).below hb2).below hb3) hN.out h128).mono ?_; rintro e w4 ⟨g, rfl, hown4, hb4⟩; obtain ⟨hc4, hf4, hz4⟩ := gcell (grown_of_below hb4 none) w3.heap.size (by simp); have : w.heap.size < w4.heap.size := (by omega); have : w.heap.size + 1 < w4.heap.size := (by omega); have : w.heap.size + 2 < w4.heap.size := (by omega); have : w4.cell? ⟨w.heap.size, 0, none⟩ = some (.slice A n c) := (by go_simp); have : w4.cell? ⟨w.heap.size, 1, none⟩ = some (.int .i64 L.r0) := (by go_simp); have : w4.cell? ⟨w.heap.size, 2, none⟩ = some (.int .i64 L.r1) := (by go_simp); have : w4.cell? ⟨w.heap.size, 3, none⟩ = some (.int .i64 L.r2) := (by go_simp); have : w4.cell? ⟨w.heap.size, 4, none⟩ = some (.int .i64 L.r3) := (by go_simp); have : w4.cell? ⟨w.heap.size, 5, none⟩ = some (.int .i64 L.r4) := (by go_simp); have : w4.cell? ⟨w.heap.size, 6, none⟩ = some (.int .i64 L.r5) := (by go_simp); have : w4.cell? ⟨w.heap.size + 2, 0, none⟩ = some (.slice none 0 0) := (by go_simp); have : w4.cell? ⟨w.heap.size + 2, 1, none⟩ = some (.int .i64 0) := (by go_simp); have : w4.cell? ⟨w.heap.size + 2, 2, none⟩ = some (.int .i64 0) := (by go_simp); have : w4.cell? ⟨w.heap.size + 2, 3, none⟩ = some (.int .i64 0) := (by go_simp); have : w4.cell? ⟨w.heap.size + 2, 4, none⟩ = some (.int .i64 0) := (by go_simp); have : w4.cell? ⟨w.heap.size + 2, 5, none⟩ = some (.int .i64 0) := (by go_simp); have : w4.cell? ⟨w.heap.size + 2, 6, none⟩ = some (.int .i64 0) := (by go_simp); have : w4.cell? ⟨w.heap.size + 1, 0, none⟩ = some (.int .i64 p.tick) := (by go_simp); have : w4.cell? ⟨w.heap.size + 1, 1, none⟩ = some (.int .i64 p.att) := (by go_simp); have : w4.cell? ⟨w.heap.size + 1, 2, none⟩ = some (.int .i64 p.run) := (by go_simp); have : w4.cell? ⟨w.heap.size + 1, 3, none⟩ = some (.int .i64 p.ep) := (by go_simp); have : w4.cell? ⟨w.heap.size + 1, 4, none⟩ = some (.int .i64 p.out) := (by go_simp); have : ∀ j, w4.frozen? ⟨w.heap.size, j, none⟩ = false := (by intro j; go_simp); have : ∀ j, w4.frozen? ⟨w.heap.size + 2, j, none⟩ = false := (by intro j; go_simp); have HO := hide hown4; have HB1 := hide hb1; have HB2 := hide hb2; have HB3 := hide hb3; have HB4 := hide hb4; clear hc1 hf1 hc2 hf2 hc3 hf3 hc4 hf4 hown4 hb1 hb2 hb3 hb4)
  go_upto_region 9 with (fail)
  generalize hW : World.setCell (World.setCell (World.setCell (World.setCell (World.setCell (World.setCell (World.setCell (World.setCell w4 _ _) _ _) _ _) _ _) _ _) _ _) _ _) _ _ = w5
  have p0 : w5.cell? ⟨w.heap.size, 0, none⟩ = some (.slice (some ⟨g, 0, none⟩) n (n + 1)) := (by rw [← hW]; clear hW; go_simp); have p1 : w5.cell? ⟨w.heap.size, 1, none⟩ = some (.int .i64 (L.r0)) := (by rw [← hW]; clear hW; go_simp); have p2 : w5.cell? ⟨w.heap.size, 2, none⟩ = some (.int .i64 (L.r1)) := (by rw [← hW]; clear hW; go_simp); have p3 : w5.cell? ⟨w.heap.size, 3, none⟩ = some (.int .i64 (L.r2)) := (by rw [← hW]; clear hW; go_simp); have p4 : w5.cell? ⟨w.heap.size, 4, none⟩ = some (.int .i64 (L.r3 + 1)) := (by rw [← hW]; clear hW; go_simp); have p5 : w5.cell? ⟨w.heap.size, 5, none⟩ = some (.int .i64 (L.r4)) := (by rw [← hW]; clear hW; go_simp); have p6 : w5.cell? ⟨w.heap.size, 6, none⟩ = some (.int .i64 (L.r5)) := (by rw [← hW]; clear hW; go_simp)
  have q0 : w5.cell? ⟨w.heap.size + 2, 0, none⟩ = some (.slice none 0 0) := (by rw [← hW]; clear hW; go_simp); have q1 : w5.cell? ⟨w.heap.size + 2, 1, none⟩ = some (.int .i64 0) := (by rw [← hW]; clear hW; go_simp); have q2 : w5.cell? ⟨w.heap.size + 2, 2, none⟩ = some (.int .i64 0) := (by rw [← hW]; clear hW; go_simp); have q3 : w5.cell? ⟨w.heap.size + 2, 3, none⟩ = some (.int .i64 0) := (by rw [← hW]; clear hW; go_simp); have q4 : w5.cell? ⟨w.heap.size + 2, 4, none⟩ = some (.int .i64 0) := (by rw [← hW]; clear hW; go_simp); have q5 : w5.cell? ⟨w.heap.size + 2, 5, none⟩ = some (.int .i64 0) := (by rw [← hW]; clear hW; go_simp); have q6 : w5.cell? ⟨w.heap.size + 2, 6, none⟩ = some (.int .i64 0) := (by rw [← hW]; clear hW; go_simp)
  have g5 : ∀ j, w5.frozen? ⟨w.heap.size + 2, j, none⟩ = false := (by intro j; rw [← hW]; clear hW; go_simp)
  have HW := hide hW
  clear hW
  go_wp2_with fail
  refine bodyPost_ret (v := .tuple #[.agg #[.slice (some ⟨g, 0, none⟩) n (n + 1), .int .i64 ({ L with r3 := L.r3 + 1 } : Ld).r0, .int .i64 ({ L with r3 := L.r3 + 1 } : Ld).r1, .int .i64 ({ L with r3 := L.r3 + 1 } : Ld).r2, .int .i64 ({ L with r3 := L.r3 + 1 } : Ld).r3, .int .i64 ({ L with r3 := L.r3 + 1 } : Ld).r4, .int .i64 ({ L with r3 := L.r3 + 1 } : Ld).r5], .int .i64 3, .int .i64 0]) (by simp [results, Try.results18, go_sem, *]) rfl ⟨some ⟨g, 0, none⟩, n + 1, rfl, ?_, ?_⟩
  · refine Rs.of_own (base := w.heap.size) (n := n) (c := n + 1) (e := 43) ?_ Tk.vals_len hN.out HV.out
    have hg3 := (HO.out.lt g rfl).1
    have hW := HW.out; clear HW; subst hW
    ((repeat' first | (with_reducible refine own_far ?_ (by simp [Value.ownBlock]; omega) _) | (with_reducible refine own_drew ?_) | (with_reducible refine World.ownsRow.alloc ?_ _)); exact own_base HO.out (by omega))
  · refine Fr.below (S := fun _ => False) ?_ (Nat.le_refl _) (fun _ _ h => h)
    have hW := HW.out; clear HW; subst hW
    (repeat' first | (with_reducible refine Fr.setCell ?_ (Or.inl (by first | (simp; done) | (simp; omega))) _) | (with_reducible refine Fr.alloc ?_ _) | (with_reducible refine Fr.drew ?_))
    refine Fr.below_ ?_ HB4.out
    refine Fr.below_ ?_ HB3.out
    refine Fr.below_ ?_ HB2.out
    (repeat' first | (with_reducible refine Fr.setCell ?_ (Or.inl (by first | (simp; done) | (simp; omega))) _) | (with_reducible refine Fr.alloc ?_ _) | (with_reducible refine Fr.drew ?_))
    exact ((((Fr.refl w _).alloc _).alloc _).alloc _).below_ HB1.out

set_option maxRecDepth 100000 in
set_option maxHeartbeats 2000000 in
theorem take_ok4 (w : World) (av : Option Nat) (A : Option Addr) (c n : Nat) (L : Ld) (hR : Rs w av 10 Tk.vals A L.tks) (hn : L.tks.length = n) (hc63 : n ≤ 4294967296) (p : Rp) (hp : reportOk p = true) (hok : L.ok = true) (hk : L.kind p = 4) (hr : L.r4 ≠ 1073741824) (hav : ∀ x, av = some x → x < w.heap.size) :
    Calls Try.prog 18 #[.agg #[.slice A n c, .int .i64 L.r0, .int .i64 L.r1, .int .i64 L.r2, .int .i64 L.r3, .int .i64 L.r4, .int .i64 L.r5], .agg #[.int .i64 p.tick, .int .i64 p.att, .int .i64 p.run, .int .i64 p.ep, .int .i64 p.out]] w fun e w' => ∃ A' c', e = .returned (.tuple #[.agg #[.slice A' n c', .int .i64 ({ L with r4 := L.r4 + 1 } : Ld).r0, .int .i64 ({ L with r4 := L.r4 + 1 } : Ld).r1, .int .i64 ({ L with r4 := L.r4 + 1 } : Ld).r2, .int .i64 ({ L with r4 := L.r4 + 1 } : Ld).r3, .int .i64 ({ L with r4 := L.r4 + 1 } : Ld).r4, .int .i64 ({ L with r4 := L.r4 + 1 } : Ld).r5], .int .i64 4, .int .i64 0]) ∧ Rs w' av 10 Tk.vals A' L.tks ∧ Below w.heap.size w w' := by
  have h128 : n ≤ 128 := hn ▸ ok_len' hok
  obtain ⟨⟨a1, b1⟩, ⟨a2, b2⟩, ⟨a3, b3⟩, ⟨a4, b4⟩, ⟨a5, b5⟩⟩ := ok_reps hok
  have hq : (L.r4 == 1073741824) = false := by simp [hr]
  have hN := hide hn; clear hn
  have HP := hide hp; clear hp
  have HK := hide hok; clear hok
  have HKI := hide hk; clear hk
  have HV := hide hav; clear hav
  clear hr
  go_enter Try.func18, Try.ntmps18
  go_wp2_with (first
    | (go_at_call 45; refine (send_ok _ p HP.out).mono ?_; rintro e w1 ⟨⟨A1, c1, rfl⟩, hb1⟩; obtain ⟨hc1, hf1, hz1⟩ := gcell (grown_of_below hb1 none) (w.heap.size + 3) (by first | (simp; done) | (simp; omega)); have : w.heap.size < w1.heap.size := (by omega); have : w.heap.size + 1 < w1.heap.size := (by omega); have : w.heap.size + 2 < w1.heap.size := (by omega))
    | (go_at_call 11; refine (check_any A c n L _ av (((((hR.alloc _).alloc _).alloc _).below hb1).alloc _) hN.out hc63).mono ?_; rintro e w2 ⟨rfl, hb2⟩; rw [HK.out]; obtain ⟨hc2, hf2, hz2⟩ := gcell (grown_of_below hb2 none) (w1.heap.size + 1) (by simp); have : w.heap.size < w2.heap.size := (by omega); have : w.heap.size + 1 < w2.heap.size := (by omega); have : w.heap.size + 2 < w2.heap.size := (by omega); have : w.heap.size < w1.heap.size + 1 := (by omega); have : w.heap.size + 1 < w1.heap.size + 1 := (by omega); have : w.heap.size + 2 < w1.heap.size + 1 := (by omega))
    | (go_at_call 46; refine (kind_any A n c L p _ av ((((((hR.alloc _).alloc _).alloc _).below hb1).alloc _).below hb2) hN.out hc63).mono ?_; rintro e w3 ⟨rfl, hb3⟩; rw [HKI.out]; obtain ⟨hc3, hf3, hz3⟩ := gcell (grown_of_below hb3 none) w2.heap.size (by simp); have : w.heap.size < w3.heap.size := (by omega); have : w.heap.size + 1 < w3.heap.size := (by omega); have : w.heap.size + 2 < w3.heap.size := (by omega)))
  (go_at_call 41; refine (copied_any A c n L _ av (((((((hR.alloc _).alloc _).alloc _).below hb1).alloc _).below hb2).below hb3) hN.out h128).mono ?_; rintro e w4 ⟨g, rfl, hown4, hb4⟩; obtain ⟨hc4, hf4, hz4⟩ := gcell (grown_of_below hb4 none) w3.heap.size (by simp); have : w.heap.size < w4.heap.size := (by omega); have : w.heap.size + 1 < w4.heap.size := (by omega); have : w.heap.size + 2 < w4.heap.size := (by omega); have : w4.cell? ⟨w.heap.size, 0, none⟩ = some (.slice A n c) := (by go_simp); have : w4.cell? ⟨w.heap.size, 1, none⟩ = some (.int .i64 L.r0) := (by go_simp); have : w4.cell? ⟨w.heap.size, 2, none⟩ = some (.int .i64 L.r1) := (by go_simp); have : w4.cell? ⟨w.heap.size, 3, none⟩ = some (.int .i64 L.r2) := (by go_simp); have : w4.cell? ⟨w.heap.size, 4, none⟩ = some (.int .i64 L.r3) := (by go_simp); have : w4.cell? ⟨w.heap.size, 5, none⟩ = some (.int .i64 L.r4) := (by go_simp); have : w4.cell? ⟨w.heap.size, 6, none⟩ = some (.int .i64 L.r5) := (by go_simp); have : w4.cell? ⟨w.heap.size + 2, 0, none⟩ = some (.slice none 0 0) := (by go_simp); have : w4.cell? ⟨w.heap.size + 2, 1, none⟩ = some (.int .i64 0) := (by go_simp); have : w4.cell? ⟨w.heap.size + 2, 2, none⟩ = some (.int .i64 0) := (by go_simp); have : w4.cell? ⟨w.heap.size + 2, 3, none⟩ = some (.int .i64 0) := (by go_simp); have : w4.cell? ⟨w.heap.size + 2, 4, none⟩ = some (.int .i64 0) := (by go_simp); have : w4.cell? ⟨w.heap.size + 2, 5, none⟩ = some (.int .i64 0) := (by go_simp); have : w4.cell? ⟨w.heap.size + 2, 6, none⟩ = some (.int .i64 0) := (by go_simp); have : w4.cell? ⟨w.heap.size + 1, 0, none⟩ = some (.int .i64 p.tick) := (by go_simp); have : w4.cell? ⟨w.heap.size + 1, 1, none⟩ = some (.int .i64 p.att) := (by go_simp); have : w4.cell? ⟨w.heap.size + 1, 2, none⟩ = some (.int .i64 p.run) := (by go_simp); have : w4.cell? ⟨w.heap.size + 1, 3, none⟩ = some (.int .i64 p.ep) := (by go_simp); have : w4.cell? ⟨w.heap.size + 1, 4, none⟩ = some (.int .i64 p.out) := (by go_simp); have : ∀ j, w4.frozen? ⟨w.heap.size, j, none⟩ = false := (by intro j; go_simp); have : ∀ j, w4.frozen? ⟨w.heap.size + 2, j, none⟩ = false := (by intro j; go_simp); have HO := hide hown4; have HB1 := hide hb1; have HB2 := hide hb2; have HB3 := hide hb3; have HB4 := hide hb4; clear hc1 hf1 hc2 hf2 hc3 hf3 hc4 hf4 hown4 hb1 hb2 hb3 hb4)
  go_upto_region 9 with (fail)
  generalize hW : World.setCell (World.setCell (World.setCell (World.setCell (World.setCell (World.setCell (World.setCell (World.setCell w4 _ _) _ _) _ _) _ _) _ _) _ _) _ _) _ _ = w5
  have p0 : w5.cell? ⟨w.heap.size, 0, none⟩ = some (.slice (some ⟨g, 0, none⟩) n (n + 1)) := (by rw [← hW]; clear hW; go_simp); have p1 : w5.cell? ⟨w.heap.size, 1, none⟩ = some (.int .i64 (L.r0)) := (by rw [← hW]; clear hW; go_simp); have p2 : w5.cell? ⟨w.heap.size, 2, none⟩ = some (.int .i64 (L.r1)) := (by rw [← hW]; clear hW; go_simp); have p3 : w5.cell? ⟨w.heap.size, 3, none⟩ = some (.int .i64 (L.r2)) := (by rw [← hW]; clear hW; go_simp); have p4 : w5.cell? ⟨w.heap.size, 4, none⟩ = some (.int .i64 (L.r3)) := (by rw [← hW]; clear hW; go_simp); have p5 : w5.cell? ⟨w.heap.size, 5, none⟩ = some (.int .i64 (L.r4 + 1)) := (by rw [← hW]; clear hW; go_simp); have p6 : w5.cell? ⟨w.heap.size, 6, none⟩ = some (.int .i64 (L.r5)) := (by rw [← hW]; clear hW; go_simp)
  have q0 : w5.cell? ⟨w.heap.size + 2, 0, none⟩ = some (.slice none 0 0) := (by rw [← hW]; clear hW; go_simp); have q1 : w5.cell? ⟨w.heap.size + 2, 1, none⟩ = some (.int .i64 0) := (by rw [← hW]; clear hW; go_simp); have q2 : w5.cell? ⟨w.heap.size + 2, 2, none⟩ = some (.int .i64 0) := (by rw [← hW]; clear hW; go_simp); have q3 : w5.cell? ⟨w.heap.size + 2, 3, none⟩ = some (.int .i64 0) := (by rw [← hW]; clear hW; go_simp); have q4 : w5.cell? ⟨w.heap.size + 2, 4, none⟩ = some (.int .i64 0) := (by rw [← hW]; clear hW; go_simp); have q5 : w5.cell? ⟨w.heap.size + 2, 5, none⟩ = some (.int .i64 0) := (by rw [← hW]; clear hW; go_simp); have q6 : w5.cell? ⟨w.heap.size + 2, 6, none⟩ = some (.int .i64 0) := (by rw [← hW]; clear hW; go_simp)
  have g5 : ∀ j, w5.frozen? ⟨w.heap.size + 2, j, none⟩ = false := (by intro j; rw [← hW]; clear hW; go_simp)
  have HW := hide hW
  clear hW
  go_wp2_with fail
  refine bodyPost_ret (v := .tuple #[.agg #[.slice (some ⟨g, 0, none⟩) n (n + 1), .int .i64 ({ L with r4 := L.r4 + 1 } : Ld).r0, .int .i64 ({ L with r4 := L.r4 + 1 } : Ld).r1, .int .i64 ({ L with r4 := L.r4 + 1 } : Ld).r2, .int .i64 ({ L with r4 := L.r4 + 1 } : Ld).r3, .int .i64 ({ L with r4 := L.r4 + 1 } : Ld).r4, .int .i64 ({ L with r4 := L.r4 + 1 } : Ld).r5], .int .i64 4, .int .i64 0]) (by simp [results, Try.results18, go_sem, *]) rfl ⟨some ⟨g, 0, none⟩, n + 1, rfl, ?_, ?_⟩
  · refine Rs.of_own (base := w.heap.size) (n := n) (c := n + 1) (e := 43) ?_ Tk.vals_len hN.out HV.out
    have hg3 := (HO.out.lt g rfl).1
    have hW := HW.out; clear HW; subst hW
    ((repeat' first | (with_reducible refine own_far ?_ (by simp [Value.ownBlock]; omega) _) | (with_reducible refine own_drew ?_) | (with_reducible refine World.ownsRow.alloc ?_ _)); exact own_base HO.out (by omega))
  · refine Fr.below (S := fun _ => False) ?_ (Nat.le_refl _) (fun _ _ h => h)
    have hW := HW.out; clear HW; subst hW
    (repeat' first | (with_reducible refine Fr.setCell ?_ (Or.inl (by first | (simp; done) | (simp; omega))) _) | (with_reducible refine Fr.alloc ?_ _) | (with_reducible refine Fr.drew ?_))
    refine Fr.below_ ?_ HB4.out
    refine Fr.below_ ?_ HB3.out
    refine Fr.below_ ?_ HB2.out
    (repeat' first | (with_reducible refine Fr.setCell ?_ (Or.inl (by first | (simp; done) | (simp; omega))) _) | (with_reducible refine Fr.alloc ?_ _) | (with_reducible refine Fr.drew ?_))
    exact ((((Fr.refl w _).alloc _).alloc _).alloc _).below_ HB1.out

set_option maxRecDepth 100000 in
set_option maxHeartbeats 2000000 in
theorem take_ok5 (w : World) (av : Option Nat) (A : Option Addr) (c n : Nat) (L : Ld) (hR : Rs w av 10 Tk.vals A L.tks) (hn : L.tks.length = n) (hc63 : n ≤ 4294967296) (p : Rp) (hp : reportOk p = true) (hok : L.ok = true) (hk : L.kind p = 5) (hr : L.r5 ≠ 1073741824) (hav : ∀ x, av = some x → x < w.heap.size) :
    Calls Try.prog 18 #[.agg #[.slice A n c, .int .i64 L.r0, .int .i64 L.r1, .int .i64 L.r2, .int .i64 L.r3, .int .i64 L.r4, .int .i64 L.r5], .agg #[.int .i64 p.tick, .int .i64 p.att, .int .i64 p.run, .int .i64 p.ep, .int .i64 p.out]] w fun e w' => ∃ A' c', e = .returned (.tuple #[.agg #[.slice A' n c', .int .i64 ({ L with r5 := L.r5 + 1 } : Ld).r0, .int .i64 ({ L with r5 := L.r5 + 1 } : Ld).r1, .int .i64 ({ L with r5 := L.r5 + 1 } : Ld).r2, .int .i64 ({ L with r5 := L.r5 + 1 } : Ld).r3, .int .i64 ({ L with r5 := L.r5 + 1 } : Ld).r4, .int .i64 ({ L with r5 := L.r5 + 1 } : Ld).r5], .int .i64 5, .int .i64 0]) ∧ Rs w' av 10 Tk.vals A' L.tks ∧ Below w.heap.size w w' := by
  have h128 : n ≤ 128 := hn ▸ ok_len' hok
  obtain ⟨⟨a1, b1⟩, ⟨a2, b2⟩, ⟨a3, b3⟩, ⟨a4, b4⟩, ⟨a5, b5⟩⟩ := ok_reps hok
  have hq : (L.r5 == 1073741824) = false := by simp [hr]
  have hN := hide hn; clear hn
  have HP := hide hp; clear hp
  have HK := hide hok; clear hok
  have HKI := hide hk; clear hk
  have HV := hide hav; clear hav
  clear hr
  go_enter Try.func18, Try.ntmps18
  go_wp2_with (first
    | (go_at_call 45; refine (send_ok _ p HP.out).mono ?_; rintro e w1 ⟨⟨A1, c1, rfl⟩, hb1⟩; obtain ⟨hc1, hf1, hz1⟩ := gcell (grown_of_below hb1 none) (w.heap.size + 3) (by first | (simp; done) | (simp; omega)); have : w.heap.size < w1.heap.size := (by omega); have : w.heap.size + 1 < w1.heap.size := (by omega); have : w.heap.size + 2 < w1.heap.size := (by omega))
    | (go_at_call 11; refine (check_any A c n L _ av (((((hR.alloc _).alloc _).alloc _).below hb1).alloc _) hN.out hc63).mono ?_; rintro e w2 ⟨rfl, hb2⟩; rw [HK.out]; obtain ⟨hc2, hf2, hz2⟩ := gcell (grown_of_below hb2 none) (w1.heap.size + 1) (by simp); have : w.heap.size < w2.heap.size := (by omega); have : w.heap.size + 1 < w2.heap.size := (by omega); have : w.heap.size + 2 < w2.heap.size := (by omega); have : w.heap.size < w1.heap.size + 1 := (by omega); have : w.heap.size + 1 < w1.heap.size + 1 := (by omega); have : w.heap.size + 2 < w1.heap.size + 1 := (by omega))
    | (go_at_call 46; refine (kind_any A n c L p _ av ((((((hR.alloc _).alloc _).alloc _).below hb1).alloc _).below hb2) hN.out hc63).mono ?_; rintro e w3 ⟨rfl, hb3⟩; rw [HKI.out]; obtain ⟨hc3, hf3, hz3⟩ := gcell (grown_of_below hb3 none) w2.heap.size (by simp); have : w.heap.size < w3.heap.size := (by omega); have : w.heap.size + 1 < w3.heap.size := (by omega); have : w.heap.size + 2 < w3.heap.size := (by omega)))
  (go_at_call 41; refine (copied_any A c n L _ av (((((((hR.alloc _).alloc _).alloc _).below hb1).alloc _).below hb2).below hb3) hN.out h128).mono ?_; rintro e w4 ⟨g, rfl, hown4, hb4⟩; obtain ⟨hc4, hf4, hz4⟩ := gcell (grown_of_below hb4 none) w3.heap.size (by simp); have : w.heap.size < w4.heap.size := (by omega); have : w.heap.size + 1 < w4.heap.size := (by omega); have : w.heap.size + 2 < w4.heap.size := (by omega); have : w4.cell? ⟨w.heap.size, 0, none⟩ = some (.slice A n c) := (by go_simp); have : w4.cell? ⟨w.heap.size, 1, none⟩ = some (.int .i64 L.r0) := (by go_simp); have : w4.cell? ⟨w.heap.size, 2, none⟩ = some (.int .i64 L.r1) := (by go_simp); have : w4.cell? ⟨w.heap.size, 3, none⟩ = some (.int .i64 L.r2) := (by go_simp); have : w4.cell? ⟨w.heap.size, 4, none⟩ = some (.int .i64 L.r3) := (by go_simp); have : w4.cell? ⟨w.heap.size, 5, none⟩ = some (.int .i64 L.r4) := (by go_simp); have : w4.cell? ⟨w.heap.size, 6, none⟩ = some (.int .i64 L.r5) := (by go_simp); have : w4.cell? ⟨w.heap.size + 2, 0, none⟩ = some (.slice none 0 0) := (by go_simp); have : w4.cell? ⟨w.heap.size + 2, 1, none⟩ = some (.int .i64 0) := (by go_simp); have : w4.cell? ⟨w.heap.size + 2, 2, none⟩ = some (.int .i64 0) := (by go_simp); have : w4.cell? ⟨w.heap.size + 2, 3, none⟩ = some (.int .i64 0) := (by go_simp); have : w4.cell? ⟨w.heap.size + 2, 4, none⟩ = some (.int .i64 0) := (by go_simp); have : w4.cell? ⟨w.heap.size + 2, 5, none⟩ = some (.int .i64 0) := (by go_simp); have : w4.cell? ⟨w.heap.size + 2, 6, none⟩ = some (.int .i64 0) := (by go_simp); have : w4.cell? ⟨w.heap.size + 1, 0, none⟩ = some (.int .i64 p.tick) := (by go_simp); have : w4.cell? ⟨w.heap.size + 1, 1, none⟩ = some (.int .i64 p.att) := (by go_simp); have : w4.cell? ⟨w.heap.size + 1, 2, none⟩ = some (.int .i64 p.run) := (by go_simp); have : w4.cell? ⟨w.heap.size + 1, 3, none⟩ = some (.int .i64 p.ep) := (by go_simp); have : w4.cell? ⟨w.heap.size + 1, 4, none⟩ = some (.int .i64 p.out) := (by go_simp); have : ∀ j, w4.frozen? ⟨w.heap.size, j, none⟩ = false := (by intro j; go_simp); have : ∀ j, w4.frozen? ⟨w.heap.size + 2, j, none⟩ = false := (by intro j; go_simp); have HO := hide hown4; have HB1 := hide hb1; have HB2 := hide hb2; have HB3 := hide hb3; have HB4 := hide hb4; clear hc1 hf1 hc2 hf2 hc3 hf3 hc4 hf4 hown4 hb1 hb2 hb3 hb4)
  go_upto_region 9 with (fail)
  generalize hW : World.setCell (World.setCell (World.setCell (World.setCell (World.setCell (World.setCell (World.setCell (World.setCell w4 _ _) _ _) _ _) _ _) _ _) _ _) _ _) _ _ = w5
  have p0 : w5.cell? ⟨w.heap.size, 0, none⟩ = some (.slice (some ⟨g, 0, none⟩) n (n + 1)) := (by rw [← hW]; clear hW; go_simp); have p1 : w5.cell? ⟨w.heap.size, 1, none⟩ = some (.int .i64 (L.r0)) := (by rw [← hW]; clear hW; go_simp); have p2 : w5.cell? ⟨w.heap.size, 2, none⟩ = some (.int .i64 (L.r1)) := (by rw [← hW]; clear hW; go_simp); have p3 : w5.cell? ⟨w.heap.size, 3, none⟩ = some (.int .i64 (L.r2)) := (by rw [← hW]; clear hW; go_simp); have p4 : w5.cell? ⟨w.heap.size, 4, none⟩ = some (.int .i64 (L.r3)) := (by rw [← hW]; clear hW; go_simp); have p5 : w5.cell? ⟨w.heap.size, 5, none⟩ = some (.int .i64 (L.r4)) := (by rw [← hW]; clear hW; go_simp); have p6 : w5.cell? ⟨w.heap.size, 6, none⟩ = some (.int .i64 (L.r5 + 1)) := (by rw [← hW]; clear hW; go_simp)
  have q0 : w5.cell? ⟨w.heap.size + 2, 0, none⟩ = some (.slice none 0 0) := (by rw [← hW]; clear hW; go_simp); have q1 : w5.cell? ⟨w.heap.size + 2, 1, none⟩ = some (.int .i64 0) := (by rw [← hW]; clear hW; go_simp); have q2 : w5.cell? ⟨w.heap.size + 2, 2, none⟩ = some (.int .i64 0) := (by rw [← hW]; clear hW; go_simp); have q3 : w5.cell? ⟨w.heap.size + 2, 3, none⟩ = some (.int .i64 0) := (by rw [← hW]; clear hW; go_simp); have q4 : w5.cell? ⟨w.heap.size + 2, 4, none⟩ = some (.int .i64 0) := (by rw [← hW]; clear hW; go_simp); have q5 : w5.cell? ⟨w.heap.size + 2, 5, none⟩ = some (.int .i64 0) := (by rw [← hW]; clear hW; go_simp); have q6 : w5.cell? ⟨w.heap.size + 2, 6, none⟩ = some (.int .i64 0) := (by rw [← hW]; clear hW; go_simp)
  have g5 : ∀ j, w5.frozen? ⟨w.heap.size + 2, j, none⟩ = false := (by intro j; rw [← hW]; clear hW; go_simp)
  have HW := hide hW
  clear hW
  go_wp2_with fail
  refine bodyPost_ret (v := .tuple #[.agg #[.slice (some ⟨g, 0, none⟩) n (n + 1), .int .i64 ({ L with r5 := L.r5 + 1 } : Ld).r0, .int .i64 ({ L with r5 := L.r5 + 1 } : Ld).r1, .int .i64 ({ L with r5 := L.r5 + 1 } : Ld).r2, .int .i64 ({ L with r5 := L.r5 + 1 } : Ld).r3, .int .i64 ({ L with r5 := L.r5 + 1 } : Ld).r4, .int .i64 ({ L with r5 := L.r5 + 1 } : Ld).r5], .int .i64 5, .int .i64 0]) (by simp [results, Try.results18, go_sem, *]) rfl ⟨some ⟨g, 0, none⟩, n + 1, rfl, ?_, ?_⟩
  · refine Rs.of_own (base := w.heap.size) (n := n) (c := n + 1) (e := 43) ?_ Tk.vals_len hN.out HV.out
    have hg3 := (HO.out.lt g rfl).1
    have hW := HW.out; clear HW; subst hW
    ((repeat' first | (with_reducible refine own_far ?_ (by simp [Value.ownBlock]; omega) _) | (with_reducible refine own_drew ?_) | (with_reducible refine World.ownsRow.alloc ?_ _)); exact own_base HO.out (by omega))
  · refine Fr.below (S := fun _ => False) ?_ (Nat.le_refl _) (fun _ _ h => h)
    have hW := HW.out; clear HW; subst hW
    (repeat' first | (with_reducible refine Fr.setCell ?_ (Or.inl (by first | (simp; done) | (simp; omega))) _) | (with_reducible refine Fr.alloc ?_ _) | (with_reducible refine Fr.drew ?_))
    refine Fr.below_ ?_ HB4.out
    refine Fr.below_ ?_ HB3.out
    refine Fr.below_ ?_ HB2.out
    (repeat' first | (with_reducible refine Fr.setCell ?_ (Or.inl (by first | (simp; done) | (simp; omega))) _) | (with_reducible refine Fr.alloc ?_ _) | (with_reducible refine Fr.drew ?_))
    exact ((((Fr.refl w _).alloc _).alloc _).alloc _).below_ HB1.out

set_option maxRecDepth 100000 in
set_option maxHeartbeats 2000000 in
theorem take_ok1 (w : World) (av : Option Nat) (A : Option Addr) (c n : Nat) (L : Ld) (hR : Rs w av 10 Tk.vals A L.tks) (hn : L.tks.length = n) (hc63 : n ≤ 4294967296) (p : Rp) (i : Nat) (t : Tk) (hpt : p.tick = i) (hi : i < n) (hti : L.tks[i]? = some t) (hp : reportOk p = true) (hok : L.ok = true) (hk : L.kind p = 1) (hr : L.r1 ≠ 1073741824) (hav : ∀ x, av = some x → x < w.heap.size) :
    Calls Try.prog 18 #[.agg #[.slice A n c, .int .i64 L.r0, .int .i64 L.r1, .int .i64 L.r2, .int .i64 L.r3, .int .i64 L.r4, .int .i64 L.r5], .agg #[.int .i64 p.tick, .int .i64 p.att, .int .i64 p.run, .int .i64 p.ep, .int .i64 p.out]] w fun e w' => ∃ A' c', e = .returned (.tuple #[.agg #[.slice A' n c', .int .i64 ({ L with r1 := L.r1 + 1 } : Ld).r0, .int .i64 ({ L with r1 := L.r1 + 1 } : Ld).r1, .int .i64 ({ L with r1 := L.r1 + 1 } : Ld).r2, .int .i64 ({ L with r1 := L.r1 + 1 } : Ld).r3, .int .i64 ({ L with r1 := L.r1 + 1 } : Ld).r4, .int .i64 ({ L with r1 := L.r1 + 1 } : Ld).r5], .int .i64 1, .int .i64 0]) ∧ Rs w' av 10 Tk.vals A' (L.tks.set i { t with st := 2, out := p.out }) ∧ Below w.heap.size w w' := by
  have h128 : n ≤ 128 := hn ▸ ok_len' hok
  obtain ⟨⟨a1, b1⟩, -, -, -, -⟩ := ok_reps hok
  have hq : (L.r1 == 1073741824) = false := by simp [hr]
  have hN := hide hn; clear hn
  have HP := hide hp; clear hp
  have HK := hide hok; clear hok
  have HKI := hide hk; clear hk
  have HV := hide hav; clear hav
  have HT := hide hti; clear hti
  have HPT := hide hpt; clear hpt
  have hiI : (i : Int) < (n : Int) := by omega
  have hi0 : (0 : Int) ≤ (i : Int) := by omega
  clear hr
  go_enter Try.func18, Try.ntmps18
  go_wp2_with (first
    | (go_at_call 45; refine (send_ok _ p HP.out).mono ?_; rintro e w1 ⟨⟨A1, c1, rfl⟩, hb1⟩; obtain ⟨hc1, hf1, hz1⟩ := gcell (grown_of_below hb1 none) (w.heap.size + 3) (by first | (simp; done) | (simp; omega)); have : w.heap.size < w1.heap.size := (by omega); have : w.heap.size + 1 < w1.heap.size := (by omega); have : w.heap.size + 2 < w1.heap.size := (by omega))
    | (go_at_call 11; refine (check_any A c n L _ av (((((hR.alloc _).alloc _).alloc _).below hb1).alloc _) hN.out hc63).mono ?_; rintro e w2 ⟨rfl, hb2⟩; rw [HK.out]; obtain ⟨hc2, hf2, hz2⟩ := gcell (grown_of_below hb2 none) (w1.heap.size + 1) (by simp); have : w.heap.size < w2.heap.size := (by omega); have : w.heap.size + 1 < w2.heap.size := (by omega); have : w.heap.size + 2 < w2.heap.size := (by omega); have : w.heap.size < w1.heap.size + 1 := (by omega); have : w.heap.size + 1 < w1.heap.size + 1 := (by omega); have : w.heap.size + 2 < w1.heap.size + 1 := (by omega))
    | (go_at_call 46; refine (kind_any A n c L p _ av ((((((hR.alloc _).alloc _).alloc _).below hb1).alloc _).below hb2) hN.out hc63).mono ?_; rintro e w3 ⟨rfl, hb3⟩; rw [HKI.out]; obtain ⟨hc3, hf3, hz3⟩ := gcell (grown_of_below hb3 none) w2.heap.size (by simp); have : w.heap.size < w3.heap.size := (by omega); have : w.heap.size + 1 < w3.heap.size := (by omega); have : w.heap.size + 2 < w3.heap.size := (by omega)))
  (go_at_call 41; refine (copied_any A c n L _ av (((((((hR.alloc _).alloc _).alloc _).below hb1).alloc _).below hb2).below hb3) hN.out h128).mono ?_; rintro e w4 ⟨g, rfl, hown4, hb4⟩; obtain ⟨hc4, hf4, hz4⟩ := gcell (grown_of_below hb4 none) w3.heap.size (by simp); have : w.heap.size < w4.heap.size := (by omega); have : w.heap.size + 1 < w4.heap.size := (by omega); have : w.heap.size + 2 < w4.heap.size := (by omega); have : w4.cell? ⟨w.heap.size, 0, none⟩ = some (.slice A n c) := (by go_simp); have : w4.cell? ⟨w.heap.size, 1, none⟩ = some (.int .i64 L.r0) := (by go_simp); have : w4.cell? ⟨w.heap.size, 2, none⟩ = some (.int .i64 L.r1) := (by go_simp); have : w4.cell? ⟨w.heap.size, 3, none⟩ = some (.int .i64 L.r2) := (by go_simp); have : w4.cell? ⟨w.heap.size, 4, none⟩ = some (.int .i64 L.r3) := (by go_simp); have : w4.cell? ⟨w.heap.size, 5, none⟩ = some (.int .i64 L.r4) := (by go_simp); have : w4.cell? ⟨w.heap.size, 6, none⟩ = some (.int .i64 L.r5) := (by go_simp); have : w4.cell? ⟨w.heap.size + 2, 0, none⟩ = some (.slice none 0 0) := (by go_simp); have : w4.cell? ⟨w.heap.size + 2, 1, none⟩ = some (.int .i64 0) := (by go_simp); have : w4.cell? ⟨w.heap.size + 2, 2, none⟩ = some (.int .i64 0) := (by go_simp); have : w4.cell? ⟨w.heap.size + 2, 3, none⟩ = some (.int .i64 0) := (by go_simp); have : w4.cell? ⟨w.heap.size + 2, 4, none⟩ = some (.int .i64 0) := (by go_simp); have : w4.cell? ⟨w.heap.size + 2, 5, none⟩ = some (.int .i64 0) := (by go_simp); have : w4.cell? ⟨w.heap.size + 2, 6, none⟩ = some (.int .i64 0) := (by go_simp); have : w4.cell? ⟨w.heap.size + 1, 0, none⟩ = some (.int .i64 p.tick) := (by go_simp); have : w4.cell? ⟨w.heap.size + 1, 1, none⟩ = some (.int .i64 p.att) := (by go_simp); have : w4.cell? ⟨w.heap.size + 1, 2, none⟩ = some (.int .i64 p.run) := (by go_simp); have : w4.cell? ⟨w.heap.size + 1, 3, none⟩ = some (.int .i64 p.ep) := (by go_simp); have : w4.cell? ⟨w.heap.size + 1, 4, none⟩ = some (.int .i64 p.out) := (by go_simp); have : ∀ j, w4.frozen? ⟨w.heap.size, j, none⟩ = false := (by intro j; go_simp); have : ∀ j, w4.frozen? ⟨w.heap.size + 2, j, none⟩ = false := (by intro j; go_simp); have HO := hide hown4; have HB1 := hide hb1; have HB2 := hide hb2; have HB3 := hide hb3; have HB4 := hide hb4; clear hc1 hf1 hc2 hf2 hc3 hf3 hc4 hf4 hown4 hb1 hb2 hb3 hb4)
  go_upto_region 9 with (fail)
  have hgg := (HO.out.lt g rfl).1
  have hgl := (HO.out.lt g rfl).2
  have m0 : ¬ w.heap.size = g := by omega
  have m1 : ¬ w.heap.size + 1 = g := by omega
  have m2 : ¬ w.heap.size + 2 = g := by omega
  have m3 : ¬ g = w.heap.size := by omega
  have m4 : ¬ g = w.heap.size + 1 := by omega
  have m5 : ¬ g = w.heap.size + 2 := by omega
  generalize hW : World.setCell (World.setCell (World.setCell (World.setCell (World.setCell (World.setCell (World.setCell (World.setCell w4 _ _) _ _) _ _) _ _) _ _) _ _) _ _) _ _ = w5
  have p0 : w5.cell? ⟨w.heap.size, 0, none⟩ = some (.slice (some ⟨g, 0, none⟩) n (n + 1)) := (by rw [← hW]; clear hW; go_simp); have p1 : w5.cell? ⟨w.heap.size, 1, none⟩ = some (.int .i64 (L.r0)) := (by rw [← hW]; clear hW; go_simp); have p2 : w5.cell? ⟨w.heap.size, 2, none⟩ = some (.int .i64 (L.r1 + 1)) := (by rw [← hW]; clear hW; go_simp); have p3 : w5.cell? ⟨w.heap.size, 3, none⟩ = some (.int .i64 (L.r2)) := (by rw [← hW]; clear hW; go_simp); have p4 : w5.cell? ⟨w.heap.size, 4, none⟩ = some (.int .i64 (L.r3)) := (by rw [← hW]; clear hW; go_simp); have p5 : w5.cell? ⟨w.heap.size, 5, none⟩ = some (.int .i64 (L.r4)) := (by rw [← hW]; clear hW; go_simp); have p6 : w5.cell? ⟨w.heap.size, 6, none⟩ = some (.int .i64 (L.r5)) := (by rw [← hW]; clear hW; go_simp)
  have q0 : w5.cell? ⟨w.heap.size + 2, 0, none⟩ = some (.slice none 0 0) := (by rw [← hW]; clear hW; go_simp); have q1 : w5.cell? ⟨w.heap.size + 2, 1, none⟩ = some (.int .i64 0) := (by rw [← hW]; clear hW; go_simp); have q2 : w5.cell? ⟨w.heap.size + 2, 2, none⟩ = some (.int .i64 0) := (by rw [← hW]; clear hW; go_simp); have q3 : w5.cell? ⟨w.heap.size + 2, 3, none⟩ = some (.int .i64 0) := (by rw [← hW]; clear hW; go_simp); have q4 : w5.cell? ⟨w.heap.size + 2, 4, none⟩ = some (.int .i64 0) := (by rw [← hW]; clear hW; go_simp); have q5 : w5.cell? ⟨w.heap.size + 2, 5, none⟩ = some (.int .i64 0) := (by rw [← hW]; clear hW; go_simp); have q6 : w5.cell? ⟨w.heap.size + 2, 6, none⟩ = some (.int .i64 0) := (by rw [← hW]; clear hW; go_simp)
  have g5 : ∀ j, w5.frozen? ⟨w.heap.size + 2, j, none⟩ = false := (by intro j; rw [← hW]; clear hW; go_simp)
  have y0 : w5.cell? ⟨w.heap.size + 1, 0, none⟩ = some (.int .i64 i) := by rw [← hW, ← HPT.out]; clear hW; go_simp
  have y4 : w5.cell? ⟨w.heap.size + 1, 4, none⟩ = some (.int .i64 p.out) := by rw [← hW]; clear hW; go_simp
  have hown5 : w5.ownsRow w3.heap.size 43 10 (.slice (some ⟨g, 0, none⟩) n (n + 1)) n (L.tks.flatMap Tk.vals) := by
    rw [← hW]
    ((repeat' first | (with_reducible refine own_far ?_ (by simp [Value.ownBlock]; omega) _) | (with_reducible refine own_drew ?_) | (with_reducible refine World.ownsRow.alloc ?_ _)); exact HO.out)
  have HO5 := hide hown5
  obtain ⟨f0, f1, f2, f3, f4, f5, f6, f7, f8, f9⟩ := tkAt_of (own_cells Tk.vals_len hown5 HT.out)
  have hfz := fun j => hown5.frozenAt j
  have HW := hide hW
  clear hW hown5
  go_wp2_with fail
  go_region_held3 (fun W => W.cell? ⟨w.heap.size + 1, 4, none⟩ = some (.int .i64 p.out)) (first | (go_keep; done) | ((try dsimp only); (repeat' apply And.intro) <;> first | (go_keep; done) | ((repeat rw [World.cell?_setCell_other _ _ _ _ (by intro h; injection h; omega)]); go_keep; done))) (fail)
  go_wp2_with fail
  refine bodyPost_ret (v := .tuple #[.agg #[.slice (some ⟨g, 0, none⟩) n (n + 1), .int .i64 ({ L with r1 := L.r1 + 1 } : Ld).r0, .int .i64 ({ L with r1 := L.r1 + 1 } : Ld).r1, .int .i64 ({ L with r1 := L.r1 + 1 } : Ld).r2, .int .i64 ({ L with r1 := L.r1 + 1 } : Ld).r3, .int .i64 ({ L with r1 := L.r1 + 1 } : Ld).r4, .int .i64 ({ L with r1 := L.r1 + 1 } : Ld).r5], .int .i64 1, .int .i64 0]) (by simp [results, Try.results18, go_sem, *]) rfl ⟨some ⟨g, 0, none⟩, n + 1, rfl, ?_, ?_⟩
  · refine Rs.of_own (base := w.heap.size) (n := n) (c := n + 1) (e := 43) ?_ Tk.vals_len (by simp [hN.out]) HV.out
    have s0 := own_start HO5.out HT.out
    have s1 := own_put Tk.vals_len (j := 5) (t1 := { t with st := 2 }) (u := .int .i64 2) s0 (by rw [hN.out]; exact hi) (by decide) rfl
    have s2 := own_put Tk.vals_len (j := 9) (t1 := { t with st := 2, out := p.out }) (u := .int .i64 p.out) s1 (by rw [hN.out]; exact hi) (by decide) rfl
    ((repeat' first | (with_reducible refine own_far ?_ (by simp [Value.ownBlock]; omega) _) | (with_reducible refine own_drew ?_) | (with_reducible refine World.ownsRow.alloc ?_ _)); exact own_base s2 (by omega))
  · refine Fr.below (S := fun _ => False) ?_ (Nat.le_refl _) (fun _ _ h => h)
    have hW := HW.out; clear HW; subst hW
    (repeat' first | (with_reducible refine Fr.setCell ?_ (Or.inl (by first | (simp; done) | (simp; omega))) _) | (with_reducible refine Fr.alloc ?_ _) | (with_reducible refine Fr.drew ?_))
    refine Fr.below_ ?_ HB4.out
    refine Fr.below_ ?_ HB3.out
    refine Fr.below_ ?_ HB2.out
    (repeat' first | (with_reducible refine Fr.setCell ?_ (Or.inl (by first | (simp; done) | (simp; omega))) _) | (with_reducible refine Fr.alloc ?_ _) | (with_reducible refine Fr.drew ?_))
    exact ((((Fr.refl w _).alloc _).alloc _).alloc _).below_ HB1.out

end Go.Proofs.Ytjhkgoengoiljaa
