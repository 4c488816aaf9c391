/- Contracts of the functions that these laws reach: part 10: Contracts of the reference: Plan, the new ticket; Contracts: Plan of both; Contracts: same, the four rules, the list of them. -/
import Derived.Test.YtjhkgoengoiljaaG9
import Derived.Test.YtjhkgoengoiljaaG5
import Derived.Deep.Cut
import Derived.Deep.RegionLaw
import Derived.Test.YtjhkgoengoiljaaG2
set_option linter.unusedVariables false
set_option linter.unusedSimpArgs false

/- Contracts of the reference: Plan, the new ticket. -/
namespace Go.Proofs.Ytjhkgoengoiljaa
open Go.RowKit

set_option maxRecDepth 100000 in
set_option maxHeartbeats 2000000 in
theorem rplan_ok (w : World) (av : Option Nat) (A : Option Addr) (c n : Nat) (L : Ld) (hR : Rs w av 10 Tk.vals A L.tks) (hn : L.tks.length = n) (hc63 : n ≤ 4294967296) (t : Tk) (rev : Int) (hok : L.ok = true) (ht : taskOk t = true) (hr : revB rev = true) (hlt : n < 128) (hav : ∀ x, av = some x → x < w.heap.size) :
    Calls Try.prog 34 #[.agg #[.slice A n c, .int .i64 L.r0, .int .i64 L.r1, .int .i64 L.r2, .int .i64 L.r3, .int .i64 L.r4, .int .i64 L.r5], .agg #[.string t.pk, .string t.ts, .int .i64 t.env, .int .i64 t.cost], .int .i64 rev] w fun e w' => ∃ A' c', e = .returned (.tuple #[.agg #[.slice A' (n + 1) c', .int .i64 L.r0, .int .i64 L.r1, .int .i64 L.r2, .int .i64 L.r3, .int .i64 L.r4, .int .i64 L.r5], .int .i64 n, .int .i64 0]) ∧
      Rs w' av 10 Tk.vals A' (L.tks ++ [{ t with rev := rev, st := 0, att := 0, run := 0, ep := 0, out := 0 }]) ∧ Below w.heap.size w w' := by
  have hN := hide hn; clear hn
  have hq1 : 1 ≤ rev := by simp [revB] at hr; omega
  have hq2 : rev ≤ 1073741824 := by simp [revB] at hr; omega
  clear hr
  have hq3 : ¬ (n : Int) = 128 := by omega
  have HV := hide hav
  clear hav
  go_enter Try.func34, Try.ntmps34
  go_upto_region 7 with (first
    | (go_at_call 30; refine (rcheck_any A c n L _ av (((hR.alloc _).alloc _).alloc _) hN.out (by omega)).mono ?_; rintro e w1 ⟨rfl, hb1⟩; obtain ⟨hc1, hf1, hz1⟩ := gcell (grown_of_below hb1 none) (w.heap.size + 3) (by first | (simp; done) | (simp; omega)); have : w.heap.size < w1.heap.size := (by omega); have : w.heap.size + 1 < w1.heap.size := (by omega); have : w.heap.size + 2 < w1.heap.size := (by omega))
    | (go_at_call 53; refine (r30check_one w1.heap.size t _ (by unfold TaskAt; refine ⟨?_, ?_, ?_, ?_⟩ <;> go_simp) (by simp)).mono ?_; rintro e w2 ⟨rfl, hb2⟩; obtain ⟨hc2, hf2, hz2⟩ := gcell (grown_of_below hb2 none) (w1.heap.size + 1) (by simp); have : w1.heap.size < w2.heap.size := (by omega); have : w.heap.size < w2.heap.size := (by omega); have : w.heap.size + 1 < w2.heap.size := (by omega); have : w.heap.size + 2 < w2.heap.size := (by omega); have p0 : w2.cell? ⟨w.heap.size, 0, none⟩ = some (.slice A n c) := ((hc2 (w.heap.size) (0) (by omega) (by first | (simp; done) | (simp; omega))).trans (by first | (with_reducible assumption) | go_simp)); have p1 : w2.cell? ⟨w.heap.size, 1, none⟩ = some (.int .i64 L.r0) := ((hc2 (w.heap.size) (1) (by omega) (by first | (simp; done) | (simp; omega))).trans (by first | (with_reducible assumption) | go_simp)); have p2 : w2.cell? ⟨w.heap.size, 2, none⟩ = some (.int .i64 L.r1) := ((hc2 (w.heap.size) (2) (by omega) (by first | (simp; done) | (simp; omega))).trans (by first | (with_reducible assumption) | go_simp)); have p3 : w2.cell? ⟨w.heap.size, 3, none⟩ = some (.int .i64 L.r2) := ((hc2 (w.heap.size) (3) (by omega) (by first | (simp; done) | (simp; omega))).trans (by first | (with_reducible assumption) | go_simp)); have p4 : w2.cell? ⟨w.heap.size, 4, none⟩ = some (.int .i64 L.r3) := ((hc2 (w.heap.size) (4) (by omega) (by first | (simp; done) | (simp; omega))).trans (by first | (with_reducible assumption) | go_simp)); have p5 : w2.cell? ⟨w.heap.size, 5, none⟩ = some (.int .i64 L.r4) := ((hc2 (w.heap.size) (5) (by omega) (by first | (simp; done) | (simp; omega))).trans (by first | (with_reducible assumption) | go_simp)); have p6 : w2.cell? ⟨w.heap.size, 6, none⟩ = some (.int .i64 L.r5) := ((hc2 (w.heap.size) (6) (by omega) (by first | (simp; done) | (simp; omega))).trans (by first | (with_reducible assumption) | go_simp)); have q0 : w2.cell? ⟨w.heap.size + 2, 0, none⟩ = some (.slice none 0 0) := ((hc2 (w.heap.size + 2) (0) (by omega) (by first | (simp; done) | (simp; omega))).trans (by first | (with_reducible assumption) | go_simp)); have q1 : w2.cell? ⟨w.heap.size + 2, 1, none⟩ = some (.int .i64 0) := ((hc2 (w.heap.size + 2) (1) (by omega) (by first | (simp; done) | (simp; omega))).trans (by first | (with_reducible assumption) | go_simp)); have q2 : w2.cell? ⟨w.heap.size + 2, 2, none⟩ = some (.int .i64 0) := ((hc2 (w.heap.size + 2) (2) (by omega) (by first | (simp; done) | (simp; omega))).trans (by first | (with_reducible assumption) | go_simp)); have q3 : w2.cell? ⟨w.heap.size + 2, 3, none⟩ = some (.int .i64 0) := ((hc2 (w.heap.size + 2) (3) (by omega) (by first | (simp; done) | (simp; omega))).trans (by first | (with_reducible assumption) | go_simp)); have q4 : w2.cell? ⟨w.heap.size + 2, 4, none⟩ = some (.int .i64 0) := ((hc2 (w.heap.size + 2) (4) (by omega) (by first | (simp; done) | (simp; omega))).trans (by first | (with_reducible assumption) | go_simp)); have q5 : w2.cell? ⟨w.heap.size + 2, 5, none⟩ = some (.int .i64 0) := ((hc2 (w.heap.size + 2) (5) (by omega) (by first | (simp; done) | (simp; omega))).trans (by first | (with_reducible assumption) | go_simp)); have q6 : w2.cell? ⟨w.heap.size + 2, 6, none⟩ = some (.int .i64 0) := ((hc2 (w.heap.size + 2) (6) (by omega) (by first | (simp; done) | (simp; omega))).trans (by first | (with_reducible assumption) | go_simp)); have t0 : w2.cell? ⟨w.heap.size + 1, 0, none⟩ = some (.string t.pk) := ((hc2 (w.heap.size + 1) (0) (by omega) (by first | (simp; done) | (simp; omega))).trans (by first | (with_reducible assumption) | go_simp)); have t1 : w2.cell? ⟨w.heap.size + 1, 1, none⟩ = some (.string t.ts) := ((hc2 (w.heap.size + 1) (1) (by omega) (by first | (simp; done) | (simp; omega))).trans (by first | (with_reducible assumption) | go_simp)); have t2 : w2.cell? ⟨w.heap.size + 1, 2, none⟩ = some (.int .i64 t.env) := ((hc2 (w.heap.size + 1) (2) (by omega) (by first | (simp; done) | (simp; omega))).trans (by first | (with_reducible assumption) | go_simp)); have t3 : w2.cell? ⟨w.heap.size + 1, 3, none⟩ = some (.int .i64 t.cost) := ((hc2 (w.heap.size + 1) (3) (by omega) (by first | (simp; done) | (simp; omega))).trans (by first | (with_reducible assumption) | go_simp)); have g0 : ∀ j, w2.frozen? ⟨w.heap.size, j, none⟩ = false := (fun j => (hf2 (w.heap.size) j (by omega) (by first | (simp; done) | (simp; omega))).trans (by go_simp)); have g1 : ∀ j, w2.frozen? ⟨w.heap.size + 2, j, none⟩ = false := (fun j => (hf2 (w.heap.size + 2) j (by omega) (by first | (simp; done) | (simp; omega))).trans (by go_simp)); clear hc1 hc2 hf1 hf2)
    | fail)
  have hR2 := (((((hR.alloc _).alloc _).alloc _).below hb1).alloc _).below hb2
  have HR2 := hide hR2
  have HB1 := hide hb1
  have HB2 := hide hb2
  clear hR hR2 hb1 hb2
  go_region_law (first
    | (refine step_append _ rfl _ (.tmp 35) 23 rfl w2.heap.size 43 _ 10 96 Try.underlying23 info43 rfl (by decide) (.slice none 0 0) 0 ([] : List Tk) rfl (World.ownsRow_nil _ _ _ _) A n c L.tks rfl HR2.out.drew hN.out Tk.vals_len Tk.vals_one (by omega) (by decide) (by simp) ?_; intro A1 c1 w3 hown3 hg3 hat3; rw [Nat.zero_add, List.nil_append] at hown3; rw [Nat.zero_add] at hat3; obtain ⟨hc3, hf3, hz3⟩ := gcell (row := none) hg3 w2.heap.size (by simp); have : w.heap.size < w3.heap.size := (by omega); have : w.heap.size + 1 < w3.heap.size := (by omega); have : w.heap.size + 2 < w3.heap.size := (by omega); have p0 : w3.cell? ⟨w.heap.size, 0, none⟩ = some (.slice A n c) := ((hc3 (w.heap.size) (0) (by omega) (by first | (simp; done) | (simp; omega))).trans (by first | (with_reducible assumption) | go_simp)); have p1 : w3.cell? ⟨w.heap.size, 1, none⟩ = some (.int .i64 L.r0) := ((hc3 (w.heap.size) (1) (by omega) (by first | (simp; done) | (simp; omega))).trans (by first | (with_reducible assumption) | go_simp)); have p2 : w3.cell? ⟨w.heap.size, 2, none⟩ = some (.int .i64 L.r1) := ((hc3 (w.heap.size) (2) (by omega) (by first | (simp; done) | (simp; omega))).trans (by first | (with_reducible assumption) | go_simp)); have p3 : w3.cell? ⟨w.heap.size, 3, none⟩ = some (.int .i64 L.r2) := ((hc3 (w.heap.size) (3) (by omega) (by first | (simp; done) | (simp; omega))).trans (by first | (with_reducible assumption) | go_simp)); have p4 : w3.cell? ⟨w.heap.size, 4, none⟩ = some (.int .i64 L.r3) := ((hc3 (w.heap.size) (4) (by omega) (by first | (simp; done) | (simp; omega))).trans (by first | (with_reducible assumption) | go_simp)); have p5 : w3.cell? ⟨w.heap.size, 5, none⟩ = some (.int .i64 L.r4) := ((hc3 (w.heap.size) (5) (by omega) (by first | (simp; done) | (simp; omega))).trans (by first | (with_reducible assumption) | go_simp)); have p6 : w3.cell? ⟨w.heap.size, 6, none⟩ = some (.int .i64 L.r5) := ((hc3 (w.heap.size) (6) (by omega) (by first | (simp; done) | (simp; omega))).trans (by first | (with_reducible assumption) | go_simp)); have q0 : w3.cell? ⟨w.heap.size + 2, 0, none⟩ = some (.slice none 0 0) := ((hc3 (w.heap.size + 2) (0) (by omega) (by first | (simp; done) | (simp; omega))).trans (by first | (with_reducible assumption) | go_simp)); have q1 : w3.cell? ⟨w.heap.size + 2, 1, none⟩ = some (.int .i64 0) := ((hc3 (w.heap.size + 2) (1) (by omega) (by first | (simp; done) | (simp; omega))).trans (by first | (with_reducible assumption) | go_simp)); have q2 : w3.cell? ⟨w.heap.size + 2, 2, none⟩ = some (.int .i64 0) := ((hc3 (w.heap.size + 2) (2) (by omega) (by first | (simp; done) | (simp; omega))).trans (by first | (with_reducible assumption) | go_simp)); have q3 : w3.cell? ⟨w.heap.size + 2, 3, none⟩ = some (.int .i64 0) := ((hc3 (w.heap.size + 2) (3) (by omega) (by first | (simp; done) | (simp; omega))).trans (by first | (with_reducible assumption) | go_simp)); have q4 : w3.cell? ⟨w.heap.size + 2, 4, none⟩ = some (.int .i64 0) := ((hc3 (w.heap.size + 2) (4) (by omega) (by first | (simp; done) | (simp; omega))).trans (by first | (with_reducible assumption) | go_simp)); have q5 : w3.cell? ⟨w.heap.size + 2, 5, none⟩ = some (.int .i64 0) := ((hc3 (w.heap.size + 2) (5) (by omega) (by first | (simp; done) | (simp; omega))).trans (by first | (with_reducible assumption) | go_simp)); have q6 : w3.cell? ⟨w.heap.size + 2, 6, none⟩ = some (.int .i64 0) := ((hc3 (w.heap.size + 2) (6) (by omega) (by first | (simp; done) | (simp; omega))).trans (by first | (with_reducible assumption) | go_simp)); have t0 : w3.cell? ⟨w.heap.size + 1, 0, none⟩ = some (.string t.pk) := ((hc3 (w.heap.size + 1) (0) (by omega) (by first | (simp; done) | (simp; omega))).trans (by first | (with_reducible assumption) | go_simp)); have t1 : w3.cell? ⟨w.heap.size + 1, 1, none⟩ = some (.string t.ts) := ((hc3 (w.heap.size + 1) (1) (by omega) (by first | (simp; done) | (simp; omega))).trans (by first | (with_reducible assumption) | go_simp)); have t2 : w3.cell? ⟨w.heap.size + 1, 2, none⟩ = some (.int .i64 t.env) := ((hc3 (w.heap.size + 1) (2) (by omega) (by first | (simp; done) | (simp; omega))).trans (by first | (with_reducible assumption) | go_simp)); have t3 : w3.cell? ⟨w.heap.size + 1, 3, none⟩ = some (.int .i64 t.cost) := ((hc3 (w.heap.size + 1) (3) (by omega) (by first | (simp; done) | (simp; omega))).trans (by first | (with_reducible assumption) | go_simp)); have g0 : ∀ j, w3.frozen? ⟨w.heap.size, j, none⟩ = false := (fun j => (hf3 (w.heap.size) j (by omega) (by first | (simp; done) | (simp; omega))).trans (by go_simp)); have g1 : ∀ j, w3.frozen? ⟨w.heap.size + 2, j, none⟩ = false := (fun j => (hf3 (w.heap.size + 2) j (by omega) (by first | (simp; done) | (simp; omega))).trans (by go_simp)); clear hc3 hf3; have HO3 := hide hown3; have HG3 := hide hg3; have HA3 := hide hat3; clear hown3 hg3 hat3; rw [Nat.zero_add])
    | (refine step_append _ rfl _ (.tmp 35) 23 rfl w2.heap.size 43 _ 10 96 Try.underlying23 info43 rfl (by decide) (.slice none 0 0) 0 ([] : List Tk) rfl (World.ownsRow_nil _ _ _ _) A n c L.tks rfl ((HR2.out.drew).alloc _) hN.out Tk.vals_len Tk.vals_one (by omega) (by decide) (by simp) ?_; intro A1 c1 w3 hown3 hg3 hat3; rw [Nat.zero_add, List.nil_append] at hown3; rw [Nat.zero_add] at hat3; obtain ⟨hc3, hf3, hz3⟩ := gcell (row := none) hg3 w2.heap.size (by simp); have : w.heap.size < w3.heap.size := (by omega); have : w.heap.size + 1 < w3.heap.size := (by omega); have : w.heap.size + 2 < w3.heap.size := (by omega); have p0 : w3.cell? ⟨w.heap.size, 0, none⟩ = some (.slice A n c) := ((hc3 (w.heap.size) (0) (by omega) (by first | (simp; done) | (simp; omega))).trans (by first | (with_reducible assumption) | go_simp)); have p1 : w3.cell? ⟨w.heap.size, 1, none⟩ = some (.int .i64 L.r0) := ((hc3 (w.heap.size) (1) (by omega) (by first | (simp; done) | (simp; omega))).trans (by first | (with_reducible assumption) | go_simp)); have p2 : w3.cell? ⟨w.heap.size, 2, none⟩ = some (.int .i64 L.r1) := ((hc3 (w.heap.size) (2) (by omega) (by first | (simp; done) | (simp; omega))).trans (by first | (with_reducible assumption) | go_simp)); have p3 : w3.cell? ⟨w.heap.size, 3, none⟩ = some (.int .i64 L.r2) := ((hc3 (w.heap.size) (3) (by omega) (by first | (simp; done) | (simp; omega))).trans (by first | (with_reducible assumption) | go_simp)); have p4 : w3.cell? ⟨w.heap.size, 4, none⟩ = some (.int .i64 L.r3) := ((hc3 (w.heap.size) (4) (by omega) (by first | (simp; done) | (simp; omega))).trans (by first | (with_reducible assumption) | go_simp)); have p5 : w3.cell? ⟨w.heap.size, 5, none⟩ = some (.int .i64 L.r4) := ((hc3 (w.heap.size) (5) (by omega) (by first | (simp; done) | (simp; omega))).trans (by first | (with_reducible assumption) | go_simp)); have p6 : w3.cell? ⟨w.heap.size, 6, none⟩ = some (.int .i64 L.r5) := ((hc3 (w.heap.size) (6) (by omega) (by first | (simp; done) | (simp; omega))).trans (by first | (with_reducible assumption) | go_simp)); have q0 : w3.cell? ⟨w.heap.size + 2, 0, none⟩ = some (.slice none 0 0) := ((hc3 (w.heap.size + 2) (0) (by omega) (by first | (simp; done) | (simp; omega))).trans (by first | (with_reducible assumption) | go_simp)); have q1 : w3.cell? ⟨w.heap.size + 2, 1, none⟩ = some (.int .i64 0) := ((hc3 (w.heap.size + 2) (1) (by omega) (by first | (simp; done) | (simp; omega))).trans (by first | (with_reducible assumption) | go_simp)); have q2 : w3.cell? ⟨w.heap.size + 2, 2, none⟩ = some (.int .i64 0) := ((hc3 (w.heap.size + 2) (2) (by omega) (by first | (simp; done) | (simp; omega))).trans (by first | (with_reducible assumption) | go_simp)); have q3 : w3.cell? ⟨w.heap.size + 2, 3, none⟩ = some (.int .i64 0) := ((hc3 (w.heap.size + 2) (3) (by omega) (by first | (simp; done) | (simp; omega))).trans (by first | (with_reducible assumption) | go_simp)); have q4 : w3.cell? ⟨w.heap.size + 2, 4, none⟩ = some (.int .i64 0) := ((hc3 (w.heap.size + 2) (4) (by omega) (by first | (simp; done) | (simp; omega))).trans (by first | (with_reducible assumption) | go_simp)); have q5 : w3.cell? ⟨w.heap.size + 2, 5, none⟩ = some (.int .i64 0) := ((hc3 (w.heap.size + 2) (5) (by omega) (by first | (simp; done) | (simp; omega))).trans (by first | (with_reducible assumption) | go_simp)); have q6 : w3.cell? ⟨w.heap.size + 2, 6, none⟩ = some (.int .i64 0) := ((hc3 (w.heap.size + 2) (6) (by omega) (by first | (simp; done) | (simp; omega))).trans (by first | (with_reducible assumption) | go_simp)); have t0 : w3.cell? ⟨w.heap.size + 1, 0, none⟩ = some (.string t.pk) := ((hc3 (w.heap.size + 1) (0) (by omega) (by first | (simp; done) | (simp; omega))).trans (by first | (with_reducible assumption) | go_simp)); have t1 : w3.cell? ⟨w.heap.size + 1, 1, none⟩ = some (.string t.ts) := ((hc3 (w.heap.size + 1) (1) (by omega) (by first | (simp; done) | (simp; omega))).trans (by first | (with_reducible assumption) | go_simp)); have t2 : w3.cell? ⟨w.heap.size + 1, 2, none⟩ = some (.int .i64 t.env) := ((hc3 (w.heap.size + 1) (2) (by omega) (by first | (simp; done) | (simp; omega))).trans (by first | (with_reducible assumption) | go_simp)); have t3 : w3.cell? ⟨w.heap.size + 1, 3, none⟩ = some (.int .i64 t.cost) := ((hc3 (w.heap.size + 1) (3) (by omega) (by first | (simp; done) | (simp; omega))).trans (by first | (with_reducible assumption) | go_simp)); have g0 : ∀ j, w3.frozen? ⟨w.heap.size, j, none⟩ = false := (fun j => (hf3 (w.heap.size) j (by omega) (by first | (simp; done) | (simp; omega))).trans (by go_simp)); have g1 : ∀ j, w3.frozen? ⟨w.heap.size + 2, j, none⟩ = false := (fun j => (hf3 (w.heap.size + 2) j (by omega) (by first | (simp; done) | (simp; omega))).trans (by go_simp)); obtain ⟨hk3, -, hz3'⟩ := gcell (row := none) hg3 (w2.heap.size + 1) (by simp); have k0 : w3.cell? ⟨w2.heap.size, 0, none⟩ = some (.string t.pk) := ((hk3 (w2.heap.size) (0) (by omega) (by first | (simp; done) | (simp; omega))).trans (by first | (with_reducible assumption) | go_simp)); have k1 : w3.cell? ⟨w2.heap.size, 1, none⟩ = some (.string t.ts) := ((hk3 (w2.heap.size) (1) (by omega) (by first | (simp; done) | (simp; omega))).trans (by first | (with_reducible assumption) | go_simp)); have k2 : w3.cell? ⟨w2.heap.size, 2, none⟩ = some (.int .i64 t.env) := ((hk3 (w2.heap.size) (2) (by omega) (by first | (simp; done) | (simp; omega))).trans (by first | (with_reducible assumption) | go_simp)); have k3 : w3.cell? ⟨w2.heap.size, 3, none⟩ = some (.int .i64 t.cost) := ((hk3 (w2.heap.size) (3) (by omega) (by first | (simp; done) | (simp; omega))).trans (by first | (with_reducible assumption) | go_simp)); have k4 : w3.cell? ⟨w2.heap.size, 4, none⟩ = some (.int .i64 rev) := ((hk3 (w2.heap.size) (4) (by omega) (by first | (simp; done) | (simp; omega))).trans (by first | (with_reducible assumption) | go_simp)); have k5 : w3.cell? ⟨w2.heap.size, 5, none⟩ = some (.int .i64 0) := ((hk3 (w2.heap.size) (5) (by omega) (by first | (simp; done) | (simp; omega))).trans (by first | (with_reducible assumption) | go_simp)); have k6 : w3.cell? ⟨w2.heap.size, 6, none⟩ = some (.int .i64 0) := ((hk3 (w2.heap.size) (6) (by omega) (by first | (simp; done) | (simp; omega))).trans (by first | (with_reducible assumption) | go_simp)); have k7 : w3.cell? ⟨w2.heap.size, 7, none⟩ = some (.int .i64 0) := ((hk3 (w2.heap.size) (7) (by omega) (by first | (simp; done) | (simp; omega))).trans (by first | (with_reducible assumption) | go_simp)); have k8 : w3.cell? ⟨w2.heap.size, 8, none⟩ = some (.int .i64 0) := ((hk3 (w2.heap.size) (8) (by omega) (by first | (simp; done) | (simp; omega))).trans (by first | (with_reducible assumption) | go_simp)); have k9 : w3.cell? ⟨w2.heap.size, 9, none⟩ = some (.int .i64 0) := ((hk3 (w2.heap.size) (9) (by omega) (by first | (simp; done) | (simp; omega))).trans (by first | (with_reducible assumption) | go_simp)); clear hk3; clear hc3 hf3; have HO3 := hide hown3; have HG3 := hide hg3; have HA3 := hide hat3; clear hown3 hg3 hat3; rw [Nat.zero_add])
    | (refine step_append _ rfl (.tmp 36) (.tmp 40) 23 rfl w2.heap.size 43 _ 10 96 Try.underlying23 info43 rfl (by decide) (.slice A1 n c1) n L.tks rfl (by first | exact HO3.out | exact HO3.out.alloc _) _ 1 1 [{ t with rev := rev, st := 0, att := 0, run := 0, ep := 0, out := 0 }] rfl (rs_one (by intro h; have := HV.out _ h.symm; omega) (by first | omega | (simp; done) | (simp; omega)) (vals_of (by refine ⟨?_, ?_, ?_, ?_, ?_, ?_, ?_, ?_, ?_, ?_⟩ <;> go_simp))) rfl Tk.vals_len Tk.vals_one (by omega) (by decide) (by first | omega | (simp; omega)) ?_; intro A2 c2 w4 hown4 hg4 hat4; obtain ⟨g4, cap4, hv4, hgb4, hgl4⟩ := hown4.form (by omega); injection hv4 with hv1 hv2 hv3; subst hv1; subst hv3; clear hv2; obtain ⟨hc4, hf4, hz4⟩ := gcell hg4 w2.heap.size (by first | omega | (simp; omega)); have hrow : ∀ b, b < w2.heap.size → some b ≠ (Value.slice A1 n c1).ownBlock := (by intro b hb h; have := HA3.out _ h.symm; simp [Value.ownBlock] at this; omega); have hc5 : ∀ b o, b < w2.heap.size → True → w4.cell? ⟨b, o, none⟩ = _ := (fun b o hb _ => hc4 b o hb (hrow b hb)); have hf5 : ∀ b o, b < w2.heap.size → True → w4.frozen? ⟨b, o, none⟩ = _ := (fun b o hb _ => hf4 b o hb (hrow b hb)); clear hc4 hf4; have p0 : w4.cell? ⟨w.heap.size, 0, none⟩ = some (.slice A n c) := ((hc5 (w.heap.size) (0) (by omega) (by first | (simp; done) | (simp; omega))).trans (by first | (with_reducible assumption) | go_simp)); have p1 : w4.cell? ⟨w.heap.size, 1, none⟩ = some (.int .i64 L.r0) := ((hc5 (w.heap.size) (1) (by omega) (by first | (simp; done) | (simp; omega))).trans (by first | (with_reducible assumption) | go_simp)); have p2 : w4.cell? ⟨w.heap.size, 2, none⟩ = some (.int .i64 L.r1) := ((hc5 (w.heap.size) (2) (by omega) (by first | (simp; done) | (simp; omega))).trans (by first | (with_reducible assumption) | go_simp)); have p3 : w4.cell? ⟨w.heap.size, 3, none⟩ = some (.int .i64 L.r2) := ((hc5 (w.heap.size) (3) (by omega) (by first | (simp; done) | (simp; omega))).trans (by first | (with_reducible assumption) | go_simp)); have p4 : w4.cell? ⟨w.heap.size, 4, none⟩ = some (.int .i64 L.r3) := ((hc5 (w.heap.size) (4) (by omega) (by first | (simp; done) | (simp; omega))).trans (by first | (with_reducible assumption) | go_simp)); have p5 : w4.cell? ⟨w.heap.size, 5, none⟩ = some (.int .i64 L.r4) := ((hc5 (w.heap.size) (5) (by omega) (by first | (simp; done) | (simp; omega))).trans (by first | (with_reducible assumption) | go_simp)); have p6 : w4.cell? ⟨w.heap.size, 6, none⟩ = some (.int .i64 L.r5) := ((hc5 (w.heap.size) (6) (by omega) (by first | (simp; done) | (simp; omega))).trans (by first | (with_reducible assumption) | go_simp)); have q0 : w4.cell? ⟨w.heap.size + 2, 0, none⟩ = some (.slice none 0 0) := ((hc5 (w.heap.size + 2) (0) (by omega) (by first | (simp; done) | (simp; omega))).trans (by first | (with_reducible assumption) | go_simp)); have q1 : w4.cell? ⟨w.heap.size + 2, 1, none⟩ = some (.int .i64 0) := ((hc5 (w.heap.size + 2) (1) (by omega) (by first | (simp; done) | (simp; omega))).trans (by first | (with_reducible assumption) | go_simp)); have q2 : w4.cell? ⟨w.heap.size + 2, 2, none⟩ = some (.int .i64 0) := ((hc5 (w.heap.size + 2) (2) (by omega) (by first | (simp; done) | (simp; omega))).trans (by first | (with_reducible assumption) | go_simp)); have q3 : w4.cell? ⟨w.heap.size + 2, 3, none⟩ = some (.int .i64 0) := ((hc5 (w.heap.size + 2) (3) (by omega) (by first | (simp; done) | (simp; omega))).trans (by first | (with_reducible assumption) | go_simp)); have q4 : w4.cell? ⟨w.heap.size + 2, 4, none⟩ = some (.int .i64 0) := ((hc5 (w.heap.size + 2) (4) (by omega) (by first | (simp; done) | (simp; omega))).trans (by first | (with_reducible assumption) | go_simp)); have q5 : w4.cell? ⟨w.heap.size + 2, 5, none⟩ = some (.int .i64 0) := ((hc5 (w.heap.size + 2) (5) (by omega) (by first | (simp; done) | (simp; omega))).trans (by first | (with_reducible assumption) | go_simp)); have q6 : w4.cell? ⟨w.heap.size + 2, 6, none⟩ = some (.int .i64 0) := ((hc5 (w.heap.size + 2) (6) (by omega) (by first | (simp; done) | (simp; omega))).trans (by first | (with_reducible assumption) | go_simp)); have g0 : ∀ j, w4.frozen? ⟨w.heap.size, j, none⟩ = false := (fun j => (hf5 (w.heap.size) j (by omega) (by first | (simp; done) | (simp; omega))).trans (by go_simp)); have g1 : ∀ j, w4.frozen? ⟨w.heap.size + 2, j, none⟩ = false := (fun j => (hf5 (w.heap.size + 2) j (by omega) (by first | (simp; done) | (simp; omega))).trans (by go_simp)); clear hc5 hf5; have HO4 := hide hown4; have HG4 := hide hg4; have HR4 := hide hrow; clear hown4 hg4 hat4 hrow))
  all_goals
    go_wp2_with fail
    generalize hW : World.setCell w4 _ _ = w5
    have p0 : w5.cell? ⟨w.heap.size, 0, none⟩ = some (.slice (some ⟨g4, 0, none⟩) (n + 1) c2) := (by rw [← hW]; clear hW; go_simp); have p1 : w5.cell? ⟨w.heap.size, 1, none⟩ = some (.int .i64 L.r0) := (by rw [← hW]; clear hW; go_simp); have p2 : w5.cell? ⟨w.heap.size, 2, none⟩ = some (.int .i64 L.r1) := (by rw [← hW]; clear hW; go_simp); have p3 : w5.cell? ⟨w.heap.size, 3, none⟩ = some (.int .i64 L.r2) := (by rw [← hW]; clear hW; go_simp); have p4 : w5.cell? ⟨w.heap.size, 4, none⟩ = some (.int .i64 L.r3) := (by rw [← hW]; clear hW; go_simp); have p5 : w5.cell? ⟨w.heap.size, 5, none⟩ = some (.int .i64 L.r4) := (by rw [← hW]; clear hW; go_simp); have p6 : w5.cell? ⟨w.heap.size, 6, none⟩ = some (.int .i64 L.r5) := (by rw [← hW]; clear hW; go_simp)
    have q0 : w5.cell? ⟨w.heap.size + 2, 0, none⟩ = some (.slice none 0 0) := (by rw [← hW]; clear hW; go_simp); have q1 : w5.cell? ⟨w.heap.size + 2, 1, none⟩ = some (.int .i64 0) := (by rw [← hW]; clear hW; go_simp); have q2 : w5.cell? ⟨w.heap.size + 2, 2, none⟩ = some (.int .i64 0) := (by rw [← hW]; clear hW; go_simp); have q3 : w5.cell? ⟨w.heap.size + 2, 3, none⟩ = some (.int .i64 0) := (by rw [← hW]; clear hW; go_simp); have q4 : w5.cell? ⟨w.heap.size + 2, 4, none⟩ = some (.int .i64 0) := (by rw [← hW]; clear hW; go_simp); have q5 : w5.cell? ⟨w.heap.size + 2, 5, none⟩ = some (.int .i64 0) := (by rw [← hW]; clear hW; go_simp); have q6 : w5.cell? ⟨w.heap.size + 2, 6, none⟩ = some (.int .i64 0) := (by rw [← hW]; clear hW; go_simp)
    have g5 : ∀ j, w5.frozen? ⟨w.heap.size + 2, j, none⟩ = false := (by intro j; rw [← hW]; clear hW; go_simp)
    have HW := hide hW
    clear hW g0 g1
    go_region
    go_wp2_with fail
    refine bodyPost_ret (v := .tuple #[.agg #[.slice (some ⟨g4, 0, none⟩) (n + 1) c2, .int .i64 L.r0, .int .i64 L.r1, .int .i64 L.r2, .int .i64 L.r3, .int .i64 L.r4, .int .i64 L.r5], .int .i64 n, .int .i64 0]) (by simp [results, Try.results34, go_sem, *]) rfl ⟨some ⟨g4, 0, none⟩, c2, rfl, ?_, ?_⟩
    · refine Rs.of_own (base := w.heap.size) (n := n + 1) (c := c2) (e := 43) ?_ Tk.vals_len (by simp [hN.out]) HV.out
      have hW := HW.out
      clear HW
      subst hW
      ((repeat' first | (with_reducible refine own_far ?_ (by simp [Value.ownBlock]; omega) _) | (with_reducible refine own_drew ?_) | (with_reducible refine World.ownsRow.alloc ?_ _)); exact own_base HO4.out (by omega))
    · refine Fr.below (S := fun _ => False) ?_ (Nat.le_refl _) (fun _ _ h => h)
      have hW := HW.out
      clear HW
      subst hW
      (repeat' first | (with_reducible refine Fr.setCell ?_ (Or.inl (by first | (simp; done) | (simp; omega))) _) | (with_reducible refine Fr.alloc ?_ _) | (with_reducible refine Fr.drew ?_))
      refine Fr.grown ?_ HG4.out (by intro g' h; have := HA3.out _ h; simp [Value.ownBlock] at this; omega)
      (repeat' first | (with_reducible refine Fr.setCell ?_ (Or.inl (by first | (simp; done) | (simp; omega))) _) | (with_reducible refine Fr.alloc ?_ _) | (with_reducible refine Fr.drew ?_))
      refine Fr.grown (row := none) ?_ HG3.out (by simp)
      (repeat' first | (with_reducible refine Fr.setCell ?_ (Or.inl (by first | (simp; done) | (simp; omega))) _) | (with_reducible refine Fr.alloc ?_ _) | (with_reducible refine Fr.drew ?_))
      exact (((((((Fr.refl w _).alloc _).alloc _).alloc _).below_ HB1.out).alloc _).below_ HB2.out)

end Go.Proofs.Ytjhkgoengoiljaa

/- Contracts: Plan of both. -/
namespace Go.Proofs.Ytjhkgoengoiljaa
open Go.RowKit

theorem plan_any (w : World) (av : Option Nat) (A : Option Addr) (c n : Nat) (L : Ld) (hR : Rs w av 10 Tk.vals A L.tks) (hn : L.tks.length = n) (hc63 : n ≤ 4294967296) (t : Tk) (rev : Int) (hav : ∀ x, av = some x → x < w.heap.size) :
    Calls Try.prog 15 #[.agg #[.slice A n c, .int .i64 L.r0, .int .i64 L.r1, .int .i64 L.r2, .int .i64 L.r3, .int .i64 L.r4, .int .i64 L.r5], .agg #[.string t.pk, .string t.ts, .int .i64 t.env, .int .i64 t.cost], .int .i64 rev] w fun e w' => ∃ A' c', e = .returned (.tuple #[.agg #[.slice A' (L.plan t rev).1.tks.length c', .int .i64 (L.plan t rev).1.r0, .int .i64 (L.plan t rev).1.r1, .int .i64 (L.plan t rev).1.r2, .int .i64 (L.plan t rev).1.r3, .int .i64 (L.plan t rev).1.r4, .int .i64 (L.plan t rev).1.r5], .int .i64 (L.plan t rev).2.1, .int .i64 (L.plan t rev).2.2]) ∧ Rs w' av 10 Tk.vals A' (L.plan t rev).1.tks ∧ Below w.heap.size w w' := by
  cases hok : L.ok
  · have e1 : L.plan t rev = (.nil, 0, 1) := by simp [Ld.plan, hok]
    rw [e1]
    exact (plan_bad w av A c n L hR hn hc63 t rev hok).mono fun e w' ⟨he, hb⟩ => ⟨none, 0, he, Rs.nil, hb⟩
  cases ht : taskOk t
  · have e1 : L.plan t rev = (.nil, 0, 1) := by simp [Ld.plan, hok, ht]
    rw [e1]
    exact (plan_task w av A c n L hR hn hc63 t rev hok ht).mono fun e w' ⟨he, hb⟩ => ⟨none, 0, he, Rs.nil, hb⟩
  cases hr : revB rev
  · have e1 : L.plan t rev = (.nil, 0, 3) := by simp [Ld.plan, hok, ht, hr]
    rw [e1]
    exact (plan_rev w av A c n L hR hn hc63 t rev hok ht hr).mono fun e w' ⟨he, hb⟩ => ⟨none, 0, he, Rs.nil, hb⟩
  by_cases hf : n = 128
  · have e1 : L.plan t rev = (.nil, 0, 42) := by simp [Ld.plan, hok, ht, hr, hn, hf]
    rw [e1]
    exact (plan_full w av A c n L hR hn hc63 t rev hok ht hr hf).mono fun e w' ⟨he, hb⟩ => ⟨none, 0, he, Rs.nil, hb⟩
  have h128 : n ≤ 128 := by simp [Ld.ok, hn] at hok; omega
  have e1 : L.plan t rev = ({ L with tks := L.tks ++ [{ t with rev := rev, st := 0, att := 0, run := 0, ep := 0, out := 0 }] }, (n : Int), 0) := by simp [Ld.plan, hok, ht, hr, hn, hf]
  rw [e1]
  refine (plan_ok w av A c n L hR hn hc63 t rev hok ht hr (by omega) hav).mono fun e w' ⟨A', c', he, hr', hb⟩ => ⟨A', c', ?_, hr', hb⟩
  have hlen : (L.tks ++ [{ t with rev := rev, st := 0, att := 0, run := 0, ep := 0, out := 0 }]).length = n + 1 := by simp [hn]
  dsimp only
  rw [hlen]
  exact he

theorem rplan_any (w : World) (av : Option Nat) (A : Option Addr) (c n : Nat) (L : Ld) (hR : Rs w av 10 Tk.vals A L.tks) (hn : L.tks.length = n) (hc63 : n ≤ 4294967296) (t : Tk) (rev : Int) (hav : ∀ x, av = some x → x < w.heap.size) :
    Calls Try.prog 34 #[.agg #[.slice A n c, .int .i64 L.r0, .int .i64 L.r1, .int .i64 L.r2, .int .i64 L.r3, .int .i64 L.r4, .int .i64 L.r5], .agg #[.string t.pk, .string t.ts, .int .i64 t.env, .int .i64 t.cost], .int .i64 rev] w fun e w' => ∃ A' c', e = .returned (.tuple #[.agg #[.slice A' (L.plan t rev).1.tks.length c', .int .i64 (L.plan t rev).1.r0, .int .i64 (L.plan t rev).1.r1, .int .i64 (L.plan t rev).1.r2, .int .i64 (L.plan t rev).1.r3, .int .i64 (L.plan t rev).1.r4, .int .i64 (L.plan t rev).1.r5], .int .i64 (L.plan t rev).2.1, .int .i64 (L.plan t rev).2.2]) ∧ Rs w' av 10 Tk.vals A' (L.plan t rev).1.tks ∧ Below w.heap.size w w' := by
  cases hok : L.ok
  · have e1 : L.plan t rev = (.nil, 0, 1) := by simp [Ld.plan, hok]
    rw [e1]
    exact (rplan_bad w av A c n L hR hn hc63 t rev hok).mono fun e w' ⟨he, hb⟩ => ⟨none, 0, he, Rs.nil, hb⟩
  cases ht : taskOk t
  · have e1 : L.plan t rev = (.nil, 0, 1) := by simp [Ld.plan, hok, ht]
    rw [e1]
    exact (rplan_task w av A c n L hR hn hc63 t rev hok ht).mono fun e w' ⟨he, hb⟩ => ⟨none, 0, he, Rs.nil, hb⟩
  cases hr : revB rev
  · have e1 : L.plan t rev = (.nil, 0, 3) := by simp [Ld.plan, hok, ht, hr]
    rw [e1]
    exact (rplan_rev w av A c n L hR hn hc63 t rev hok ht hr).mono fun e w' ⟨he, hb⟩ => ⟨none, 0, he, Rs.nil, hb⟩
  by_cases hf : n = 128
  · have e1 : L.plan t rev = (.nil, 0, 42) := by simp [Ld.plan, hok, ht, hr, hn, hf]
    rw [e1]
    exact (rplan_full w av A c n L hR hn hc63 t rev hok ht hr hf).mono fun e w' ⟨he, hb⟩ => ⟨none, 0, he, Rs.nil, hb⟩
  have h128 : n ≤ 128 := by simp [Ld.ok, hn] at hok; omega
  have e1 : L.plan t rev = ({ L with tks := L.tks ++ [{ t with rev := rev, st := 0, att := 0, run := 0, ep := 0, out := 0 }] }, (n : Int), 0) := by simp [Ld.plan, hok, ht, hr, hn, hf]
  rw [e1]
  refine (rplan_ok w av A c n L hR hn hc63 t rev hok ht hr (by omega) hav).mono fun e w' ⟨A', c', he, hr', hb⟩ => ⟨A', c', ?_, hr', hb⟩
  have hlen : (L.tks ++ [{ t with rev := rev, st := 0, att := 0, run := 0, ep := 0, out := 0 }]).length = n + 1 := by simp [hn]
  dsimp only
  rw [hlen]
  exact he

end Go.Proofs.Ytjhkgoengoiljaa

/- Contracts: same, the four rules, the list of them. -/
namespace Go.Proofs.Ytjhkgoengoiljaa
open Go.RowKit

set_option maxRecDepth 100000 in
set_option maxHeartbeats 1000000 in
theorem lsame_any (t : Tk) (p : Rp) (w : World) :
    Calls Try.prog 73 #[.agg #[.string t.pk, .string t.ts, .int .i64 t.env, .int .i64 t.cost, .int .i64 t.rev, .int .i64 t.st, .int .i64 t.att, .int .i64 t.run, .int .i64 t.ep, .int .i64 t.out], .agg #[.int .i64 p.tick, .int .i64 p.att, .int .i64 p.run, .int .i64 p.ep, .int .i64 p.out]] w fun e w' => e = .returned (.bool (sameB t p)) ∧ Below w.heap.size w w' := by
  go_enter Try.func73, Try.ntmps73
  go_wp2
  all_goals (go_ret; exact ⟨ret_bool (by rw [Bool.eq_iff_iff]; simp [sameB]; omega), ((Below.refl _ _).alloc (Nat.le_refl _) _).alloc (by simp) _⟩)

set_option maxRecDepth 100000 in
set_option maxHeartbeats 1000000 in
theorem rule1_any (t : Tk) (p : Rp) (w : World) :
    Calls Try.prog 72 #[.agg #[.string t.pk, .string t.ts, .int .i64 t.env, .int .i64 t.cost, .int .i64 t.rev, .int .i64 t.st, .int .i64 t.att, .int .i64 t.run, .int .i64 t.ep, .int .i64 t.out], .agg #[.int .i64 p.tick, .int .i64 p.att, .int .i64 p.run, .int .i64 p.ep, .int .i64 p.out]] w fun e w' => e = .returned (.bool ((t.st == 1) && sameB t p)) ∧ Below w.heap.size w w' := by
  cases hs : (t.st == 1)
  all_goals
    go_enter Try.func72, Try.ntmps72
    go_wp2_with (go_at_call 73; refine (lsame_any t p _).mono ?_; rintro e w1 ⟨rfl, hb1⟩; obtain ⟨hc1, hf1, hz1⟩ := gcell (grown_of_below hb1 none) (w.heap.size + 2) (by first | (simp; done) | (simp; omega)); have : w.heap.size < w1.heap.size := (by omega); have : w.heap.size + 1 < w1.heap.size := (by omega))
    go_ret
    refine ⟨ret_bool (by simp), ?_⟩
    first | exact ((Below.refl _ _).alloc (Nat.le_refl _) _).alloc (by simp) _ | exact (((Below.refl _ _).alloc (Nat.le_refl _) _).alloc (by simp) _).trans (hb1.mono (by simp; omega))

set_option maxRecDepth 100000 in
set_option maxHeartbeats 1000000 in
theorem rule2_any (t : Tk) (p : Rp) (w : World) :
    Calls Try.prog 74 #[.agg #[.string t.pk, .string t.ts, .int .i64 t.env, .int .i64 t.cost, .int .i64 t.rev, .int .i64 t.st, .int .i64 t.att, .int .i64 t.run, .int .i64 t.ep, .int .i64 t.out], .agg #[.int .i64 p.tick, .int .i64 p.att, .int .i64 p.run, .int .i64 p.ep, .int .i64 p.out]] w fun e w' => e = .returned (.bool (sameB t p && (t.out == p.out))) ∧ Below w.heap.size w w' := by
  cases hs : sameB t p
  all_goals
    have HS := hide hs; clear hs
    go_enter Try.func74, Try.ntmps74
    go_wp2_with (go_at_call 73; refine (lsame_any t p _).mono ?_; rintro e w1 ⟨rfl, hb1⟩; rw [HS.out]; obtain ⟨hc1, hf1, hz1⟩ := gcell (grown_of_below hb1 none) (w.heap.size + 2) (by first | (simp; done) | (simp; omega)); have : w.heap.size < w1.heap.size := (by omega); have : w.heap.size + 1 < w1.heap.size := (by omega))
    go_ret
    exact ⟨ret_bool (by simp), (((Below.refl _ _).alloc (Nat.le_refl _) _).alloc (by simp) _).trans (hb1.mono (by simp; omega))⟩

set_option maxRecDepth 100000 in
set_option maxHeartbeats 1000000 in
theorem rule3_any (t : Tk) (p : Rp) (w : World) :
    Calls Try.prog 75 #[.agg #[.string t.pk, .string t.ts, .int .i64 t.env, .int .i64 t.cost, .int .i64 t.rev, .int .i64 t.st, .int .i64 t.att, .int .i64 t.run, .int .i64 t.ep, .int .i64 t.out], .agg #[.int .i64 p.tick, .int .i64 p.att, .int .i64 p.run, .int .i64 p.ep, .int .i64 p.out]] w fun e w' => e = .returned (.bool (sameB t p && repB t.out)) ∧ Below w.heap.size w w' := by
  cases hs : sameB t p
  all_goals
    have HS := hide hs; clear hs
    go_enter Try.func75, Try.ntmps75
    go_wp2_with (first
      | (go_at_call 73; refine (lsame_any t p _).mono ?_; rintro e w1 ⟨rfl, hb1⟩; rw [HS.out]; obtain ⟨hc1, hf1, hz1⟩ := gcell (grown_of_below hb1 none) (w.heap.size + 2) (by first | (simp; done) | (simp; omega)); have : w.heap.size < w1.heap.size := (by omega); have : w.heap.size + 1 < w1.heap.size := (by omega))
      | (go_at_call 33; refine (reported_any t.out _).mono ?_; rintro e w2 ⟨rfl, rfl⟩))
    go_ret
    exact ⟨ret_bool (by simp), (((Below.refl _ _).alloc (Nat.le_refl _) _).alloc (by simp) _).trans (hb1.mono (by simp; omega))⟩

set_option maxRecDepth 100000 in
set_option maxHeartbeats 1000000 in
theorem rule4_any (t : Tk) (p : Rp) (w : World) :
    Calls Try.prog 76 #[.agg #[.string t.pk, .string t.ts, .int .i64 t.env, .int .i64 t.cost, .int .i64 t.rev, .int .i64 t.st, .int .i64 t.att, .int .i64 t.run, .int .i64 t.ep, .int .i64 t.out], .agg #[.int .i64 p.tick, .int .i64 p.att, .int .i64 p.run, .int .i64 p.ep, .int .i64 p.out]] w fun e w' => e = .returned (.bool true) ∧ Below w.heap.size w w' := by
  go_enter Try.func76, Try.ntmps76
  go_wp2
  go_ret
  exact ⟨rfl, by first | exact ((Below.refl _ _).alloc (Nat.le_refl _) _).alloc (by simp) _ | exact Below.refl _ _⟩

/-- The list of the four rules at block b. -/
def RulesAt (w : World) (b : Nat) : Prop :=
  w.cell? ⟨b, 0, none⟩ = some (.int .i64 1) ∧ w.cell? ⟨b, 1, none⟩ = some (.func (.func 72) #[] #[]) ∧ w.cell? ⟨b, 2, none⟩ = some (.int .i64 2) ∧ w.cell? ⟨b, 3, none⟩ = some (.func (.func 74) #[] #[]) ∧
  w.cell? ⟨b, 4, none⟩ = some (.int .i64 5) ∧ w.cell? ⟨b, 5, none⟩ = some (.func (.func 75) #[] #[]) ∧ w.cell? ⟨b, 6, none⟩ = some (.int .i64 3) ∧ w.cell? ⟨b, 7, none⟩ = some (.func (.func 76) #[] #[])

set_option maxRecDepth 100000 in
set_option maxHeartbeats 1000000 in
theorem rules_any (w : World) :
    Calls Try.prog 65 #[] w fun e w' => e = .returned (.slice (some ⟨w.heap.size, 0, none⟩) 4 4) ∧ RulesAt w' w.heap.size ∧ w'.heap.size = w.heap.size + 1 ∧ Below w.heap.size w w' := by
  go_enter Try.func65, Try.ntmps65
  go_wp2
  go_ret
  exact ⟨rfl, (by unfold RulesAt; refine ⟨?_, ?_, ?_, ?_, ?_, ?_, ?_, ?_⟩ <;> go_simp), by simp, (Below.refl _ _).alloc (Nat.le_refl _) _⟩

end Go.Proofs.Ytjhkgoengoiljaa
