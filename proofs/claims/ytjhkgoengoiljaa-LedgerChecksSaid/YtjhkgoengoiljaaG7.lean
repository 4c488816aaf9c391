/- Contracts of the functions that these laws reach: part 7: Contracts of the reference: Begin; Contracts of the reference: Begin; Contracts of the reference: Begin; Contracts of the reference: Fail, Cancel; Contracts: two equal lists of ints, Clip; Two equal arrays of six ints are the same; Contracts: two equal ledgers are the same; Contracts: task, lists of ints, Open; Contracts: Open. -/
import Derived.Test.YtjhkgoengoiljaaG5
import Derived.Deep.RegionWith
import Derived.Deep.RegionHeld3
import Derived.Test.YtjhkgoengoiljaaG6
import Derived.Test.YtjhkgoengoiljaaG2
import Derived.Test.YtjhkgoengoiljaaProg
import Derived.Test.YtjhkgoengoiljaaG1
import Derived.Laws.BytesArg
import Derived.Test.YtjhkgoengoiljaaG3
set_option linter.unusedVariables false
set_option linter.unusedSimpArgs false

/- Contracts of the reference: Begin. -/
namespace Go.Proofs.Ytjhkgoengoiljaa
open Go.RowKit

set_option maxRecDepth 100000 in
set_option maxHeartbeats 2000000 in
theorem rbegin_none (w : World) (av : Option Nat) (A : Option Addr) (c n : Nat) (L : Ld) (hR : Rs w av 10 Tk.vals A L.tks) (hn : L.tks.length = n) (hc63 : n ≤ 4294967296) (k run ep : Int) (hok : L.ok = true) (hk : L.get? k = none) :
    Calls Try.prog 35 #[.agg #[.slice A n c, .int .i64 L.r0, .int .i64 L.r1, .int .i64 L.r2, .int .i64 L.r3, .int .i64 L.r4, .int .i64 L.r5], .int .i64 k, .int .i64 run, .int .i64 ep] w fun e w' => e = .returned (.tuple #[.agg #[.slice none 0 0, .int .i64 0, .int .i64 0, .int .i64 0, .int .i64 0, .int .i64 0, .int .i64 0], .int .i64 0, .int .i64 18]) ∧ Below w.heap.size w w' := by
  have hN := hide hn; clear hn
  have HK := hide hk; clear hk
  go_enter Try.func35, Try.ntmps35
  go_wp2_with (go_at_call 54; refine (find_none _ av A c n L ((hR.alloc _).alloc _) hN.out hc63 k hok HK.out).mono ?_; rintro e w1 ⟨rfl, hb1⟩; obtain ⟨hc1, hf1, hz1⟩ := gcell (grown_of_below hb1 none) (w.heap.size + 2) (by first | (simp; done) | (simp; omega)); have : w.heap.size < w1.heap.size := (by omega); have : w.heap.size + 1 < w1.heap.size := (by omega))
  refine bodyPost_ret (by simp [results, Try.results35, go_sem, hc1]) rfl ⟨rfl, ?_⟩
  (repeat' (with_reducible refine Below.setCell ?_ (by first | (simp; done) | (simp; omega)) _))
  exact ((((Fr.refl w (fun _ => False)).alloc _).alloc _).below_ hb1).below (Nat.le_refl _) (fun _ _ h => h)

end Go.Proofs.Ytjhkgoengoiljaa

/- Contracts of the reference: Begin. -/
namespace Go.Proofs.Ytjhkgoengoiljaa
open Go.RowKit

set_option maxRecDepth 100000 in
set_option maxHeartbeats 1000000 in
theorem rbegin_err (w : World) (av : Option Nat) (A : Option Addr) (c n : Nat) (L : Ld) (hR : Rs w av 10 Tk.vals A L.tks) (hn : L.tks.length = n) (hc63 : n ≤ 4294967296) (i : Nat) (run ep : Int) (t : Tk) (hok : L.ok = true) (hi : i < n) (hk : L.tks[i]? = some t) (er : Int) (hran : (ranB 1 run ep = false ∧ er = 3) ∨ (ranB 1 run ep = true ∧ t.st ≠ 0 ∧ er = 45)) :
    Calls Try.prog 35 #[.agg #[.slice A n c, .int .i64 L.r0, .int .i64 L.r1, .int .i64 L.r2, .int .i64 L.r3, .int .i64 L.r4, .int .i64 L.r5], .int .i64 i, .int .i64 run, .int .i64 ep] w fun e w' => e = .returned (.tuple #[.agg #[.slice none 0 0, .int .i64 0, .int .i64 0, .int .i64 0, .int .i64 0, .int .i64 0, .int .i64 0], .int .i64 0, .int .i64 er]) ∧ Below w.heap.size w w' := by
  have hN := hide hn; clear hn
  have HG := hide hk; clear hk
  rcases hran with ⟨hran, rfl⟩ | ⟨hran, hst, rfl⟩
  · have hr : ¬ (0 ≤ run ∧ run < 8 ∧ 1 ≤ ep ∧ ep ≤ 1073741824) := by simp [ranB] at hran; omega
    have HR := hide hr
    clear hran hr
    go_enter Try.func35, Try.ntmps35
    go_wp2_with (go_at_call 54; refine (find_ok _ av A c n L ((hR.alloc _).alloc _) hN.out hc63 i hok hi).mono ?_; rintro e w1 ⟨rfl, hb1⟩; obtain ⟨hc1, hf1, hz1⟩ := gcell (grown_of_below hb1 none) (w.heap.size + 2) (by first | (simp; done) | (simp; omega)); have : w.heap.size < w1.heap.size := (by omega); have : w.heap.size + 1 < w1.heap.size := (by omega); obtain ⟨b, o, hA, hne, hb, hcells⟩ := ((((hR.alloc _).alloc _)).below hb1).at HG.out; subst hA; obtain ⟨f0, f1, f2, f3, f4, f5, f6, f7, f8, f9⟩ := tkAt_of hcells; clear hcells; have : w1.cell? ⟨w.heap.size, 0, none⟩ = some (.slice (some ⟨b, o, none⟩) n c) := (by go_simp); have : w1.cell? ⟨w.heap.size, 1, none⟩ = some (.int .i64 L.r0) := (by go_simp); have : w1.cell? ⟨w.heap.size, 2, none⟩ = some (.int .i64 L.r1) := (by go_simp); have : w1.cell? ⟨w.heap.size, 3, none⟩ = some (.int .i64 L.r2) := (by go_simp); have : w1.cell? ⟨w.heap.size, 4, none⟩ = some (.int .i64 L.r3) := (by go_simp); have : w1.cell? ⟨w.heap.size, 5, none⟩ = some (.int .i64 L.r4) := (by go_simp); have : w1.cell? ⟨w.heap.size, 6, none⟩ = some (.int .i64 L.r5) := (by go_simp); have : w1.cell? ⟨w.heap.size + 1, 0, none⟩ = some (.slice none 0 0) := (by go_simp); have : w1.cell? ⟨w.heap.size + 1, 1, none⟩ = some (.int .i64 0) := (by go_simp); have : w1.cell? ⟨w.heap.size + 1, 2, none⟩ = some (.int .i64 0) := (by go_simp); have : w1.cell? ⟨w.heap.size + 1, 3, none⟩ = some (.int .i64 0) := (by go_simp); have : w1.cell? ⟨w.heap.size + 1, 4, none⟩ = some (.int .i64 0) := (by go_simp); have : w1.cell? ⟨w.heap.size + 1, 5, none⟩ = some (.int .i64 0) := (by go_simp); have : w1.cell? ⟨w.heap.size + 1, 6, none⟩ = some (.int .i64 0) := (by go_simp); have : ∀ j, w1.frozen? ⟨w.heap.size, j, none⟩ = false := (by intro j; go_simp); have : ∀ j, w1.frozen? ⟨w.heap.size + 1, j, none⟩ = false := (by intro j; go_simp); clear hc1 hf1)
    all_goals first
      | (exfalso; have := HR.out; omega)
      | (refine bodyPost_ret (by simp [results, Try.results35, go_sem, *]) rfl ⟨rfl, ?_⟩
         (refine Fr.below (S := fun _ => False) ?_ (Nat.le_refl _) (fun _ _ h => h); (repeat' first | (with_reducible refine Fr.setCell ?_ (Or.inl (by first | (simp; done) | (simp; omega))) _) | (with_reducible refine Fr.alloc ?_ _) | (with_reducible refine Fr.drew ?_)); exact (((Fr.refl w _).alloc _).alloc _).below_ hb1))
  · have hs : (t.st != 0) = true := by simpa using hst
    clear hst
    have hr : 0 ≤ run ∧ run < 8 ∧ 1 ≤ ep ∧ ep ≤ 1073741824 := by simp [ranB] at hran; omega
    obtain ⟨hr1, hr2, hr3, hr4⟩ := hr
    clear hran
    go_enter Try.func35, Try.ntmps35
    go_wp2_with (go_at_call 54; refine (find_ok _ av A c n L ((hR.alloc _).alloc _) hN.out hc63 i hok hi).mono ?_; rintro e w1 ⟨rfl, hb1⟩; obtain ⟨hc1, hf1, hz1⟩ := gcell (grown_of_below hb1 none) (w.heap.size + 2) (by first | (simp; done) | (simp; omega)); have : w.heap.size < w1.heap.size := (by omega); have : w.heap.size + 1 < w1.heap.size := (by omega); obtain ⟨b, o, hA, hne, hb, hcells⟩ := ((((hR.alloc _).alloc _)).below hb1).at HG.out; subst hA; obtain ⟨f0, f1, f2, f3, f4, f5, f6, f7, f8, f9⟩ := tkAt_of hcells; clear hcells; have : w1.cell? ⟨w.heap.size, 0, none⟩ = some (.slice (some ⟨b, o, none⟩) n c) := (by go_simp); have : w1.cell? ⟨w.heap.size, 1, none⟩ = some (.int .i64 L.r0) := (by go_simp); have : w1.cell? ⟨w.heap.size, 2, none⟩ = some (.int .i64 L.r1) := (by go_simp); have : w1.cell? ⟨w.heap.size, 3, none⟩ = some (.int .i64 L.r2) := (by go_simp); have : w1.cell? ⟨w.heap.size, 4, none⟩ = some (.int .i64 L.r3) := (by go_simp); have : w1.cell? ⟨w.heap.size, 5, none⟩ = some (.int .i64 L.r4) := (by go_simp); have : w1.cell? ⟨w.heap.size, 6, none⟩ = some (.int .i64 L.r5) := (by go_simp); have : w1.cell? ⟨w.heap.size + 1, 0, none⟩ = some (.slice none 0 0) := (by go_simp); have : w1.cell? ⟨w.heap.size + 1, 1, none⟩ = some (.int .i64 0) := (by go_simp); have : w1.cell? ⟨w.heap.size + 1, 2, none⟩ = some (.int .i64 0) := (by go_simp); have : w1.cell? ⟨w.heap.size + 1, 3, none⟩ = some (.int .i64 0) := (by go_simp); have : w1.cell? ⟨w.heap.size + 1, 4, none⟩ = some (.int .i64 0) := (by go_simp); have : w1.cell? ⟨w.heap.size + 1, 5, none⟩ = some (.int .i64 0) := (by go_simp); have : w1.cell? ⟨w.heap.size + 1, 6, none⟩ = some (.int .i64 0) := (by go_simp); have : ∀ j, w1.frozen? ⟨w.heap.size, j, none⟩ = false := (by intro j; go_simp); have : ∀ j, w1.frozen? ⟨w.heap.size + 1, j, none⟩ = false := (by intro j; go_simp); clear hc1 hf1)
    refine bodyPost_ret (by simp [results, Try.results35, go_sem, *]) rfl ⟨rfl, ?_⟩
    (refine Fr.below (S := fun _ => False) ?_ (Nat.le_refl _) (fun _ _ h => h); (repeat' first | (with_reducible refine Fr.setCell ?_ (Or.inl (by first | (simp; done) | (simp; omega))) _) | (with_reducible refine Fr.alloc ?_ _) | (with_reducible refine Fr.drew ?_)); exact (((Fr.refl w _).alloc _).alloc _).below_ hb1)

end Go.Proofs.Ytjhkgoengoiljaa

/- Contracts of the reference: Begin. -/
namespace Go.Proofs.Ytjhkgoengoiljaa
open Go.RowKit

theorem put_len {L : Ld} {k : Int} {t : Tk} {n : Nat} (h : L.tks.length = n) : (L.put k t).tks.length = n := by simp [Ld.put, h]

theorem rbegin_any (w : World) (av : Option Nat) (A : Option Addr) (c n : Nat) (L : Ld) (hR : Rs w av 10 Tk.vals A L.tks) (hn : L.tks.length = n) (hc63 : n ≤ 4294967296) (k run ep : Int) (hav : ∀ x, av = some x → x < w.heap.size) :
    Calls Try.prog 35 #[.agg #[.slice A n c, .int .i64 L.r0, .int .i64 L.r1, .int .i64 L.r2, .int .i64 L.r3, .int .i64 L.r4, .int .i64 L.r5], .int .i64 k, .int .i64 run, .int .i64 ep] w fun e w' => ∃ A' c', e = .returned (.tuple #[.agg #[.slice A' (L.begin k run ep).1.tks.length c', .int .i64 (L.begin k run ep).1.r0, .int .i64 (L.begin k run ep).1.r1, .int .i64 (L.begin k run ep).1.r2, .int .i64 (L.begin k run ep).1.r3, .int .i64 (L.begin k run ep).1.r4, .int .i64 (L.begin k run ep).1.r5], .int .i64 (L.begin k run ep).2.1, .int .i64 (L.begin k run ep).2.2]) ∧ Rs w' av 10 Tk.vals A' (L.begin k run ep).1.tks ∧ Below w.heap.size w w' := by
  cases hok : L.ok
  · have e1 : L.begin k run ep = (.nil, 0, 1) := by simp [Ld.begin, hok]
    rw [e1]
    exact (rbegin_bad w av A c n L hR hn hc63 k run ep hok).mono fun e w' ⟨he, hb⟩ => ⟨none, 0, he, Rs.nil, hb⟩
  cases hk : L.get? k with
  | none =>
    have e1 : L.begin k run ep = (.nil, 0, 18) := by simp [Ld.begin, hok, hk]
    rw [e1]
    exact (rbegin_none w av A c n L hR hn hc63 k run ep hok hk).mono fun e w' ⟨he, hb⟩ => ⟨none, 0, he, Rs.nil, hb⟩
  | some t =>
    obtain ⟨i, rfl, hil, hi⟩ := get?_some hk
    cases hran : ranB 1 run ep
    · have e1 : L.begin i run ep = (.nil, 0, 3) := by simp [Ld.begin, hok, hk, hran]
      rw [e1]
      exact (rbegin_err w av A c n L hR hn hc63 i run ep t hok (by omega) hi 3 (.inl ⟨hran, rfl⟩)).mono fun e w' ⟨he, hb⟩ => ⟨none, 0, he, Rs.nil, hb⟩
    by_cases hst : t.st = 0
    · have e1 : L.begin i run ep = (L.put i { t with st := 1, att := t.att + 1, run := run, ep := ep }, t.att + 1, 0) := by simp [Ld.begin, hok, hk, hran, hst]
      rw [e1]
      have hlen : (L.put i { t with st := 1, att := t.att + 1, run := run, ep := ep }).tks.length = n := put_len hn
      refine (rbegin_ok w av A c n L hR hn hc63 i run ep t hok (by omega) hi hran hst (tk_wait (tk_att hok hk) hst) hav).mono fun e w' ⟨g, c', he, hr, hb⟩ => ⟨some ⟨g, 0, none⟩, c', ?_, hr, hb⟩
      dsimp only
      rw [hlen]
      exact he
    · have e1 : L.begin i run ep = (.nil, 0, 45) := by simp [Ld.begin, hok, hk, hran, hst]
      rw [e1]
      exact (rbegin_err w av A c n L hR hn hc63 i run ep t hok (by omega) hi 45 (.inr ⟨hran, hst, rfl⟩)).mono fun e w' ⟨he, hb⟩ => ⟨none, 0, he, Rs.nil, hb⟩

end Go.Proofs.Ytjhkgoengoiljaa

/- Contracts of the reference: Fail, Cancel. -/
namespace Go.Proofs.Ytjhkgoengoiljaa
open Go.RowKit

theorem rfail_any (w : World) (av : Option Nat) (A : Option Addr) (c n : Nat) (L : Ld) (hR : Rs w av 10 Tk.vals A L.tks) (hn : L.tks.length = n) (hc63 : n ≤ 4294967296) (k o : Int) (hav : ∀ x, av = some x → x < w.heap.size) :
    Calls Try.prog 37 #[.agg #[.slice A n c, .int .i64 L.r0, .int .i64 L.r1, .int .i64 L.r2, .int .i64 L.r3, .int .i64 L.r4, .int .i64 L.r5], .int .i64 k, .int .i64 o] w fun e w' => ∃ A' c', e = .returned (.tuple #[.agg #[.slice A' (L.fail k o).1.tks.length c', .int .i64 (L.fail k o).1.r0, .int .i64 (L.fail k o).1.r1, .int .i64 (L.fail k o).1.r2, .int .i64 (L.fail k o).1.r3, .int .i64 (L.fail k o).1.r4, .int .i64 (L.fail k o).1.r5], .int .i64 (L.fail k o).2]) ∧ Rs w' av 10 Tk.vals A' (L.fail k o).1.tks ∧ Below w.heap.size w w' := by
  cases hok : L.ok
  · have e1 : L.fail k o = (.nil, 1) := by simp [Ld.fail, hok]
    rw [e1]
    exact (rfail_bad w av A c n L hR hn hc63 k o hok).mono fun e w' ⟨he, hb⟩ => ⟨none, 0, he, Rs.nil, hb⟩
  cases hk : L.get? k with
  | none =>
    have e1 : L.fail k o = (.nil, 18) := by simp [Ld.fail, hok, hk]
    rw [e1]
    exact (rfail_none w av A c n L hR hn hc63 k o hok hk).mono fun e w' ⟨he, hb⟩ => ⟨none, 0, he, Rs.nil, hb⟩
  | some t =>
    obtain ⟨i, rfl, hil, hi⟩ := get?_some hk
    by_cases ho : o ≠ 4 ∧ o ≠ 5
    · have e1 : L.fail i o = (.nil, 3) := by simp [Ld.fail, hok, hk, ho]
      rw [e1]
      exact (rfail_err w av A c n L hR hn hc63 i o t hok (by omega) hi 3 (.inl ⟨ho.1, ho.2, rfl⟩)).mono fun e w' ⟨he, hb⟩ => ⟨none, 0, he, Rs.nil, hb⟩
    have ho' : o = 4 ∨ o = 5 := by omega
    by_cases hst : t.st = 1
    · have e1 : L.fail i o = (L.put i (t.failed o), 0) := by simp only [Ld.fail, hok, hk]; rw [if_neg (by simp), if_neg ho, if_neg (by simp [hst])]
      rw [e1]
      have hlen : (L.put i (t.failed o)).tks.length = n := put_len hn
      refine (rfail_ok w av A c n L hR hn hc63 i o t hok (by omega) hi ho' hst hav).mono fun e w' ⟨g, c', he, hr, hb⟩ => ⟨some ⟨g, 0, none⟩, c', ?_, hr, hb⟩
      dsimp only
      rw [hlen]
      exact he
    · have e1 : L.fail i o = (.nil, 45) := by simp only [Ld.fail, hok, hk]; rw [if_neg (by simp), if_neg ho, if_pos hst]
      rw [e1]
      exact (rfail_err w av A c n L hR hn hc63 i o t hok (by omega) hi 45 (.inr ⟨ho', hst, rfl⟩)).mono fun e w' ⟨he, hb⟩ => ⟨none, 0, he, Rs.nil, hb⟩

theorem rcancel_any (w : World) (av : Option Nat) (A : Option Addr) (c n : Nat) (L : Ld) (hR : Rs w av 10 Tk.vals A L.tks) (hn : L.tks.length = n) (hc63 : n ≤ 4294967296) (k : Int) (hav : ∀ x, av = some x → x < w.heap.size) :
    Calls Try.prog 39 #[.agg #[.slice A n c, .int .i64 L.r0, .int .i64 L.r1, .int .i64 L.r2, .int .i64 L.r3, .int .i64 L.r4, .int .i64 L.r5], .int .i64 k] w fun e w' => ∃ A' c', e = .returned (.tuple #[.agg #[.slice A' (L.cancel k).1.tks.length c', .int .i64 (L.cancel k).1.r0, .int .i64 (L.cancel k).1.r1, .int .i64 (L.cancel k).1.r2, .int .i64 (L.cancel k).1.r3, .int .i64 (L.cancel k).1.r4, .int .i64 (L.cancel k).1.r5], .int .i64 (L.cancel k).2]) ∧ Rs w' av 10 Tk.vals A' (L.cancel k).1.tks ∧ Below w.heap.size w w' := by
  cases hok : L.ok
  · have e1 : L.cancel k = (.nil, 1) := by simp [Ld.cancel, hok]
    rw [e1]
    exact (rcancel_bad w av A c n L hR hn hc63 k hok).mono fun e w' ⟨he, hb⟩ => ⟨none, 0, he, Rs.nil, hb⟩
  cases hk : L.get? k with
  | none =>
    have e1 : L.cancel k = (.nil, 18) := by simp [Ld.cancel, hok, hk]
    rw [e1]
    exact (rcancel_none w av A c n L hR hn hc63 k hok hk).mono fun e w' ⟨he, hb⟩ => ⟨none, 0, he, Rs.nil, hb⟩
  | some t =>
    obtain ⟨i, rfl, hil, hi⟩ := get?_some hk
    by_cases hst : t.st = 2
    · have e1 : L.cancel i = (.nil, 45) := by simp [Ld.cancel, hok, hk, hst]
      rw [e1]
      exact (rcancel_err w av A c n L hR hn hc63 i t hok (by omega) hi hst).mono fun e w' ⟨he, hb⟩ => ⟨none, 0, he, Rs.nil, hb⟩
    · have e1 : L.cancel i = (L.put i { t with st := 2, out := 6 }, 0) := by simp [Ld.cancel, hok, hk, hst]
      rw [e1]
      have hlen : (L.put i { t with st := 2, out := 6 }).tks.length = n := put_len hn
      refine (rcancel_ok w av A c n L hR hn hc63 i t hok (by omega) hi hst hav).mono fun e w' ⟨g, c', he, hr, hb⟩ => ⟨some ⟨g, 0, none⟩, c', ?_, hr, hb⟩
      dsimp only
      rw [hlen]
      exact he

end Go.Proofs.Ytjhkgoengoiljaa

/- Contracts: two equal lists of ints, Clip. -/
namespace Go.Proofs.Ytjhkgoengoiljaa
open Go.RowKit

set_option maxHeartbeats 1000000 in
theorem sameints_eq (w : World) (av : Option Nat) (A B : Option Addr) (n c d : Nat) (l : List Int) (hA : Rs w av 1 iv A l) (hB : Rs w av 1 iv B l) (hl : l.length = n) (hn : n ≤ 4294967296) :
    Calls Try.prog 28 #[.slice A n c, .slice B n d] w fun e w' => e = .returned (.bool true) ∧ Below w.heap.size w w' := by
  have HL := hide hl
  have HA := hide hA
  have HB := hide hB
  clear hA hB
  go_enter Try.func28, Try.ntmps28
  go_wp2
  go_loopw [5] (fun x wr => ∃ k m : Nat, k ≤ n ∧ x = .int .i64 k ∧ wr = w.drewN m) (fun x _ => n - (intOf x).toNat)
  case atStart => exact ⟨0, 0, by omega, rfl, rfl⟩
  case round =>
    obtain ⟨k, m, hk, rfl, rfl⟩ := hrel
    by_cases hlt : k < n
    · obtain ⟨b, o, rfl, -, hb, hc⟩ := ints_at HA.out (k := k) (by omega)
      obtain ⟨b2, o2, rfl, -, hb2, hc2⟩ := ints_at HB.out (k := k) (by omega)
      obtain ⟨x, hx⟩ : ∃ x, x = l[k]'(by omega) := ⟨_, rfl⟩
      rw [← hx] at hc hc2
      have hi1 : (0 : Int) ≤ (k : Int) := by omega
      have hi2 : (k : Int) < (n : Int) := by omega
      clear hx hl
      go_wp2_with fail
      go_region_held3 (fun W => W.cell? ⟨b, o + k, none⟩ = some (.int .i64 x) ∧ W.cell? ⟨b2, o2 + k, none⟩ = some (.int .i64 x)) (first | (go_keep; done) | ((try dsimp only); (repeat' apply And.intro) <;> first | (go_keep; done) | ((repeat rw [World.cell?_setCell_other _ _ _ _ (by intro h; injection h; omega)]); go_keep; done))) (fail)
      go_wp2_with fail
      go_roundw
      case rel => exact ⟨k + 1, m + 1, by omega, by go_num, rfl⟩
      case measure => simp [intOf]; omega
    · have hkn : decide ((k : Int) < (n : Int)) = false := by simp; omega
      go_wp2_with fail
      go_ret
      exact ⟨rfl, ((Fr.refl w (fun _ => False)).drewN m).below (Nat.le_refl _) (fun _ _ h => h)⟩

end Go.Proofs.Ytjhkgoengoiljaa

/- Two equal arrays of six ints are the same. -/
namespace Go.Proofs.Ytjhkgoengoiljaa
open Go.RowKit

theorem eq6 (w : World) (a0 a1 a2 a3 a4 a5 : Int) :
    (Op.equalIn 10000 24 (.agg #[.int .i64 a0, .int .i64 a1, .int .i64 a2, .int .i64 a3, .int .i64 a4, .int .i64 a5]) (.agg #[.int .i64 a0, .int .i64 a1, .int .i64 a2, .int .i64 a3, .int .i64 a4, .int .i64 a5])).run Try.prog w = .ok true w := by
  have u3 := Try.underlying3
  have a3 := Try.isAgg3
  have z3 := Try.sizeOf3
  rw [show (10000 : Nat) = 9999 + 1 from rfl, Op.equalIn]
  simp only [Sem.run_bind, run_underlying Try.underlying24, Result.andThen_ok]
  simp only [Std.Legacy.Range.forIn_eq_forIn_range', Std.Legacy.Range.size, Nat.sub_zero, Nat.add_sub_cancel, Nat.div_one, List.range'_succ, List.range'_zero, List.forIn_cons, List.forIn_nil]
  go_simp

end Go.Proofs.Ytjhkgoengoiljaa

/- Contracts: two equal ledgers are the same. -/
namespace Go.Proofs.Ytjhkgoengoiljaa
open Go.RowKit

set_option maxRecDepth 100000 in
set_option maxHeartbeats 1000000 in
theorem same_eq (w : World) (av : Option Nat) (A B : Option Addr) (n c d : Nat) (L : Ld) (hA : Rs w av 10 Tk.vals A L.tks) (hB : Rs w av 10 Tk.vals B L.tks) (hn : L.tks.length = n) (hc63 : n ≤ 4294967296) :
    Calls Try.prog 20 #[.agg #[.slice A n c, .int .i64 L.r0, .int .i64 L.r1, .int .i64 L.r2, .int .i64 L.r3, .int .i64 L.r4, .int .i64 L.r5], .agg #[.slice B n d, .int .i64 L.r0, .int .i64 L.r1, .int .i64 L.r2, .int .i64 L.r3, .int .i64 L.r4, .int .i64 L.r5]] w fun e w' => e = .returned (.bool true) ∧ Below w.heap.size w w' := by
  have HN := hide hn
  have HA := hide (((hA.alloc _).alloc _) : Rs ((w.alloc (.cells #[.slice A n c, .int .i64 L.r0, .int .i64 L.r1, .int .i64 L.r2, .int .i64 L.r3, .int .i64 L.r4, .int .i64 L.r5] 26)).alloc (.cells #[.slice B n d, .int .i64 L.r0, .int .i64 L.r1, .int .i64 L.r2, .int .i64 L.r3, .int .i64 L.r4, .int .i64 L.r5] 26)) av 10 Tk.vals A L.tks)
  have HB := hide (((hB.alloc _).alloc _) : Rs ((w.alloc (.cells #[.slice A n c, .int .i64 L.r0, .int .i64 L.r1, .int .i64 L.r2, .int .i64 L.r3, .int .i64 L.r4, .int .i64 L.r5] 26)).alloc (.cells #[.slice B n d, .int .i64 L.r0, .int .i64 L.r1, .int .i64 L.r2, .int .i64 L.r3, .int .i64 L.r4, .int .i64 L.r5] 26)) av 10 Tk.vals B L.tks)
  clear hA hB hn
  have k6 := fun w => eq6 w L.r0 L.r1 L.r2 L.r3 L.r4 L.r5
  go_enter Try.func20, Try.ntmps20
  go_wp2
  go_loopw [5] (fun x wr => ∃ k m : Nat, k ≤ n ∧ x = .int .i64 k ∧ wr = ((w.alloc (.cells #[.slice A n c, .int .i64 L.r0, .int .i64 L.r1, .int .i64 L.r2, .int .i64 L.r3, .int .i64 L.r4, .int .i64 L.r5] 26)).alloc (.cells #[.slice B n d, .int .i64 L.r0, .int .i64 L.r1, .int .i64 L.r2, .int .i64 L.r3, .int .i64 L.r4, .int .i64 L.r5] 26)).drewN m) (fun x _ => n - (intOf x).toNat)
  case atStart => exact ⟨0, 0, by omega, rfl, rfl⟩
  case round =>
    obtain ⟨k, m, hk, rfl, rfl⟩ := hrel
    by_cases hlt : k < n
    · obtain ⟨t, ht⟩ : ∃ t, L.tks[k]? = some t := ⟨_, List.getElem?_eq_getElem (by have := HN.out; omega)⟩
      obtain ⟨b, o, rfl, -, hb, hc⟩ := HA.out.at ht
      obtain ⟨b2, o2, rfl, -, hb2, hc2⟩ := HB.out.at ht
      obtain ⟨f0, f1, f2, f3, f4, f5, f6, f7, f8, f9⟩ := tkAt_of hc
      obtain ⟨g0, g1, g2, g3, g4, g5, g6, g7, g8, g9⟩ := tkAt_of hc2
      have hi1 : (0 : Int) ≤ (k : Int) := by omega
      have hi2 : (k : Int) < (n : Int) := by omega
      clear hc hc2 ht
      go_wp2_with fail
      go_region_held3 (fun W => W.cell? ⟨w.heap.size, 0, none⟩ = some (.slice (some ⟨b, o, none⟩) n c) ∧ W.cell? ⟨w.heap.size + 1, 0, none⟩ = some (.slice (some ⟨b2, o2, none⟩) n d) ∧ (W.cell? ⟨b, (o + k * 10), none⟩ = some (.string t.pk) ∧ W.cell? ⟨b, (o + k * 10) + 1, none⟩ = some (.string t.ts) ∧ W.cell? ⟨b, (o + k * 10) + 2, none⟩ = some (.int .i64 t.env) ∧ W.cell? ⟨b, (o + k * 10) + 3, none⟩ = some (.int .i64 t.cost) ∧ W.cell? ⟨b, (o + k * 10) + 4, none⟩ = some (.int .i64 t.rev) ∧ W.cell? ⟨b, (o + k * 10) + 5, none⟩ = some (.int .i64 t.st) ∧ W.cell? ⟨b, (o + k * 10) + 6, none⟩ = some (.int .i64 t.att) ∧ W.cell? ⟨b, (o + k * 10) + 7, none⟩ = some (.int .i64 t.run) ∧ W.cell? ⟨b, (o + k * 10) + 8, none⟩ = some (.int .i64 t.ep) ∧ W.cell? ⟨b, (o + k * 10) + 9, none⟩ = some (.int .i64 t.out)) ∧ (W.cell? ⟨b2, (o2 + k * 10), none⟩ = some (.string t.pk) ∧ W.cell? ⟨b2, (o2 + k * 10) + 1, none⟩ = some (.string t.ts) ∧ W.cell? ⟨b2, (o2 + k * 10) + 2, none⟩ = some (.int .i64 t.env) ∧ W.cell? ⟨b2, (o2 + k * 10) + 3, none⟩ = some (.int .i64 t.cost) ∧ W.cell? ⟨b2, (o2 + k * 10) + 4, none⟩ = some (.int .i64 t.rev) ∧ W.cell? ⟨b2, (o2 + k * 10) + 5, none⟩ = some (.int .i64 t.st) ∧ W.cell? ⟨b2, (o2 + k * 10) + 6, none⟩ = some (.int .i64 t.att) ∧ W.cell? ⟨b2, (o2 + k * 10) + 7, none⟩ = some (.int .i64 t.run) ∧ W.cell? ⟨b2, (o2 + k * 10) + 8, none⟩ = some (.int .i64 t.ep) ∧ W.cell? ⟨b2, (o2 + k * 10) + 9, none⟩ = some (.int .i64 t.out))) (go_keep) (fail)
      go_wp2_with fail
      go_roundw
      case rel => exact ⟨k + 1, m + 1, by omega, by go_num, rfl⟩
      case measure => simp [intOf]; omega
    · have hkn : decide ((k : Int) < (n : Int)) = false := by simp; omega
      go_wp2_with fail
      go_ret
      exact ⟨rfl, (((Fr.refl w (fun _ => False)).alloc _).alloc _).drewN m |>.below (Nat.le_refl _) (fun _ _ h => h)⟩

end Go.Proofs.Ytjhkgoengoiljaa

/- Contracts: task, lists of ints, Open. -/
namespace Go.Proofs.Ytjhkgoengoiljaa
open Go.RowKit

set_option maxRecDepth 100000 in
set_option maxHeartbeats 1000000 in
theorem task_any (v : Int) (w : World) :
    Calls Try.prog 16 #[.int .i64 v] w fun e w' => (∃ t : Tk, e = .returned (.agg #[.string t.pk, .string t.ts, .int .i64 t.env, .int .i64 t.cost]) ∧ taskOk t = true) ∧ Below w.heap.size w w' := by
  have h1 := foldV_lo v 26
  have h2 := foldV_lo v 3
  have h3 := foldV_lo v 9
  obtain ⟨x, hx⟩ : ∃ x, x = foldV v 26 := ⟨_, rfl⟩
  obtain ⟨y, hy⟩ : ∃ y, y = foldV v 3 := ⟨_, rfl⟩
  obtain ⟨z, hz⟩ : ∃ z, z = foldV v 9 := ⟨_, rfl⟩
  have HX := hide hx
  have HY := hide hy
  have HZ := hide hz
  rw [← hx] at h1
  rw [← hy] at h2
  rw [← hz] at h3
  clear hx hy hz
  have a1 : 0 ≤ x := h1.1
  have a2 : x < 26 := by omega
  have b1 : 0 ≤ y := h2.1
  have b2 : y < 3 := by omega
  have c1 : 0 ≤ z := h3.1
  have c2 : z < 9 := by omega
  clear h1 h2 h3
  obtain ⟨S, hS⟩ : ∃ S, S = strOfNums [(IntKind.u8.wrap (IntKind.i64.wrap (97 + x)))] := ⟨_, rfl⟩
  have hsz : S.size = 1 := by rw [hS]; rfl
  have kc : ∀ (W : World) (g : Nat), W.cell? ⟨g, 0, none⟩ = some (.int .u8 (IntKind.u8.wrap (IntKind.i64.wrap (97 + x)))) → (convert 78 9 (.slice (some ⟨g, 0, none⟩) 1 1)).run Try.prog W = .ok (.string S) W := by
    intro W g hW
    rw [hS]
    exact run_convert_bytes_arg W 78 5 Try.underlying78 Try.underlying5 g 0 1 1 [(IntKind.u8.wrap (IntKind.i64.wrap (97 + x)))] rfl (by intro i hi; obtain rfl : i = 0 := (by omega); simpa using hW) 9 Try.underlying9
  have HS := hide hsz
  have hwz : IntKind.i64.wrap (1 + z) = 1 + z := IntWalk.i64_in _ (by omega)
  clear hS hsz
  go_enter Try.func16, Try.ntmps16
  go_wp2_with fail
  go_region_with
    (first
      | ((go_at_call_of 19 (Value.int IntKind.i64 26); refine (fold_any v 26 _ (by omega)).mono ?_; rintro e w1 ⟨rfl, rfl⟩; rw [← HX.out]))
      | ((go_at_call_of 19 (Value.int IntKind.i64 3); refine (fold_any v 3 _ (by omega)).mono ?_; rintro e w1 ⟨rfl, rfl⟩; rw [← HY.out]))
      | ((go_at_call_of 19 (Value.int IntKind.i64 9); refine (fold_any v 9 _ (by omega)).mono ?_; rintro e w1 ⟨rfl, rfl⟩; rw [← HZ.out])))
  all_goals
    go_wp2_with fail
    refine bodyPost_ret (v := .agg #[.string ⟨#[112]⟩, .string S, .int .i64 y, .int .i64 (1 + z)]) (by simp [results, Try.results16, go_sem]) rfl ⟨⟨⟨⟨#[112]⟩, S, y, 1 + z, 0, 0, 0, 0, 0, 0⟩, rfl, ?_⟩, ?_⟩
    · have h0 : (ByteArray.mk #[112]).size = 1 := rfl
      simp only [taskOk, usableB, placeB, costB, HS.out, h0, Bool.and_eq_true, decide_eq_true_eq]
      omega
    · (refine Fr.below (S := fun _ => False) ?_ (Nat.le_refl _) (fun _ _ h => h); (repeat' first | (with_reducible refine Fr.setCell ?_ (Or.inl (by first | (simp; done) | (simp; omega))) _) | (with_reducible refine Fr.alloc ?_ _) | (with_reducible refine Fr.drew ?_)); exact Fr.refl w _)

end Go.Proofs.Ytjhkgoengoiljaa

/- Contracts: Open. -/
namespace Go.Proofs.Ytjhkgoengoiljaa
open Go.RowKit

theorem info3 : (Try.prog.info? 3).map (fun i => (i.zero, i.size, i.bytes)) = some (some (.int .i64 0), 1, 8) := by kernel_rfl

theorem idxs_append (p : Tk → Bool) (t : Tk) : ∀ (l : List Tk) (k : Nat), idxs p (l ++ [t]) k = idxs p l k ++ (if p t then [((k + l.length : Nat) : Int)] else [])
  | [], k => by simp [idxs]
  | x :: l, k => by
    simp only [List.cons_append, idxs, idxs_append p t l (k + 1)]
    have e : k + 1 + l.length = k + (x :: l).length := by simp; omega
    rw [e]
    split <;> rfl
theorem idxs_take (p : Tk → Bool) {l : List Tk} {k : Nat} {t : Tk} (h : l[k]? = some t) : idxs p (l.take (k + 1)) 0 = idxs p (l.take k) 0 ++ (if p t then [(k : Int)] else []) := by
  have hk := (List.getElem?_eq_some_iff.1 h).1
  rw [List.take_add_one, h]
  simp only [Option.toList_some]
  rw [idxs_append]
  simp [Nat.min_eq_left (Nat.le_of_lt hk)]
theorem idxs_len (p : Tk → Bool) : ∀ (l : List Tk) (k : Nat), (idxs p l k).length ≤ l.length
  | [], _ => Nat.le_refl _
  | t :: l, k => by
    simp only [idxs]
    have := idxs_len p l (k + 1)
    split <;> simp <;> omega

theorem own_cap {w : World} {base : Nat} {e : TypeId} {s n c : Nat} {A : Option Addr} {xs : List Value} (h : w.ownsRow base e s (.slice A n c) n xs) : n ≤ c := by
  rcases h.2 with ⟨h, _⟩ | ⟨g, cap, cur, h, _, _, hnc, _⟩
  · injection h with h1 h2 h3
    omega
  · injection h with h1 h2 h3
    omega
theorem own_ge {w : World} {base : Nat} {e : TypeId} {s n : Nat} {v : Value} {xs : List Value} (h : w.ownsRow base e s v n xs) : ∀ g, v.ownBlock = some g → base ≤ g := by
  intro g hg
  rcases h.2 with ⟨rfl, _⟩ | ⟨g', cap, cur, rfl, hb, _⟩
  · simp [Value.ownBlock] at hg
  · simp [Value.ownBlock] at hg
    omega

set_option maxHeartbeats 400000 in
theorem clip_any (w : World) (A : Option Addr) (n c : Nat) (h : n ≤ c) :
    Calls Try.prog 49 #[.slice A n c] w fun e w' => e = .returned (.slice A n n) ∧ w = w' := by
  go_enter Try.func49, Try.ntmps49
  go_wp2
  go_ret
  exact ⟨rfl, rfl⟩

set_option maxRecDepth 100000 in
set_option maxHeartbeats 1000000 in
theorem open_bad (w : World) (av : Option Nat) (A : Option Addr) (c n : Nat) (L : Ld) (hR : Rs w av 10 Tk.vals A L.tks) (hn : L.tks.length = n) (hc63 : n ≤ 4294967296) (hok : L.ok = false) :
    Calls Try.prog 25 #[.agg #[.slice A n c, .int .i64 L.r0, .int .i64 L.r1, .int .i64 L.r2, .int .i64 L.r3, .int .i64 L.r4, .int .i64 L.r5]] w fun e w' => e = .returned (.slice none 0 0) ∧ Below w.heap.size w w' := by
  have hN := hide hn; clear hn
  have HK := hide hok; clear hok
  go_enter Try.func25, Try.ntmps25
  go_wp2_with (go_at_call 11; refine (check_any A c n L _ av (hR.alloc _) hN.out hc63).mono ?_; rintro e w1 ⟨rfl, hb1⟩; rw [HK.out]; obtain ⟨hc1, hf1, hz1⟩ := gcell (grown_of_below hb1 none) (w.heap.size + 1) (by first | (simp; done) | (simp; omega)); have : w.heap.size < w1.heap.size := (by omega))
  go_ret
  exact ⟨rfl, ((Below.refl _ _).alloc (Nat.le_refl _) _).trans (hb1.mono (by simp))⟩

set_option maxRecDepth 100000 in
set_option maxHeartbeats 2000000 in
theorem open_ok (w : World) (av : Option Nat) (A : Option Addr) (c n : Nat) (L : Ld) (hR : Rs w av 10 Tk.vals A L.tks) (hn : L.tks.length = n) (hc63 : n ≤ 4294967296) (hok : L.ok = true) (hav : ∀ x, av = some x → x < w.heap.size) :
    Calls Try.prog 25 #[.agg #[.slice A n c, .int .i64 L.r0, .int .i64 L.r1, .int .i64 L.r2, .int .i64 L.r3, .int .i64 L.r4, .int .i64 L.r5]] w fun e w' => (∃ A' c', e = .returned (.slice A' (idxs notDone L.tks 0).length c') ∧ Rs w' av 1 iv A' (idxs notDone L.tks 0)) ∧ Below w.heap.size w w' := by
  have hN := hide hn; clear hn
  have HK := hide hok; clear hok
  have HV := hide hav; clear hav
  go_enter Try.func25, Try.ntmps25
  go_wp2_with (go_at_call 11; refine (check_any A c n L _ av (hR.alloc _) hN.out hc63).mono ?_; rintro e w1 ⟨rfl, hb1⟩; rw [HK.out]; obtain ⟨hc1, hf1, hz1⟩ := gcell (grown_of_below hb1 none) (w.heap.size + 1) (by first | (simp; done) | (simp; omega)); have : w.heap.size < w1.heap.size := (by omega))
  have HR1 := hide ((hR.alloc (.cells #[.slice A n c, .int .i64 L.r0, .int .i64 L.r1, .int .i64 L.r2, .int .i64 L.r3, .int .i64 L.r4, .int .i64 L.r5] 26)).below hb1)
  have HB1 := hide hb1
  clear hc1 hf1 hb1
  go_loopw [3, 12] (fun v x wr => ∃ (k : Nat) (A' : Option Addr) (c' : Nat), k ≤ n ∧ x = .int .i64 k ∧ v = .slice A' (idxs notDone (L.tks.take k) 0).length c' ∧ Hid (wr.ownsRow w1.heap.size 3 1 (.slice A' (idxs notDone (L.tks.take k) 0).length c') (idxs notDone (L.tks.take k) 0).length ((idxs notDone (L.tks.take k) 0).flatMap iv)) ∧ Hid (Below w1.heap.size w1 wr)) (fun _ x _ => n - (intOf x).toNat)
  case atStart => exact ⟨0, none, 0, by omega, rfl, rfl, hide (World.ownsRow_nil _ _ _ _), hide (Below.refl _ _)⟩
  case round =>
    obtain ⟨k, A', c', hk, rfl, rfl, HO, HB⟩ := hrel
    obtain ⟨m, hm⟩ : ∃ m, m = (idxs notDone (L.tks.take k) 0).length := ⟨_, rfl⟩
    have hm2 : m ≤ k := by
      have h1 := idxs_len notDone (L.tks.take k) 0
      have h2 : (L.tks.take k).length ≤ k := List.length_take_le _ _
      omega
    by_cases hlt : k < n
    · have hi1 : (0 : Int) ≤ (k : Int) := by omega
      have hi2 : (k : Int) < (n : Int) := by omega
      obtain ⟨t, ht⟩ : ∃ t, L.tks[k]? = some t := ⟨_, List.getElem?_eq_getElem (by have := hN.out; omega)⟩
      have HT := hide (idxs_take notDone ht)
      obtain ⟨b, o, rfl, -, hb, hcells⟩ := (HR1.out.below HB.out).at ht
      obtain ⟨f0, f1, f2, f3, f4, f5, f6, f7, f8, f9⟩ := tkAt_of hcells
      have hz := HB.out.size
      rw [← hm] at HO ⊢
      have HM := hide hm
      clear hcells ht hm
      cases hs : (t.st == 2)
      · have hs2 : (t.st != 2) = true := by simp [bne, hs]
        have HS := hide (show notDone t = true by simp [notDone, stIs, hs])
        clear hs
        go_wp2_with (at_builtin; refine wl_append _ rfl (.tmp 20) (.tmp 22) 22 (by rfl) w1.heap.size 3 _ 1 8 Try.underlying22 info3 rfl (by decide) (.slice A' m c') m (idxs notDone (L.tks.take k) 0) (by rfl) ((HO.out.alloc _).alloc _) _ 1 1 [(k : Int)] (by rfl) (rs_one (av := none) (by simp) (by simp) (by intro j u hu; match j with | 0 => simp [iv] at hu; subst hu; go_simp | j + 1 => simp [iv] at hu)) rfl iv_len iv_one (by omega) (by decide) (by simp; omega) ?_; intro A2 c2 w2 hown2 hg2 _; have HO2 := hide hown2; have HG2 := hide hg2; clear hown2 hg2)
        go_wp2_with fail
        go_roundw
        case rel =>
          have e1 := HT.out
          rw [HS.out, if_pos rfl] at e1
          have e2 : (idxs notDone (L.tks.take k) 0 ++ [(k : Int)]).length = m + 1 := by simp [HM.out]
          refine ⟨k + 1, A2, c2, by omega, by go_num, ?_, hide ?_, hide ?_⟩
          · rw [e1, e2]
          · rw [e1, e2]; exact HO2.out
          · exact (((HB.out.alloc hz _).alloc (by simp; omega) _).grown HG2.out (by simp; omega) (own_ge HO.out))
        case measure => simp [intOf]; omega
      · have hs2 : (t.st != 2) = false := by simp [bne, hs]
        have HS := hide (show notDone t = false by simp [notDone, stIs, hs])
        clear hs
        go_wp2_with fail
        go_roundw
        case rel =>
          have e1 := HT.out
          rw [HS.out, if_neg (by simp), List.append_nil] at e1
          refine ⟨k + 1, A', c', by omega, by go_num, ?_, hide ?_, hide ?_⟩
          · rw [e1, ← HM.out]
          · rw [e1, ← HM.out]; exact HO.out.alloc _
          · exact HB.out.alloc hz _
        case measure => simp [intOf]; omega
    · have hkn : decide ((k : Int) < (n : Int)) = false := by simp; omega
      have e0 : L.tks.take k = L.tks := List.take_of_length_le (by have := hN.out; omega)
      rw [e0] at hm HO ⊢
      have hle := own_cap HO.out
      have HM := hide hm
      clear e0 hm
      go_wp2_with (go_at_call 49; refine (clip_any _ _ _ _ hle).mono ?_; rintro e w2 ⟨rfl, rfl⟩)
      go_ret
      refine ⟨⟨A', _, rfl, ?_⟩, ((Below.refl _ _).alloc (Nat.le_refl _) _).trans ((HB1.out.mono (by simp)).trans (HB.out.mono (by omega)))⟩
      exact Rs.of_own HO.out iv_len rfl (fun x hx => by have := HV.out x hx; omega)

end Go.Proofs.Ytjhkgoengoiljaa
