/- Contracts of the functions that these laws reach: part 9: Contracts: PLAN, the errors; Contracts: RPLAN, the errors; A region that draws its order, its reads first: the tail runs in a world with a name; Contracts: Plan, the new ticket. -/
import Derived.Test.YtjhkgoengoiljaaG2
import Derived.Test.YtjhkgoengoiljaaG3
import Derived.Test.YtjhkgoengoiljaaG5
import Derived.Test.YtjhkgoengoiljaaG1
import Derived.StillTailTactics
import Derived.Deep.Cut
set_option linter.unusedVariables false
set_option linter.unusedSimpArgs false

/- Contracts: PLAN, the errors. -/
namespace Go.Proofs.Ytjhkgoengoiljaa
open Go.RowKit

set_option maxRecDepth 100000 in
set_option maxHeartbeats 2000000 in
theorem plan_bad (w : World) (av : Option Nat) (A : Option Addr) (c n : Nat) (L : Ld) (hR : Rs w av 10 Tk.vals A L.tks) (hn : L.tks.length = n) (hc63 : n ≤ 4294967296) (t : Tk) (rev : Int) (hok : L.ok = false) :
    Calls Try.prog 15 #[.agg #[.slice A n c, .int .i64 L.r0, .int .i64 L.r1, .int .i64 L.r2, .int .i64 L.r3, .int .i64 L.r4, .int .i64 L.r5], .agg #[.string t.pk, .string t.ts, .int .i64 t.env, .int .i64 t.cost], .int .i64 rev] w fun e w' => e = .returned (.tuple #[.agg #[.slice none 0 0, .int .i64 0, .int .i64 0, .int .i64 0, .int .i64 0, .int .i64 0, .int .i64 0], .int .i64 0, .int .i64 1]) ∧ Below w.heap.size w w' := by
  have hN := hide hn; clear hn
  go_enter Try.func15, Try.ntmps15
  go_wp2_with (go_at_call 11; refine (check_any A c n L _ av (((hR.alloc _).alloc _).alloc _) hN.out (by omega)).mono ?_; rintro e w1 ⟨rfl, hb1⟩; obtain ⟨hc1, hf1, hz1⟩ := gcell (grown_of_below hb1 none) (w.heap.size + 3) (by first | (simp; done) | (simp; omega)); have : w.heap.size < w1.heap.size := (by omega); have : w.heap.size + 1 < w1.heap.size := (by omega); have : w.heap.size + 2 < w1.heap.size := (by omega))
  refine bodyPost_ret (by simp [results, Try.results15, go_sem, hc1]) rfl ⟨rfl, ?_⟩
  (refine Fr.below (S := fun _ => False) ?_ (Nat.le_refl _) (fun _ _ h => h); (repeat' first | (with_reducible refine Fr.setCell ?_ (Or.inl (by first | (simp; done) | (simp; omega))) _) | (with_reducible refine Fr.alloc ?_ _) | (with_reducible refine Fr.drew ?_)); exact ((((Fr.refl w _).alloc _).alloc _).alloc _).below_ hb1)

set_option maxRecDepth 100000 in
set_option maxHeartbeats 2000000 in
theorem plan_task (w : World) (av : Option Nat) (A : Option Addr) (c n : Nat) (L : Ld) (hR : Rs w av 10 Tk.vals A L.tks) (hn : L.tks.length = n) (hc63 : n ≤ 4294967296) (t : Tk) (rev : Int) (hok : L.ok = true) (ht : taskOk t = false) :
    Calls Try.prog 15 #[.agg #[.slice A n c, .int .i64 L.r0, .int .i64 L.r1, .int .i64 L.r2, .int .i64 L.r3, .int .i64 L.r4, .int .i64 L.r5], .agg #[.string t.pk, .string t.ts, .int .i64 t.env, .int .i64 t.cost], .int .i64 rev] w fun e w' => e = .returned (.tuple #[.agg #[.slice none 0 0, .int .i64 0, .int .i64 0, .int .i64 0, .int .i64 0, .int .i64 0, .int .i64 0], .int .i64 0, .int .i64 1]) ∧ Below w.heap.size w w' := by
  have hN := hide hn; clear hn
  go_enter Try.func15, Try.ntmps15
  go_wp2_with (first | (go_at_call 11; refine (check_any A c n L _ av (((hR.alloc _).alloc _).alloc _) hN.out (by omega)).mono ?_; rintro e w1 ⟨rfl, hb1⟩; obtain ⟨hc1, hf1, hz1⟩ := gcell (grown_of_below hb1 none) (w.heap.size + 3) (by first | (simp; done) | (simp; omega)); have : w.heap.size < w1.heap.size := (by omega); have : w.heap.size + 1 < w1.heap.size := (by omega); have : w.heap.size + 2 < w1.heap.size := (by omega)) | (go_at_call 40; refine (shcheck_one w1.heap.size t _ (by unfold TaskAt; refine ⟨?_, ?_, ?_, ?_⟩ <;> go_simp)).mono ?_; rintro e w2 ⟨rfl, hb2⟩; obtain ⟨hc2, hf2, hz2⟩ := gcell (grown_of_below hb2 none) (w1.heap.size + 1) (by simp); have : w1.heap.size < w2.heap.size := (by omega); have : w.heap.size < w2.heap.size := (by omega); have : w.heap.size + 1 < w2.heap.size := (by omega); have : w.heap.size + 2 < w2.heap.size := (by omega)))
  refine bodyPost_ret (by simp [results, Try.results15, go_sem, *]) rfl ⟨rfl, ?_⟩
  (refine Fr.below (S := fun _ => False) ?_ (Nat.le_refl _) (fun _ _ h => h); (repeat' first | (with_reducible refine Fr.setCell ?_ (Or.inl (by first | (simp; done) | (simp; omega))) _) | (with_reducible refine Fr.alloc ?_ _) | (with_reducible refine Fr.drew ?_)); exact ((((((Fr.refl w _).alloc _).alloc _).alloc _).below_ hb1).alloc _).below_ hb2)

set_option maxRecDepth 100000 in
set_option maxHeartbeats 2000000 in
theorem plan_rev (w : World) (av : Option Nat) (A : Option Addr) (c n : Nat) (L : Ld) (hR : Rs w av 10 Tk.vals A L.tks) (hn : L.tks.length = n) (hc63 : n ≤ 4294967296) (t : Tk) (rev : Int) (hok : L.ok = true) (ht : taskOk t = true) (hr : revB rev = false) :
    Calls Try.prog 15 #[.agg #[.slice A n c, .int .i64 L.r0, .int .i64 L.r1, .int .i64 L.r2, .int .i64 L.r3, .int .i64 L.r4, .int .i64 L.r5], .agg #[.string t.pk, .string t.ts, .int .i64 t.env, .int .i64 t.cost], .int .i64 rev] w fun e w' => e = .returned (.tuple #[.agg #[.slice none 0 0, .int .i64 0, .int .i64 0, .int .i64 0, .int .i64 0, .int .i64 0, .int .i64 0], .int .i64 0, .int .i64 3]) ∧ Below w.heap.size w w' := by
  have hN := hide hn; clear hn
  have hq : ¬ (1 ≤ rev ∧ rev ≤ 1073741824) := by simp [revB] at hr; omega
  have HR := hide hq
  clear hr hq
  go_enter Try.func15, Try.ntmps15
  go_wp2_with (first | (go_at_call 11; refine (check_any A c n L _ av (((hR.alloc _).alloc _).alloc _) hN.out (by omega)).mono ?_; rintro e w1 ⟨rfl, hb1⟩; obtain ⟨hc1, hf1, hz1⟩ := gcell (grown_of_below hb1 none) (w.heap.size + 3) (by first | (simp; done) | (simp; omega)); have : w.heap.size < w1.heap.size := (by omega); have : w.heap.size + 1 < w1.heap.size := (by omega); have : w.heap.size + 2 < w1.heap.size := (by omega)) | (go_at_call 40; refine (shcheck_one w1.heap.size t _ (by unfold TaskAt; refine ⟨?_, ?_, ?_, ?_⟩ <;> go_simp)).mono ?_; rintro e w2 ⟨rfl, hb2⟩; obtain ⟨hc2, hf2, hz2⟩ := gcell (grown_of_below hb2 none) (w1.heap.size + 1) (by simp); have : w1.heap.size < w2.heap.size := (by omega); have : w.heap.size < w2.heap.size := (by omega); have : w.heap.size + 1 < w2.heap.size := (by omega); have : w.heap.size + 2 < w2.heap.size := (by omega)))
  all_goals first | (exfalso; have := HR.out; omega) | skip
  all_goals
   refine bodyPost_ret (by simp [results, Try.results15, go_sem, *]) rfl ⟨rfl, ?_⟩
   (refine Fr.below (S := fun _ => False) ?_ (Nat.le_refl _) (fun _ _ h => h); (repeat' first | (with_reducible refine Fr.setCell ?_ (Or.inl (by first | (simp; done) | (simp; omega))) _) | (with_reducible refine Fr.alloc ?_ _) | (with_reducible refine Fr.drew ?_)); exact ((((((Fr.refl w _).alloc _).alloc _).alloc _).below_ hb1).alloc _).below_ hb2)

set_option maxRecDepth 100000 in
set_option maxHeartbeats 2000000 in
theorem plan_full (w : World) (av : Option Nat) (A : Option Addr) (c n : Nat) (L : Ld) (hR : Rs w av 10 Tk.vals A L.tks) (hn : L.tks.length = n) (hc63 : n ≤ 4294967296) (t : Tk) (rev : Int) (hok : L.ok = true) (ht : taskOk t = true) (hr : revB rev = true) (hf : n = 128) :
    Calls Try.prog 15 #[.agg #[.slice A n c, .int .i64 L.r0, .int .i64 L.r1, .int .i64 L.r2, .int .i64 L.r3, .int .i64 L.r4, .int .i64 L.r5], .agg #[.string t.pk, .string t.ts, .int .i64 t.env, .int .i64 t.cost], .int .i64 rev] w fun e w' => e = .returned (.tuple #[.agg #[.slice none 0 0, .int .i64 0, .int .i64 0, .int .i64 0, .int .i64 0, .int .i64 0, .int .i64 0], .int .i64 0, .int .i64 42]) ∧ Below w.heap.size w w' := by
  have hN := hide hn; clear hn
  have hq3 : (n : Int) = 128 := by omega
  clear hf
  have hq1 : 1 ≤ rev := by simp [revB] at hr; omega
  have hq2 : rev ≤ 1073741824 := by simp [revB] at hr; omega
  clear hr
  go_enter Try.func15, Try.ntmps15
  go_wp2_with (first | (go_at_call 11; refine (check_any A c n L _ av (((hR.alloc _).alloc _).alloc _) hN.out (by omega)).mono ?_; rintro e w1 ⟨rfl, hb1⟩; obtain ⟨hc1, hf1, hz1⟩ := gcell (grown_of_below hb1 none) (w.heap.size + 3) (by first | (simp; done) | (simp; omega)); have : w.heap.size < w1.heap.size := (by omega); have : w.heap.size + 1 < w1.heap.size := (by omega); have : w.heap.size + 2 < w1.heap.size := (by omega)) | (go_at_call 40; refine (shcheck_one w1.heap.size t _ (by unfold TaskAt; refine ⟨?_, ?_, ?_, ?_⟩ <;> go_simp)).mono ?_; rintro e w2 ⟨rfl, hb2⟩; obtain ⟨hc2, hf2, hz2⟩ := gcell (grown_of_below hb2 none) (w1.heap.size + 1) (by simp); have : w1.heap.size < w2.heap.size := (by omega); have : w.heap.size < w2.heap.size := (by omega); have : w.heap.size + 1 < w2.heap.size := (by omega); have : w.heap.size + 2 < w2.heap.size := (by omega)))
  refine bodyPost_ret (by simp [results, Try.results15, go_sem, *]) rfl ⟨rfl, ?_⟩
  (refine Fr.below (S := fun _ => False) ?_ (Nat.le_refl _) (fun _ _ h => h); (repeat' first | (with_reducible refine Fr.setCell ?_ (Or.inl (by first | (simp; done) | (simp; omega))) _) | (with_reducible refine Fr.alloc ?_ _) | (with_reducible refine Fr.drew ?_)); exact ((((((Fr.refl w _).alloc _).alloc _).alloc _).below_ hb1).alloc _).below_ hb2)

end Go.Proofs.Ytjhkgoengoiljaa

/- Contracts: RPLAN, the errors. -/
namespace Go.Proofs.Ytjhkgoengoiljaa
open Go.RowKit

set_option maxRecDepth 100000 in
set_option maxHeartbeats 2000000 in
theorem rplan_bad (w : World) (av : Option Nat) (A : Option Addr) (c n : Nat) (L : Ld) (hR : Rs w av 10 Tk.vals A L.tks) (hn : L.tks.length = n) (hc63 : n ≤ 4294967296) (t : Tk) (rev : Int) (hok : L.ok = false) :
    Calls Try.prog 34 #[.agg #[.slice A n c, .int .i64 L.r0, .int .i64 L.r1, .int .i64 L.r2, .int .i64 L.r3, .int .i64 L.r4, .int .i64 L.r5], .agg #[.string t.pk, .string t.ts, .int .i64 t.env, .int .i64 t.cost], .int .i64 rev] w fun e w' => e = .returned (.tuple #[.agg #[.slice none 0 0, .int .i64 0, .int .i64 0, .int .i64 0, .int .i64 0, .int .i64 0, .int .i64 0], .int .i64 0, .int .i64 1]) ∧ Below w.heap.size w w' := by
  have hN := hide hn; clear hn
  go_enter Try.func34, Try.ntmps34
  go_wp2_with (go_at_call 30; refine (rcheck_any A c n L _ av (((hR.alloc _).alloc _).alloc _) hN.out (by omega)).mono ?_; rintro e w1 ⟨rfl, hb1⟩; obtain ⟨hc1, hf1, hz1⟩ := gcell (grown_of_below hb1 none) (w.heap.size + 3) (by first | (simp; done) | (simp; omega)); have : w.heap.size < w1.heap.size := (by omega); have : w.heap.size + 1 < w1.heap.size := (by omega); have : w.heap.size + 2 < w1.heap.size := (by omega))
  refine bodyPost_ret (by simp [results, Try.results34, go_sem, hc1]) rfl ⟨rfl, ?_⟩
  (refine Fr.below (S := fun _ => False) ?_ (Nat.le_refl _) (fun _ _ h => h); (repeat' first | (with_reducible refine Fr.setCell ?_ (Or.inl (by first | (simp; done) | (simp; omega))) _) | (with_reducible refine Fr.alloc ?_ _) | (with_reducible refine Fr.drew ?_)); exact ((((Fr.refl w _).alloc _).alloc _).alloc _).below_ hb1)

set_option maxRecDepth 100000 in
set_option maxHeartbeats 2000000 in
theorem rplan_task (w : World) (av : Option Nat) (A : Option Addr) (c n : Nat) (L : Ld) (hR : Rs w av 10 Tk.vals A L.tks) (hn : L.tks.length = n) (hc63 : n ≤ 4294967296) (t : Tk) (rev : Int) (hok : L.ok = true) (ht : taskOk t = false) :
    Calls Try.prog 34 #[.agg #[.slice A n c, .int .i64 L.r0, .int .i64 L.r1, .int .i64 L.r2, .int .i64 L.r3, .int .i64 L.r4, .int .i64 L.r5], .agg #[.string t.pk, .string t.ts, .int .i64 t.env, .int .i64 t.cost], .int .i64 rev] w fun e w' => e = .returned (.tuple #[.agg #[.slice none 0 0, .int .i64 0, .int .i64 0, .int .i64 0, .int .i64 0, .int .i64 0, .int .i64 0], .int .i64 0, .int .i64 1]) ∧ Below w.heap.size w w' := by
  have hN := hide hn; clear hn
  go_enter Try.func34, Try.ntmps34
  go_wp2_with (first | (go_at_call 30; refine (rcheck_any A c n L _ av (((hR.alloc _).alloc _).alloc _) hN.out (by omega)).mono ?_; rintro e w1 ⟨rfl, hb1⟩; obtain ⟨hc1, hf1, hz1⟩ := gcell (grown_of_below hb1 none) (w.heap.size + 3) (by first | (simp; done) | (simp; omega)); have : w.heap.size < w1.heap.size := (by omega); have : w.heap.size + 1 < w1.heap.size := (by omega); have : w.heap.size + 2 < w1.heap.size := (by omega)) | (go_at_call 53; refine (r30check_one w1.heap.size t _ (by unfold TaskAt; refine ⟨?_, ?_, ?_, ?_⟩ <;> go_simp) (by simp)).mono ?_; rintro e w2 ⟨rfl, hb2⟩; obtain ⟨hc2, hf2, hz2⟩ := gcell (grown_of_below hb2 none) (w1.heap.size + 1) (by simp); have : w1.heap.size < w2.heap.size := (by omega); have : w.heap.size < w2.heap.size := (by omega); have : w.heap.size + 1 < w2.heap.size := (by omega); have : w.heap.size + 2 < w2.heap.size := (by omega)))
  refine bodyPost_ret (by simp [results, Try.results34, go_sem, *]) rfl ⟨rfl, ?_⟩
  (refine Fr.below (S := fun _ => False) ?_ (Nat.le_refl _) (fun _ _ h => h); (repeat' first | (with_reducible refine Fr.setCell ?_ (Or.inl (by first | (simp; done) | (simp; omega))) _) | (with_reducible refine Fr.alloc ?_ _) | (with_reducible refine Fr.drew ?_)); exact ((((((Fr.refl w _).alloc _).alloc _).alloc _).below_ hb1).alloc _).below_ hb2)

set_option maxRecDepth 100000 in
set_option maxHeartbeats 2000000 in
theorem rplan_rev (w : World) (av : Option Nat) (A : Option Addr) (c n : Nat) (L : Ld) (hR : Rs w av 10 Tk.vals A L.tks) (hn : L.tks.length = n) (hc63 : n ≤ 4294967296) (t : Tk) (rev : Int) (hok : L.ok = true) (ht : taskOk t = true) (hr : revB rev = false) :
    Calls Try.prog 34 #[.agg #[.slice A n c, .int .i64 L.r0, .int .i64 L.r1, .int .i64 L.r2, .int .i64 L.r3, .int .i64 L.r4, .int .i64 L.r5], .agg #[.string t.pk, .string t.ts, .int .i64 t.env, .int .i64 t.cost], .int .i64 rev] w fun e w' => e = .returned (.tuple #[.agg #[.slice none 0 0, .int .i64 0, .int .i64 0, .int .i64 0, .int .i64 0, .int .i64 0, .int .i64 0], .int .i64 0, .int .i64 3]) ∧ Below w.heap.size w w' := by
  have hN := hide hn; clear hn
  have hq : ¬ (1 ≤ rev ∧ rev ≤ 1073741824) := by simp [revB] at hr; omega
  have HR := hide hq
  clear hr hq
  go_enter Try.func34, Try.ntmps34
  go_wp2_with (first | (go_at_call 30; refine (rcheck_any A c n L _ av (((hR.alloc _).alloc _).alloc _) hN.out (by omega)).mono ?_; rintro e w1 ⟨rfl, hb1⟩; obtain ⟨hc1, hf1, hz1⟩ := gcell (grown_of_below hb1 none) (w.heap.size + 3) (by first | (simp; done) | (simp; omega)); have : w.heap.size < w1.heap.size := (by omega); have : w.heap.size + 1 < w1.heap.size := (by omega); have : w.heap.size + 2 < w1.heap.size := (by omega)) | (go_at_call 53; refine (r30check_one w1.heap.size t _ (by unfold TaskAt; refine ⟨?_, ?_, ?_, ?_⟩ <;> go_simp) (by simp)).mono ?_; rintro e w2 ⟨rfl, hb2⟩; obtain ⟨hc2, hf2, hz2⟩ := gcell (grown_of_below hb2 none) (w1.heap.size + 1) (by simp); have : w1.heap.size < w2.heap.size := (by omega); have : w.heap.size < w2.heap.size := (by omega); have : w.heap.size + 1 < w2.heap.size := (by omega); have : w.heap.size + 2 < w2.heap.size := (by omega)))
  all_goals first | (exfalso; have := HR.out; omega) | skip
  all_goals
   refine bodyPost_ret (by simp [results, Try.results34, go_sem, *]) rfl ⟨rfl, ?_⟩
   (refine Fr.below (S := fun _ => False) ?_ (Nat.le_refl _) (fun _ _ h => h); (repeat' first | (with_reducible refine Fr.setCell ?_ (Or.inl (by first | (simp; done) | (simp; omega))) _) | (with_reducible refine Fr.alloc ?_ _) | (with_reducible refine Fr.drew ?_)); exact ((((((Fr.refl w _).alloc _).alloc _).alloc _).below_ hb1).alloc _).below_ hb2)

set_option maxRecDepth 100000 in
set_option maxHeartbeats 2000000 in
theorem rplan_full (w : World) (av : Option Nat) (A : Option Addr) (c n : Nat) (L : Ld) (hR : Rs w av 10 Tk.vals A L.tks) (hn : L.tks.length = n) (hc63 : n ≤ 4294967296) (t : Tk) (rev : Int) (hok : L.ok = true) (ht : taskOk t = true) (hr : revB rev = true) (hf : n = 128) :
    Calls Try.prog 34 #[.agg #[.slice A n c, .int .i64 L.r0, .int .i64 L.r1, .int .i64 L.r2, .int .i64 L.r3, .int .i64 L.r4, .int .i64 L.r5], .agg #[.string t.pk, .string t.ts, .int .i64 t.env, .int .i64 t.cost], .int .i64 rev] w fun e w' => e = .returned (.tuple #[.agg #[.slice none 0 0, .int .i64 0, .int .i64 0, .int .i64 0, .int .i64 0, .int .i64 0, .int .i64 0], .int .i64 0, .int .i64 42]) ∧ Below w.heap.size w w' := by
  have hN := hide hn; clear hn
  have hq3 : (n : Int) = 128 := by omega
  clear hf
  have hq1 : 1 ≤ rev := by simp [revB] at hr; omega
  have hq2 : rev ≤ 1073741824 := by simp [revB] at hr; omega
  clear hr
  go_enter Try.func34, Try.ntmps34
  go_wp2_with (first | (go_at_call 30; refine (rcheck_any A c n L _ av (((hR.alloc _).alloc _).alloc _) hN.out (by omega)).mono ?_; rintro e w1 ⟨rfl, hb1⟩; obtain ⟨hc1, hf1, hz1⟩ := gcell (grown_of_below hb1 none) (w.heap.size + 3) (by first | (simp; done) | (simp; omega)); have : w.heap.size < w1.heap.size := (by omega); have : w.heap.size + 1 < w1.heap.size := (by omega); have : w.heap.size + 2 < w1.heap.size := (by omega)) | (go_at_call 53; refine (r30check_one w1.heap.size t _ (by unfold TaskAt; refine ⟨?_, ?_, ?_, ?_⟩ <;> go_simp) (by simp)).mono ?_; rintro e w2 ⟨rfl, hb2⟩; obtain ⟨hc2, hf2, hz2⟩ := gcell (grown_of_below hb2 none) (w1.heap.size + 1) (by simp); have : w1.heap.size < w2.heap.size := (by omega); have : w.heap.size < w2.heap.size := (by omega); have : w.heap.size + 1 < w2.heap.size := (by omega); have : w.heap.size + 2 < w2.heap.size := (by omega)))
  refine bodyPost_ret (by simp [results, Try.results34, go_sem, *]) rfl ⟨rfl, ?_⟩
  (refine Fr.below (S := fun _ => False) ?_ (Nat.le_refl _) (fun _ _ h => h); (repeat' first | (with_reducible refine Fr.setCell ?_ (Or.inl (by first | (simp; done) | (simp; omega))) _) | (with_reducible refine Fr.alloc ?_ _) | (with_reducible refine Fr.drew ?_)); exact ((((((Fr.refl w _).alloc _).alloc _).alloc _).below_ hb1).alloc _).below_ hb2)

end Go.Proofs.Ytjhkgoengoiljaa

/- A region that draws its order, its reads first: the tail runs in a world with a name. -/
namespace Go.Proofs.Ytjhkgoengoiljaa
open Go.RowKit

theorem still_tail {P : Program} {id : Nat} {Q : Exit → Act → World → Prop} {a : Act} {w : World} {l : List Oper} (n : Nat) (hm : P.follows .mixedOrders = true) (hB : Region.lexTailB .any l.toArray n = true)
    (h : ∀ W, w.drew = W → wpStill P l.toArray W (fun a' => wpList P l.toArray Q (l.drop n) a' W) (l.take n) a) : (Code.region id l.toArray true).wp P Q a w :=
  wp_region_still_tail n hm hB (h _ rfl)

end Go.Proofs.Ytjhkgoengoiljaa

/- Contracts: Plan, the new ticket. -/
namespace Go.Proofs.Ytjhkgoengoiljaa
open Go.RowKit

theorem vals_of {w : World} {b : Nat} {t : Tk} (h : TkAt w b 0 t) : ∀ j u, t.vals[j]? = some u → w.cell? ⟨b, j, none⟩ = some u := by
  obtain ⟨h0, h1, h2, h3, h4, h5, h6, h7, h8, h9⟩ := h
  intro j u hu
  match j with
  | 0 => simp [Tk.vals] at hu; subst hu; simpa using h0
  | 1 => simp [Tk.vals] at hu; subst hu; simpa using h1
  | 2 => simp [Tk.vals] at hu; subst hu; simpa using h2
  | 3 => simp [Tk.vals] at hu; subst hu; simpa using h3
  | 4 => simp [Tk.vals] at hu; subst hu; simpa using h4
  | 5 => simp [Tk.vals] at hu; subst hu; simpa using h5
  | 6 => simp [Tk.vals] at hu; subst hu; simpa using h6
  | 7 => simp [Tk.vals] at hu; subst hu; simpa using h7
  | 8 => simp [Tk.vals] at hu; subst hu; simpa using h8
  | 9 => simp [Tk.vals] at hu; subst hu; simpa using h9
  | n + 10 => simp [Tk.vals] at hu

set_option maxRecDepth 100000 in
set_option maxHeartbeats 2000000 in
theorem plan_ok (w : World) (av : Option Nat) (A : Option Addr) (c n : Nat) (L : Ld) (hR : Rs w av 10 Tk.vals A L.tks) (hn : L.tks.length = n) (hc63 : n ≤ 4294967296) (t : Tk) (rev : Int) (hok : L.ok = true) (ht : taskOk t = true) (hr : revB rev = true) (hlt : n < 128) (hav : ∀ x, av = some x → x < w.heap.size) :
    Calls Try.prog 15 #[.agg #[.slice A n c, .int .i64 L.r0, .int .i64 L.r1, .int .i64 L.r2, .int .i64 L.r3, .int .i64 L.r4, .int .i64 L.r5], .agg #[.string t.pk, .string t.ts, .int .i64 t.env, .int .i64 t.cost], .int .i64 rev] w fun e w' => ∃ A' c', e = .returned (.tuple #[.agg #[.slice A' (n + 1) c', .int .i64 L.r0, .int .i64 L.r1, .int .i64 L.r2, .int .i64 L.r3, .int .i64 L.r4, .int .i64 L.r5], .int .i64 n, .int .i64 0]) ∧
      Rs w' av 10 Tk.vals A' (L.tks ++ [{ t with rev := rev, st := 0, att := 0, run := 0, ep := 0, out := 0 }]) ∧ Below w.heap.size w w' := by
  have hN := hide hn; clear hn
  have hq1 : 1 ≤ rev := by simp [revB] at hr; omega
  have hq2 : rev ≤ 1073741824 := by simp [revB] at hr; omega
  clear hr
  have hq3 : ¬ (n : Int) = 128 := by omega
  have HV := hide hav
  clear hav
  go_enter Try.func15, Try.ntmps15
  go_upto_region 8 with (first
    | (go_at_call 11; refine (check_any A c n L _ av (((hR.alloc _).alloc _).alloc _) hN.out (by omega)).mono ?_; rintro e w1 ⟨rfl, hb1⟩; obtain ⟨hc1, hf1, hz1⟩ := gcell (grown_of_below hb1 none) (w.heap.size + 3) (by first | (simp; done) | (simp; omega)); have : w.heap.size < w1.heap.size := (by omega); have : w.heap.size + 1 < w1.heap.size := (by omega); have : w.heap.size + 2 < w1.heap.size := (by omega))
    | (go_at_call 40; refine (shcheck_one w1.heap.size t _ (by unfold TaskAt; refine ⟨?_, ?_, ?_, ?_⟩ <;> go_simp)).mono ?_; rintro e w2 ⟨rfl, hb2⟩; obtain ⟨hc2, hf2, hz2⟩ := gcell (grown_of_below hb2 none) (w1.heap.size + 1) (by simp); have : w1.heap.size < w2.heap.size := (by omega); have : w.heap.size < w2.heap.size := (by omega); have : w.heap.size + 1 < w2.heap.size := (by omega); have : w.heap.size + 2 < w2.heap.size := (by omega))
    | (go_at_call 41; refine (copied_any A c n L _ av (((((((hR.alloc _).alloc _).alloc _)).below hb1).alloc _).below hb2) hN.out (by omega)).mono ?_; rintro e w3 ⟨g, rfl, hown3, hb3⟩; obtain ⟨hc3, hf3, hz3⟩ := gcell (grown_of_below hb3 none) w2.heap.size (by simp); have hgg := (hown3.lt g rfl).1; have hgl := (hown3.lt g rfl).2; have : w.heap.size < w3.heap.size := (by omega); have : w.heap.size + 1 < w3.heap.size := (by omega); have : w.heap.size + 2 < w3.heap.size := (by omega); have HO := hide hown3; clear hown3; have p0 : w3.cell? ⟨w.heap.size, 0, none⟩ = some (.slice A n c) := ((hc3 (w.heap.size) (0) (by omega) (by first | (simp; done) | (simp; omega))).trans (by first | (with_reducible assumption) | go_simp)); have p1 : w3.cell? ⟨w.heap.size, 1, none⟩ = some (.int .i64 L.r0) := ((hc3 (w.heap.size) (1) (by omega) (by first | (simp; done) | (simp; omega))).trans (by first | (with_reducible assumption) | go_simp)); have p2 : w3.cell? ⟨w.heap.size, 2, none⟩ = some (.int .i64 L.r1) := ((hc3 (w.heap.size) (2) (by omega) (by first | (simp; done) | (simp; omega))).trans (by first | (with_reducible assumption) | go_simp)); have p3 : w3.cell? ⟨w.heap.size, 3, none⟩ = some (.int .i64 L.r2) := ((hc3 (w.heap.size) (3) (by omega) (by first | (simp; done) | (simp; omega))).trans (by first | (with_reducible assumption) | go_simp)); have p4 : w3.cell? ⟨w.heap.size, 4, none⟩ = some (.int .i64 L.r3) := ((hc3 (w.heap.size) (4) (by omega) (by first | (simp; done) | (simp; omega))).trans (by first | (with_reducible assumption) | go_simp)); have p5 : w3.cell? ⟨w.heap.size, 5, none⟩ = some (.int .i64 L.r4) := ((hc3 (w.heap.size) (5) (by omega) (by first | (simp; done) | (simp; omega))).trans (by first | (with_reducible assumption) | go_simp)); have p6 : w3.cell? ⟨w.heap.size, 6, none⟩ = some (.int .i64 L.r5) := ((hc3 (w.heap.size) (6) (by omega) (by first | (simp; done) | (simp; omega))).trans (by first | (with_reducible assumption) | go_simp)); have q0 : w3.cell? ⟨w.heap.size + 2, 0, none⟩ = some (.slice none 0 0) := ((hc3 (w.heap.size + 2) (0) (by omega) (by first | (simp; done) | (simp; omega))).trans (by first | (with_reducible assumption) | go_simp)); have q1 : w3.cell? ⟨w.heap.size + 2, 1, none⟩ = some (.int .i64 0) := ((hc3 (w.heap.size + 2) (1) (by omega) (by first | (simp; done) | (simp; omega))).trans (by first | (with_reducible assumption) | go_simp)); have q2 : w3.cell? ⟨w.heap.size + 2, 2, none⟩ = some (.int .i64 0) := ((hc3 (w.heap.size + 2) (2) (by omega) (by first | (simp; done) | (simp; omega))).trans (by first | (with_reducible assumption) | go_simp)); have q3 : w3.cell? ⟨w.heap.size + 2, 3, none⟩ = some (.int .i64 0) := ((hc3 (w.heap.size + 2) (3) (by omega) (by first | (simp; done) | (simp; omega))).trans (by first | (with_reducible assumption) | go_simp)); have q4 : w3.cell? ⟨w.heap.size + 2, 4, none⟩ = some (.int .i64 0) := ((hc3 (w.heap.size + 2) (4) (by omega) (by first | (simp; done) | (simp; omega))).trans (by first | (with_reducible assumption) | go_simp)); have q5 : w3.cell? ⟨w.heap.size + 2, 5, none⟩ = some (.int .i64 0) := ((hc3 (w.heap.size + 2) (5) (by omega) (by first | (simp; done) | (simp; omega))).trans (by first | (with_reducible assumption) | go_simp)); have q6 : w3.cell? ⟨w.heap.size + 2, 6, none⟩ = some (.int .i64 0) := ((hc3 (w.heap.size + 2) (6) (by omega) (by first | (simp; done) | (simp; omega))).trans (by first | (with_reducible assumption) | go_simp)); have t0 : w3.cell? ⟨w.heap.size + 1, 0, none⟩ = some (.string t.pk) := ((hc3 (w.heap.size + 1) (0) (by omega) (by first | (simp; done) | (simp; omega))).trans (by first | (with_reducible assumption) | go_simp)); have t1 : w3.cell? ⟨w.heap.size + 1, 1, none⟩ = some (.string t.ts) := ((hc3 (w.heap.size + 1) (1) (by omega) (by first | (simp; done) | (simp; omega))).trans (by first | (with_reducible assumption) | go_simp)); have t2 : w3.cell? ⟨w.heap.size + 1, 2, none⟩ = some (.int .i64 t.env) := ((hc3 (w.heap.size + 1) (2) (by omega) (by first | (simp; done) | (simp; omega))).trans (by first | (with_reducible assumption) | go_simp)); have t3 : w3.cell? ⟨w.heap.size + 1, 3, none⟩ = some (.int .i64 t.cost) := ((hc3 (w.heap.size + 1) (3) (by omega) (by first | (simp; done) | (simp; omega))).trans (by first | (with_reducible assumption) | go_simp)); have g0 : ∀ j, w3.frozen? ⟨w.heap.size, j, none⟩ = false := (fun j => (hf3 (w.heap.size) j (by omega) (by first | (simp; done) | (simp; omega))).trans (by go_simp)); have g1 : ∀ j, w3.frozen? ⟨w.heap.size + 2, j, none⟩ = false := (fun j => (hf3 (w.heap.size + 2) j (by omega) (by first | (simp; done) | (simp; omega))).trans (by go_simp)); clear hc1 hc2 hc3 hf1 hf2 hf3)
    | fail)
  go_upto_region 9 with (first
    | (at_builtin; refine wl_append _ rfl (.tmp 37) (.tmp 41) 23 rfl w2.heap.size 43 _ 10 96 Try.underlying23 info43 rfl (by decide) (.slice (some ⟨g, 0, none⟩) n (n + 1)) n L.tks rfl (by ((repeat' first | (with_reducible refine own_far ?_ (by simp [Value.ownBlock]; omega) _) | (with_reducible refine own_drew ?_) | (with_reducible refine World.ownsRow.alloc ?_ _)); exact HO.out)) (some ⟨w3.heap.size, 0, none⟩) 1 1 [{ t with rev := rev, st := 0, att := 0, run := 0, ep := 0, out := 0 }] rfl (rs_one (by intro h; have := HV.out _ h.symm; omega) (by simp) (vals_of (by refine ⟨?_, ?_, ?_, ?_, ?_, ?_, ?_, ?_, ?_, ?_⟩ <;> go_simp))) rfl Tk.vals_len Tk.vals_one (by omega) (by decide) (by simp; omega) ?_; intro A1 c1 w4 hown4 hg4 hat4; obtain ⟨g4, cap4, hv4, hgb4, hgl4⟩ := hown4.form (by omega); injection hv4 with hv1 hv2 hv3; subst hv1; subst hv3; clear hv2; obtain ⟨hc4, hf4, hz4⟩ := gcell (row := some g) hg4 w3.heap.size (by simp); have p0 : w4.cell? ⟨w.heap.size, 0, none⟩ = some (.slice (some ⟨g, 0, none⟩) n (n + 1)) := ((hc4 (w.heap.size) (0) (by omega) (by first | (simp; done) | (simp; omega))).trans (by first | (with_reducible assumption) | go_simp)); have p1 : w4.cell? ⟨w.heap.size, 1, none⟩ = some (.int .i64 L.r0) := ((hc4 (w.heap.size) (1) (by omega) (by first | (simp; done) | (simp; omega))).trans (by first | (with_reducible assumption) | go_simp)); have p2 : w4.cell? ⟨w.heap.size, 2, none⟩ = some (.int .i64 L.r1) := ((hc4 (w.heap.size) (2) (by omega) (by first | (simp; done) | (simp; omega))).trans (by first | (with_reducible assumption) | go_simp)); have p3 : w4.cell? ⟨w.heap.size, 3, none⟩ = some (.int .i64 L.r2) := ((hc4 (w.heap.size) (3) (by omega) (by first | (simp; done) | (simp; omega))).trans (by first | (with_reducible assumption) | go_simp)); have p4 : w4.cell? ⟨w.heap.size, 4, none⟩ = some (.int .i64 L.r3) := ((hc4 (w.heap.size) (4) (by omega) (by first | (simp; done) | (simp; omega))).trans (by first | (with_reducible assumption) | go_simp)); have p5 : w4.cell? ⟨w.heap.size, 5, none⟩ = some (.int .i64 L.r4) := ((hc4 (w.heap.size) (5) (by omega) (by first | (simp; done) | (simp; omega))).trans (by first | (with_reducible assumption) | go_simp)); have p6 : w4.cell? ⟨w.heap.size, 6, none⟩ = some (.int .i64 L.r5) := ((hc4 (w.heap.size) (6) (by omega) (by first | (simp; done) | (simp; omega))).trans (by first | (with_reducible assumption) | go_simp)); have q0 : w4.cell? ⟨w.heap.size + 2, 0, none⟩ = some (.slice none 0 0) := ((hc4 (w.heap.size + 2) (0) (by omega) (by first | (simp; done) | (simp; omega))).trans (by first | (with_reducible assumption) | go_simp)); have q1 : w4.cell? ⟨w.heap.size + 2, 1, none⟩ = some (.int .i64 0) := ((hc4 (w.heap.size + 2) (1) (by omega) (by first | (simp; done) | (simp; omega))).trans (by first | (with_reducible assumption) | go_simp)); have q2 : w4.cell? ⟨w.heap.size + 2, 2, none⟩ = some (.int .i64 0) := ((hc4 (w.heap.size + 2) (2) (by omega) (by first | (simp; done) | (simp; omega))).trans (by first | (with_reducible assumption) | go_simp)); have q3 : w4.cell? ⟨w.heap.size + 2, 3, none⟩ = some (.int .i64 0) := ((hc4 (w.heap.size + 2) (3) (by omega) (by first | (simp; done) | (simp; omega))).trans (by first | (with_reducible assumption) | go_simp)); have q4 : w4.cell? ⟨w.heap.size + 2, 4, none⟩ = some (.int .i64 0) := ((hc4 (w.heap.size + 2) (4) (by omega) (by first | (simp; done) | (simp; omega))).trans (by first | (with_reducible assumption) | go_simp)); have q5 : w4.cell? ⟨w.heap.size + 2, 5, none⟩ = some (.int .i64 0) := ((hc4 (w.heap.size + 2) (5) (by omega) (by first | (simp; done) | (simp; omega))).trans (by first | (with_reducible assumption) | go_simp)); have q6 : w4.cell? ⟨w.heap.size + 2, 6, none⟩ = some (.int .i64 0) := ((hc4 (w.heap.size + 2) (6) (by omega) (by first | (simp; done) | (simp; omega))).trans (by first | (with_reducible assumption) | go_simp)); have g2 : ∀ j, w4.frozen? ⟨w.heap.size, j, none⟩ = false := (fun j => (hf4 (w.heap.size) j (by omega) (by first | (simp; done) | (simp; omega))).trans (by go_simp)); have g3 : ∀ j, w4.frozen? ⟨w.heap.size + 2, j, none⟩ = false := (fun j => (hf4 (w.heap.size + 2) j (by omega) (by first | (simp; done) | (simp; omega))).trans (by go_simp)); clear hc4 hf4 t0 t1 t2 t3 g0 g1; have HO4 := hide hown4; have HG4 := hide hg4; clear hown4 hg4 hat4)
    | fail)
  generalize hW : World.setCell w4 _ _ = w5
  have p0 : w5.cell? ⟨w.heap.size, 0, none⟩ = some (.slice (some ⟨g4, 0, none⟩) (n + 1) c1) := (by rw [← hW]; clear hW; go_simp); have p1 : w5.cell? ⟨w.heap.size, 1, none⟩ = some (.int .i64 L.r0) := (by rw [← hW]; clear hW; go_simp); have p2 : w5.cell? ⟨w.heap.size, 2, none⟩ = some (.int .i64 L.r1) := (by rw [← hW]; clear hW; go_simp); have p3 : w5.cell? ⟨w.heap.size, 3, none⟩ = some (.int .i64 L.r2) := (by rw [← hW]; clear hW; go_simp); have p4 : w5.cell? ⟨w.heap.size, 4, none⟩ = some (.int .i64 L.r3) := (by rw [← hW]; clear hW; go_simp); have p5 : w5.cell? ⟨w.heap.size, 5, none⟩ = some (.int .i64 L.r4) := (by rw [← hW]; clear hW; go_simp); have p6 : w5.cell? ⟨w.heap.size, 6, none⟩ = some (.int .i64 L.r5) := (by rw [← hW]; clear hW; go_simp)
  have q0 : w5.cell? ⟨w.heap.size + 2, 0, none⟩ = some (.slice none 0 0) := (by rw [← hW]; clear hW; go_simp); have q1 : w5.cell? ⟨w.heap.size + 2, 1, none⟩ = some (.int .i64 0) := (by rw [← hW]; clear hW; go_simp); have q2 : w5.cell? ⟨w.heap.size + 2, 2, none⟩ = some (.int .i64 0) := (by rw [← hW]; clear hW; go_simp); have q3 : w5.cell? ⟨w.heap.size + 2, 3, none⟩ = some (.int .i64 0) := (by rw [← hW]; clear hW; go_simp); have q4 : w5.cell? ⟨w.heap.size + 2, 4, none⟩ = some (.int .i64 0) := (by rw [← hW]; clear hW; go_simp); have q5 : w5.cell? ⟨w.heap.size + 2, 5, none⟩ = some (.int .i64 0) := (by rw [← hW]; clear hW; go_simp); have q6 : w5.cell? ⟨w.heap.size + 2, 6, none⟩ = some (.int .i64 0) := (by rw [← hW]; clear hW; go_simp)
  have g5 : ∀ j, w5.frozen? ⟨w.heap.size + 2, j, none⟩ = false := (by intro j; rw [← hW]; clear hW; go_simp)
  have HW := hide hW
  clear hW g2 g3
  go_region
  go_wp2_with fail
  refine bodyPost_ret (v := .tuple #[.agg #[.slice (some ⟨g4, 0, none⟩) (n + 1) c1, .int .i64 L.r0, .int .i64 L.r1, .int .i64 L.r2, .int .i64 L.r3, .int .i64 L.r4, .int .i64 L.r5], .int .i64 n, .int .i64 0]) (by simp [results, Try.results15, go_sem, *]) rfl ⟨some ⟨g4, 0, none⟩, c1, rfl, ?_, ?_⟩
  · refine Rs.of_own (base := w.heap.size) (n := n + 1) (c := c1) (e := 43) ?_ Tk.vals_len (by simp [hN.out]) HV.out
    have hW := HW.out
    clear HW
    subst hW
    ((repeat' first | (with_reducible refine own_far ?_ (by simp [Value.ownBlock]; omega) _) | (with_reducible refine own_drew ?_) | (with_reducible refine World.ownsRow.alloc ?_ _)); exact own_base HO4.out (by omega))
  · refine Fr.below (S := fun _ => False) ?_ (Nat.le_refl _) (fun _ _ h => h)
    have hW := HW.out
    clear HW
    subst hW
    (repeat' first | (with_reducible refine Fr.setCell ?_ (Or.inl (by first | (simp; done) | (simp; omega))) _) | (with_reducible refine Fr.alloc ?_ _) | (with_reducible refine Fr.drew ?_))
    refine Fr.grown (row := some g) ?_ HG4.out (by intro g' h; simp at h; omega)
    (repeat' first | (with_reducible refine Fr.setCell ?_ (Or.inl (by first | (simp; done) | (simp; omega))) _) | (with_reducible refine Fr.alloc ?_ _) | (with_reducible refine Fr.drew ?_))
    exact ((((((((Fr.refl w _).alloc _).alloc _).alloc _).below_ hb1).alloc _).below_ hb2).below_ hb3)

end Go.Proofs.Ytjhkgoengoiljaa
