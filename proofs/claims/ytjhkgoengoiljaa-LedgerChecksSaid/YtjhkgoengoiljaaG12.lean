/- Contracts of the functions that these laws reach: part 12: Contracts: Take's errors. -/
import Derived.Test.YtjhkgoengoiljaaG11
set_option linter.unusedVariables false
set_option linter.unusedSimpArgs false

/- Contracts: Take's errors. -/
namespace Go.Proofs.Ytjhkgoengoiljaa
open Go.RowKit

theorem kind_any (A : Option Addr) (n c : Nat) (L : Ld) (p : Rp) (w : World) (av : Option Nat) (hR : Rs w av 10 Tk.vals A L.tks) (hn : L.tks.length = n) (h63 : n ≤ 4294967296) :
    Calls Try.prog 46 #[.agg #[.slice A n c, .int .i64 L.r0, .int .i64 L.r1, .int .i64 L.r2, .int .i64 L.r3, .int .i64 L.r4, .int .i64 L.r5], .agg #[.int .i64 p.tick, .int .i64 p.att, .int .i64 p.run, .int .i64 p.ep, .int .i64 p.out]] w fun e w' => e = .returned (.int .i64 (L.kind p)) ∧ Below w.heap.size w w' := by
  cases hk : L.get? p.tick with
  | none =>
    have e1 : L.kind p = 4 := by simp [Ld.kind, hk]
    rw [e1]
    exact kind_none A n c L p w hn hk
  | some t =>
    have e1 : L.kind p = kindOf t p := by simp [Ld.kind, hk]
    rw [e1]
    obtain ⟨tick, att, run, ep, out⟩ := p
    obtain ⟨i, hi, hil, hit⟩ := get?_some hk
    dsimp only at hi
    subst hi
    exact kind_some A n c L i att run ep out t w av hR hn (by omega) h63 hit

set_option maxRecDepth 100000 in
set_option maxHeartbeats 2000000 in
theorem take_badrep (w : World) (av : Option Nat) (A : Option Addr) (c n : Nat) (L : Ld) (hR : Rs w av 10 Tk.vals A L.tks) (hn : L.tks.length = n) (hc63 : n ≤ 4294967296) (p : Rp) (hp : reportOk p = false) :
    Calls Try.prog 18 #[.agg #[.slice A n c, .int .i64 L.r0, .int .i64 L.r1, .int .i64 L.r2, .int .i64 L.r3, .int .i64 L.r4, .int .i64 L.r5], .agg #[.int .i64 p.tick, .int .i64 p.att, .int .i64 p.run, .int .i64 p.ep, .int .i64 p.out]] w fun e w' => e = .returned (.tuple #[.agg #[.slice none 0 0, .int .i64 0, .int .i64 0, .int .i64 0, .int .i64 0, .int .i64 0, .int .i64 0], .int .i64 0, .int .i64 1]) ∧ Below w.heap.size w w' := by
  have hN := hide hn; clear hn
  have HP := hide hp; clear hp
  cases hok : L.ok
  all_goals
    have HK := hide hok
    clear hok
    go_enter Try.func18, Try.ntmps18
    go_wp2_with (first
      | (go_at_call 45; refine (send_bad _ p HP.out).mono ?_; rintro e w1 ⟨rfl, hb1⟩; obtain ⟨hc1, hf1, hz1⟩ := gcell (grown_of_below hb1 none) (w.heap.size + 3) (by first | (simp; done) | (simp; omega)); have : w.heap.size < w1.heap.size := (by omega); have : w.heap.size + 1 < w1.heap.size := (by omega); have : w.heap.size + 2 < w1.heap.size := (by omega))
      | (go_at_call 11; refine (check_any A c n L _ av (((((hR.alloc _).alloc _).alloc _).below hb1).alloc _) hN.out hc63).mono ?_; rintro e w2 ⟨rfl, hb2⟩; rw [HK.out]; obtain ⟨hc2, hf2, hz2⟩ := gcell (grown_of_below hb2 none) (w1.heap.size + 1) (by simp); have : w.heap.size < w2.heap.size := (by omega); have : w.heap.size + 1 < w2.heap.size := (by omega); have : w.heap.size + 2 < w2.heap.size := (by omega); have : w.heap.size < w1.heap.size + 1 := (by omega); have : w.heap.size + 1 < w1.heap.size + 1 := (by omega); have : w.heap.size + 2 < w1.heap.size + 1 := (by omega)))
    refine bodyPost_ret (by simp [results, Try.results18, go_sem, *]) rfl ⟨rfl, ?_⟩
    refine Fr.below (S := fun _ => False) ?_ (Nat.le_refl _) (fun _ _ h => h)
    (repeat' first | (with_reducible refine Fr.setCell ?_ (Or.inl (by first | (simp; done) | (simp; omega))) _) | (with_reducible refine Fr.alloc ?_ _) | (with_reducible refine Fr.drew ?_))
    refine Fr.below_ ?_ hb2
    (repeat' first | (with_reducible refine Fr.setCell ?_ (Or.inl (by first | (simp; done) | (simp; omega))) _) | (with_reducible refine Fr.alloc ?_ _) | (with_reducible refine Fr.drew ?_))
    exact ((((Fr.refl w _).alloc _).alloc _).alloc _).below_ hb1

set_option maxRecDepth 100000 in
set_option maxHeartbeats 2000000 in
theorem take_bad (w : World) (av : Option Nat) (A : Option Addr) (c n : Nat) (L : Ld) (hR : Rs w av 10 Tk.vals A L.tks) (hn : L.tks.length = n) (hc63 : n ≤ 4294967296) (p : Rp) (hp : reportOk p = true) (hok : L.ok = false) :
    Calls Try.prog 18 #[.agg #[.slice A n c, .int .i64 L.r0, .int .i64 L.r1, .int .i64 L.r2, .int .i64 L.r3, .int .i64 L.r4, .int .i64 L.r5], .agg #[.int .i64 p.tick, .int .i64 p.att, .int .i64 p.run, .int .i64 p.ep, .int .i64 p.out]] w fun e w' => e = .returned (.tuple #[.agg #[.slice none 0 0, .int .i64 0, .int .i64 0, .int .i64 0, .int .i64 0, .int .i64 0, .int .i64 0], .int .i64 0, .int .i64 1]) ∧ Below w.heap.size w w' := by
  have hN := hide hn; clear hn
  have HP := hide hp; clear hp
  have HK := hide hok
  clear hok
  go_enter Try.func18, Try.ntmps18
  go_wp2_with (first
    | (go_at_call 45; refine (send_ok _ p HP.out).mono ?_; rintro e w1 ⟨⟨A1, c1, rfl⟩, hb1⟩; obtain ⟨hc1, hf1, hz1⟩ := gcell (grown_of_below hb1 none) (w.heap.size + 3) (by first | (simp; done) | (simp; omega)); have : w.heap.size < w1.heap.size := (by omega); have : w.heap.size + 1 < w1.heap.size := (by omega); have : w.heap.size + 2 < w1.heap.size := (by omega))
    | (go_at_call 11; refine (check_any A c n L _ av (((((hR.alloc _).alloc _).alloc _).below hb1).alloc _) hN.out hc63).mono ?_; rintro e w2 ⟨rfl, hb2⟩; rw [HK.out]; obtain ⟨hc2, hf2, hz2⟩ := gcell (grown_of_below hb2 none) (w1.heap.size + 1) (by simp); have : w.heap.size < w2.heap.size := (by omega); have : w.heap.size + 1 < w2.heap.size := (by omega); have : w.heap.size + 2 < w2.heap.size := (by omega); have : w.heap.size < w1.heap.size + 1 := (by omega); have : w.heap.size + 1 < w1.heap.size + 1 := (by omega); have : w.heap.size + 2 < w1.heap.size + 1 := (by omega)))
  refine bodyPost_ret (by simp [results, Try.results18, go_sem, *]) rfl ⟨rfl, ?_⟩
  refine Fr.below (S := fun _ => False) ?_ (Nat.le_refl _) (fun _ _ h => h)
  (repeat' first | (with_reducible refine Fr.setCell ?_ (Or.inl (by first | (simp; done) | (simp; omega))) _) | (with_reducible refine Fr.alloc ?_ _) | (with_reducible refine Fr.drew ?_))
  refine Fr.below_ ?_ hb2
  (repeat' first | (with_reducible refine Fr.setCell ?_ (Or.inl (by first | (simp; done) | (simp; omega))) _) | (with_reducible refine Fr.alloc ?_ _) | (with_reducible refine Fr.drew ?_))
  exact ((((Fr.refl w _).alloc _).alloc _).alloc _).below_ hb1

set_option maxRecDepth 100000 in
set_option maxHeartbeats 2000000 in
theorem take_full1 (w : World) (av : Option Nat) (A : Option Addr) (c n : Nat) (L : Ld) (hR : Rs w av 10 Tk.vals A L.tks) (hn : L.tks.length = n) (hc63 : n ≤ 4294967296) (p : Rp) (hp : reportOk p = true) (hok : L.ok = true) (hk : L.kind p = 1) (hr : L.r1 = 1073741824) :
    Calls Try.prog 18 #[.agg #[.slice A n c, .int .i64 L.r0, .int .i64 L.r1, .int .i64 L.r2, .int .i64 L.r3, .int .i64 L.r4, .int .i64 L.r5], .agg #[.int .i64 p.tick, .int .i64 p.att, .int .i64 p.run, .int .i64 p.ep, .int .i64 p.out]] w fun e w' => e = .returned (.tuple #[.agg #[.slice none 0 0, .int .i64 0, .int .i64 0, .int .i64 0, .int .i64 0, .int .i64 0, .int .i64 0], .int .i64 0, .int .i64 2]) ∧ Below w.heap.size w w' := by
  have hN := hide hn; clear hn
  have HP := hide hp; clear hp
  have HK := hide hok; clear hok
  have HKI := hide hk; clear hk
  have hq : (L.r1 == 1073741824) = true := by simp [hr]
  clear hr
  go_enter Try.func18, Try.ntmps18
  go_wp2_with (first
    | (go_at_call 45; refine (send_ok _ p HP.out).mono ?_; rintro e w1 ⟨⟨A1, c1, rfl⟩, hb1⟩; obtain ⟨hc1, hf1, hz1⟩ := gcell (grown_of_below hb1 none) (w.heap.size + 3) (by first | (simp; done) | (simp; omega)); have : w.heap.size < w1.heap.size := (by omega); have : w.heap.size + 1 < w1.heap.size := (by omega); have : w.heap.size + 2 < w1.heap.size := (by omega))
    | (go_at_call 11; refine (check_any A c n L _ av (((((hR.alloc _).alloc _).alloc _).below hb1).alloc _) hN.out hc63).mono ?_; rintro e w2 ⟨rfl, hb2⟩; rw [HK.out]; obtain ⟨hc2, hf2, hz2⟩ := gcell (grown_of_below hb2 none) (w1.heap.size + 1) (by simp); have : w.heap.size < w2.heap.size := (by omega); have : w.heap.size + 1 < w2.heap.size := (by omega); have : w.heap.size + 2 < w2.heap.size := (by omega); have : w.heap.size < w1.heap.size + 1 := (by omega); have : w.heap.size + 1 < w1.heap.size + 1 := (by omega); have : w.heap.size + 2 < w1.heap.size + 1 := (by omega))
    | (go_at_call 46; refine (kind_any A n c L p _ av ((((((hR.alloc _).alloc _).alloc _).below hb1).alloc _).below hb2) hN.out hc63).mono ?_; rintro e w3 ⟨rfl, hb3⟩; rw [HKI.out]; obtain ⟨hc3, hf3, hz3⟩ := gcell (grown_of_below hb3 none) w2.heap.size (by simp); have : w.heap.size < w3.heap.size := (by omega); have : w.heap.size + 1 < w3.heap.size := (by omega); have : w.heap.size + 2 < w3.heap.size := (by omega)))
  refine bodyPost_ret (by simp [results, Try.results18, go_sem, *]) rfl ⟨rfl, ?_⟩
  refine Fr.below (S := fun _ => False) ?_ (Nat.le_refl _) (fun _ _ h => h)
  (repeat' first | (with_reducible refine Fr.setCell ?_ (Or.inl (by first | (simp; done) | (simp; omega))) _) | (with_reducible refine Fr.alloc ?_ _) | (with_reducible refine Fr.drew ?_))
  refine Fr.below_ ?_ hb3
  refine Fr.below_ ?_ hb2
  (repeat' first | (with_reducible refine Fr.setCell ?_ (Or.inl (by first | (simp; done) | (simp; omega))) _) | (with_reducible refine Fr.alloc ?_ _) | (with_reducible refine Fr.drew ?_))
  exact ((((Fr.refl w _).alloc _).alloc _).alloc _).below_ hb1

set_option maxRecDepth 100000 in
set_option maxHeartbeats 2000000 in
theorem take_full2 (w : World) (av : Option Nat) (A : Option Addr) (c n : Nat) (L : Ld) (hR : Rs w av 10 Tk.vals A L.tks) (hn : L.tks.length = n) (hc63 : n ≤ 4294967296) (p : Rp) (hp : reportOk p = true) (hok : L.ok = true) (hk : L.kind p = 2) (hr : L.r2 = 1073741824) :
    Calls Try.prog 18 #[.agg #[.slice A n c, .int .i64 L.r0, .int .i64 L.r1, .int .i64 L.r2, .int .i64 L.r3, .int .i64 L.r4, .int .i64 L.r5], .agg #[.int .i64 p.tick, .int .i64 p.att, .int .i64 p.run, .int .i64 p.ep, .int .i64 p.out]] w fun e w' => e = .returned (.tuple #[.agg #[.slice none 0 0, .int .i64 0, .int .i64 0, .int .i64 0, .int .i64 0, .int .i64 0, .int .i64 0], .int .i64 0, .int .i64 2]) ∧ Below w.heap.size w w' := by
  have hN := hide hn; clear hn
  have HP := hide hp; clear hp
  have HK := hide hok; clear hok
  have HKI := hide hk; clear hk
  have hq : (L.r2 == 1073741824) = true := by simp [hr]
  clear hr
  go_enter Try.func18, Try.ntmps18
  go_wp2_with (first
    | (go_at_call 45; refine (send_ok _ p HP.out).mono ?_; rintro e w1 ⟨⟨A1, c1, rfl⟩, hb1⟩; obtain ⟨hc1, hf1, hz1⟩ := gcell (grown_of_below hb1 none) (w.heap.size + 3) (by first | (simp; done) | (simp; omega)); have : w.heap.size < w1.heap.size := (by omega); have : w.heap.size + 1 < w1.heap.size := (by omega); have : w.heap.size + 2 < w1.heap.size := (by omega))
    | (go_at_call 11; refine (check_any A c n L _ av (((((hR.alloc _).alloc _).alloc _).below hb1).alloc _) hN.out hc63).mono ?_; rintro e w2 ⟨rfl, hb2⟩; rw [HK.out]; obtain ⟨hc2, hf2, hz2⟩ := gcell (grown_of_below hb2 none) (w1.heap.size + 1) (by simp); have : w.heap.size < w2.heap.size := (by omega); have : w.heap.size + 1 < w2.heap.size := (by omega); have : w.heap.size + 2 < w2.heap.size := (by omega); have : w.heap.size < w1.heap.size + 1 := (by omega); have : w.heap.size + 1 < w1.heap.size + 1 := (by omega); have : w.heap.size + 2 < w1.heap.size + 1 := (by omega))
    | (go_at_call 46; refine (kind_any A n c L p _ av ((((((hR.alloc _).alloc _).alloc _).below hb1).alloc _).below hb2) hN.out hc63).mono ?_; rintro e w3 ⟨rfl, hb3⟩; rw [HKI.out]; obtain ⟨hc3, hf3, hz3⟩ := gcell (grown_of_below hb3 none) w2.heap.size (by simp); have : w.heap.size < w3.heap.size := (by omega); have : w.heap.size + 1 < w3.heap.size := (by omega); have : w.heap.size + 2 < w3.heap.size := (by omega)))
  refine bodyPost_ret (by simp [results, Try.results18, go_sem, *]) rfl ⟨rfl, ?_⟩
  refine Fr.below (S := fun _ => False) ?_ (Nat.le_refl _) (fun _ _ h => h)
  (repeat' first | (with_reducible refine Fr.setCell ?_ (Or.inl (by first | (simp; done) | (simp; omega))) _) | (with_reducible refine Fr.alloc ?_ _) | (with_reducible refine Fr.drew ?_))
  refine Fr.below_ ?_ hb3
  refine Fr.below_ ?_ hb2
  (repeat' first | (with_reducible refine Fr.setCell ?_ (Or.inl (by first | (simp; done) | (simp; omega))) _) | (with_reducible refine Fr.alloc ?_ _) | (with_reducible refine Fr.drew ?_))
  exact ((((Fr.refl w _).alloc _).alloc _).alloc _).below_ hb1

set_option maxRecDepth 100000 in
set_option maxHeartbeats 2000000 in
theorem take_full3 (w : World) (av : Option Nat) (A : Option Addr) (c n : Nat) (L : Ld) (hR : Rs w av 10 Tk.vals A L.tks) (hn : L.tks.length = n) (hc63 : n ≤ 4294967296) (p : Rp) (hp : reportOk p = true) (hok : L.ok = true) (hk : L.kind p = 3) (hr : L.r3 = 1073741824) :
    Calls Try.prog 18 #[.agg #[.slice A n c, .int .i64 L.r0, .int .i64 L.r1, .int .i64 L.r2, .int .i64 L.r3, .int .i64 L.r4, .int .i64 L.r5], .agg #[.int .i64 p.tick, .int .i64 p.att, .int .i64 p.run, .int .i64 p.ep, .int .i64 p.out]] w fun e w' => e = .returned (.tuple #[.agg #[.slice none 0 0, .int .i64 0, .int .i64 0, .int .i64 0, .int .i64 0, .int .i64 0, .int .i64 0], .int .i64 0, .int .i64 2]) ∧ Below w.heap.size w w' := by
  have hN := hide hn; clear hn
  have HP := hide hp; clear hp
  have HK := hide hok; clear hok
  have HKI := hide hk; clear hk
  have hq : (L.r3 == 1073741824) = true := by simp [hr]
  clear hr
  go_enter Try.func18, Try.ntmps18
  go_wp2_with (first
    | (go_at_call 45; refine (send_ok _ p HP.out).mono ?_; rintro e w1 ⟨⟨A1, c1, rfl⟩, hb1⟩; obtain ⟨hc1, hf1, hz1⟩ := gcell (grown_of_below hb1 none) (w.heap.size + 3) (by first | (simp; done) | (simp; omega)); have : w.heap.size < w1.heap.size := (by omega); have : w.heap.size + 1 < w1.heap.size := (by omega); have : w.heap.size + 2 < w1.heap.size := (by omega))
    | (go_at_call 11; refine (check_any A c n L _ av (((((hR.alloc _).alloc _).alloc _).below hb1).alloc _) hN.out hc63).mono ?_; rintro e w2 ⟨rfl, hb2⟩; rw [HK.out]; obtain ⟨hc2, hf2, hz2⟩ := gcell (grown_of_below hb2 none) (w1.heap.size + 1) (by simp); have : w.heap.size < w2.heap.size := (by omega); have : w.heap.size + 1 < w2.heap.size := (by omega); have : w.heap.size + 2 < w2.heap.size := (by omega); have : w.heap.size < w1.heap.size + 1 := (by omega); have : w.heap.size + 1 < w1.heap.size + 1 := (by omega); have : w.heap.size + 2 < w1.heap.size + 1 := (by omega))
    | (go_at_call 46; refine (kind_any A n c L p _ av ((((((hR.alloc _).alloc _).alloc _).below hb1).alloc _).below hb2) hN.out hc63).mono ?_; rintro e w3 ⟨rfl, hb3⟩; rw [HKI.out]; obtain ⟨hc3, hf3, hz3⟩ := gcell (grown_of_below hb3 none) w2.heap.size (by simp); have : w.heap.size < w3.heap.size := (by omega); have : w.heap.size + 1 < w3.heap.size := (by omega); have : w.heap.size + 2 < w3.heap.size := (by omega)))
  refine bodyPost_ret (by simp [results, Try.results18, go_sem, *]) rfl ⟨rfl, ?_⟩
  refine Fr.below (S := fun _ => False) ?_ (Nat.le_refl _) (fun _ _ h => h)
  (repeat' first | (with_reducible refine Fr.setCell ?_ (Or.inl (by first | (simp; done) | (simp; omega))) _) | (with_reducible refine Fr.alloc ?_ _) | (with_reducible refine Fr.drew ?_))
  refine Fr.below_ ?_ hb3
  refine Fr.below_ ?_ hb2
  (repeat' first | (with_reducible refine Fr.setCell ?_ (Or.inl (by first | (simp; done) | (simp; omega))) _) | (with_reducible refine Fr.alloc ?_ _) | (with_reducible refine Fr.drew ?_))
  exact ((((Fr.refl w _).alloc _).alloc _).alloc _).below_ hb1

set_option maxRecDepth 100000 in
set_option maxHeartbeats 2000000 in
theorem take_full4 (w : World) (av : Option Nat) (A : Option Addr) (c n : Nat) (L : Ld) (hR : Rs w av 10 Tk.vals A L.tks) (hn : L.tks.length = n) (hc63 : n ≤ 4294967296) (p : Rp) (hp : reportOk p = true) (hok : L.ok = true) (hk : L.kind p = 4) (hr : L.r4 = 1073741824) :
    Calls Try.prog 18 #[.agg #[.slice A n c, .int .i64 L.r0, .int .i64 L.r1, .int .i64 L.r2, .int .i64 L.r3, .int .i64 L.r4, .int .i64 L.r5], .agg #[.int .i64 p.tick, .int .i64 p.att, .int .i64 p.run, .int .i64 p.ep, .int .i64 p.out]] w fun e w' => e = .returned (.tuple #[.agg #[.slice none 0 0, .int .i64 0, .int .i64 0, .int .i64 0, .int .i64 0, .int .i64 0, .int .i64 0], .int .i64 0, .int .i64 2]) ∧ Below w.heap.size w w' := by
  have hN := hide hn; clear hn
  have HP := hide hp; clear hp
  have HK := hide hok; clear hok
  have HKI := hide hk; clear hk
  have hq : (L.r4 == 1073741824) = true := by simp [hr]
  clear hr
  go_enter Try.func18, Try.ntmps18
  go_wp2_with (first
    | (go_at_call 45; refine (send_ok _ p HP.out).mono ?_; rintro e w1 ⟨⟨A1, c1, rfl⟩, hb1⟩; obtain ⟨hc1, hf1, hz1⟩ := gcell (grown_of_below hb1 none) (w.heap.size + 3) (by first | (simp; done) | (simp; omega)); have : w.heap.size < w1.heap.size := (by omega); have : w.heap.size + 1 < w1.heap.size := (by omega); have : w.heap.size + 2 < w1.heap.size := (by omega))
    | (go_at_call 11; refine (check_any A c n L _ av (((((hR.alloc _).alloc _).alloc _).below hb1).alloc _) hN.out hc63).mono ?_; rintro e w2 ⟨rfl, hb2⟩; rw [HK.out]; obtain ⟨hc2, hf2, hz2⟩ := gcell (grown_of_below hb2 none) (w1.heap.size + 1) (by simp); have : w.heap.size < w2.heap.size := (by omega); have : w.heap.size + 1 < w2.heap.size := (by omega); have : w.heap.size + 2 < w2.heap.size := (by omega); have : w.heap.size < w1.heap.size + 1 := (by omega); have : w.heap.size + 1 < w1.heap.size + 1 := (by omega); have : w.heap.size + 2 < w1.heap.size + 1 := (by omega))
    | (go_at_call 46; refine (kind_any A n c L p _ av ((((((hR.alloc _).alloc _).alloc _).below hb1).alloc _).below hb2) hN.out hc63).mono ?_; rintro e w3 ⟨rfl, hb3⟩; rw [HKI.out]; obtain ⟨hc3, hf3, hz3⟩ := gcell (grown_of_below hb3 none) w2.heap.size (by simp); have : w.heap.size < w3.heap.size := (by omega); have : w.heap.size + 1 < w3.heap.size := (by omega); have : w.heap.size + 2 < w3.heap.size := (by omega)))
  refine bodyPost_ret (by simp [results, Try.results18, go_sem, *]) rfl ⟨rfl, ?_⟩
  refine Fr.below (S := fun _ => False) ?_ (Nat.le_refl _) (fun _ _ h => h)
  (repeat' first | (with_reducible refine Fr.setCell ?_ (Or.inl (by first | (simp; done) | (simp; omega))) _) | (with_reducible refine Fr.alloc ?_ _) | (with_reducible refine Fr.drew ?_))
  refine Fr.below_ ?_ hb3
  refine Fr.below_ ?_ hb2
  (repeat' first | (with_reducible refine Fr.setCell ?_ (Or.inl (by first | (simp; done) | (simp; omega))) _) | (with_reducible refine Fr.alloc ?_ _) | (with_reducible refine Fr.drew ?_))
  exact ((((Fr.refl w _).alloc _).alloc _).alloc _).below_ hb1

set_option maxRecDepth 100000 in
set_option maxHeartbeats 2000000 in
theorem take_full5 (w : World) (av : Option Nat) (A : Option Addr) (c n : Nat) (L : Ld) (hR : Rs w av 10 Tk.vals A L.tks) (hn : L.tks.length = n) (hc63 : n ≤ 4294967296) (p : Rp) (hp : reportOk p = true) (hok : L.ok = true) (hk : L.kind p = 5) (hr : L.r5 = 1073741824) :
    Calls Try.prog 18 #[.agg #[.slice A n c, .int .i64 L.r0, .int .i64 L.r1, .int .i64 L.r2, .int .i64 L.r3, .int .i64 L.r4, .int .i64 L.r5], .agg #[.int .i64 p.tick, .int .i64 p.att, .int .i64 p.run, .int .i64 p.ep, .int .i64 p.out]] w fun e w' => e = .returned (.tuple #[.agg #[.slice none 0 0, .int .i64 0, .int .i64 0, .int .i64 0, .int .i64 0, .int .i64 0, .int .i64 0], .int .i64 0, .int .i64 2]) ∧ Below w.heap.size w w' := by
  have hN := hide hn; clear hn
  have HP := hide hp; clear hp
  have HK := hide hok; clear hok
  have HKI := hide hk; clear hk
  have hq : (L.r5 == 1073741824) = true := by simp [hr]
  clear hr
  go_enter Try.func18, Try.ntmps18
  go_wp2_with (first
    | (go_at_call 45; refine (send_ok _ p HP.out).mono ?_; rintro e w1 ⟨⟨A1, c1, rfl⟩, hb1⟩; obtain ⟨hc1, hf1, hz1⟩ := gcell (grown_of_below hb1 none) (w.heap.size + 3) (by first | (simp; done) | (simp; omega)); have : w.heap.size < w1.heap.size := (by omega); have : w.heap.size + 1 < w1.heap.size := (by omega); have : w.heap.size + 2 < w1.heap.size := (by omega))
    | (go_at_call 11; refine (check_any A c n L _ av (((((hR.alloc _).alloc _).alloc _).below hb1).alloc _) hN.out hc63).mono ?_; rintro e w2 ⟨rfl, hb2⟩; rw [HK.out]; obtain ⟨hc2, hf2, hz2⟩ := gcell (grown_of_below hb2 none) (w1.heap.size + 1) (by simp); have : w.heap.size < w2.heap.size := (by omega); have : w.heap.size + 1 < w2.heap.size := (by omega); have : w.heap.size + 2 < w2.heap.size := (by omega); have : w.heap.size < w1.heap.size + 1 := (by omega); have : w.heap.size + 1 < w1.heap.size + 1 := (by omega); have : w.heap.size + 2 < w1.heap.size + 1 := (by omega))
    | (go_at_call 46; refine (kind_any A n c L p _ av ((((((hR.alloc _).alloc _).alloc _).below hb1).alloc _).below hb2) hN.out hc63).mono ?_; rintro e w3 ⟨rfl, hb3⟩; rw [HKI.out]; obtain ⟨hc3, hf3, hz3⟩ := gcell (grown_of_below hb3 none) w2.heap.size (by simp); have : w.heap.size < w3.heap.size := (by omega); have : w.heap.size + 1 < w3.heap.size := (by omega); have : w.heap.size + 2 < w3.heap.size := (by omega)))
  refine bodyPost_ret (by simp [results, Try.results18, go_sem, *]) rfl ⟨rfl, ?_⟩
  refine Fr.below (S := fun _ => False) ?_ (Nat.le_refl _) (fun _ _ h => h)
  (repeat' first | (with_reducible refine Fr.setCell ?_ (Or.inl (by first | (simp; done) | (simp; omega))) _) | (with_reducible refine Fr.alloc ?_ _) | (with_reducible refine Fr.drew ?_))
  refine Fr.below_ ?_ hb3
  refine Fr.below_ ?_ hb2
  (repeat' first | (with_reducible refine Fr.setCell ?_ (Or.inl (by first | (simp; done) | (simp; omega))) _) | (with_reducible refine Fr.alloc ?_ _) | (with_reducible refine Fr.drew ?_))
  exact ((((Fr.refl w _).alloc _).alloc _).alloc _).below_ hb1

end Go.Proofs.Ytjhkgoengoiljaa
