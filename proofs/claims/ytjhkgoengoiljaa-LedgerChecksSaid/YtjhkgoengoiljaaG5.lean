/- Contracts of the functions that these laws reach: part 5: Contracts: Fail, Cancel; Contracts: a ticket is right, by the reference; Contracts: a ledger is right, by the reference; find; append onto a row of the call's own, the source any slice that reads as a list; Contracts of the reference: find, with. -/
import Derived.Test.YtjhkgoengoiljaaG4
import Derived.Test.YtjhkgoengoiljaaG2
import Derived.Test.YtjhkgoengoiljaaG3
import Derived.Test.YtjhkgoengoiljaaG1
set_option linter.unusedVariables false
set_option linter.unusedSimpArgs false

/- Contracts: Fail, Cancel. -/
namespace Go.Proofs.Ytjhkgoengoiljaa
open Go.RowKit


set_option maxRecDepth 100000 in
set_option maxHeartbeats 2000000 in
theorem fail_bad (w : World) (av : Option Nat) (A : Option Addr) (c n : Nat) (L : Ld) (hR : Rs w av 10 Tk.vals A L.tks) (hn : L.tks.length = n) (hc63 : n ≤ 4294967296) (k o : Int) (hok : L.ok = false) :
    Calls Try.prog 22 #[.agg #[.slice A n c, .int .i64 L.r0, .int .i64 L.r1, .int .i64 L.r2, .int .i64 L.r3, .int .i64 L.r4, .int .i64 L.r5], .int .i64 k, .int .i64 o] w fun e w' => e = .returned (.tuple #[.agg #[.slice none 0 0, .int .i64 0, .int .i64 0, .int .i64 0, .int .i64 0, .int .i64 0, .int .i64 0], .int .i64 1]) ∧ Below w.heap.size w w' := by
  have hN := hide hn; clear hn
  go_enter Try.func22, Try.ntmps22
  go_wp2_with (go_at_call 42; refine (change_bad A c n L k _ _ av (((hR.alloc _).alloc _).alloc _) hN.out hc63 hok).mono ?_; rintro e w1 ⟨rfl, hb1⟩; obtain ⟨hc1, hf1, hz1⟩ := gcell (grown_of_below hb1 none) (w.heap.size + 3) (by first | (simp; done) | (simp; omega)))
  refine bodyPost_ret (by simp [results, Try.results22, go_sem, hc1]) rfl ⟨rfl, ?_⟩
  (repeat' (with_reducible refine Below.setCell ?_ (by first | (simp; done) | (simp; omega)) _))
  exact (Fr.of_below _ hb1 |> (((((Fr.refl w (fun _ => False)).alloc _).alloc _).alloc _)).trans).below (Nat.le_refl _) (fun _ _ h => h)

set_option maxRecDepth 100000 in
set_option maxHeartbeats 2000000 in
theorem fail_none (w : World) (av : Option Nat) (A : Option Addr) (c n : Nat) (L : Ld) (hR : Rs w av 10 Tk.vals A L.tks) (hn : L.tks.length = n) (hc63 : n ≤ 4294967296) (k o : Int) (hok : L.ok = true) (hk : L.get? k = none) :
    Calls Try.prog 22 #[.agg #[.slice A n c, .int .i64 L.r0, .int .i64 L.r1, .int .i64 L.r2, .int .i64 L.r3, .int .i64 L.r4, .int .i64 L.r5], .int .i64 k, .int .i64 o] w fun e w' => e = .returned (.tuple #[.agg #[.slice none 0 0, .int .i64 0, .int .i64 0, .int .i64 0, .int .i64 0, .int .i64 0, .int .i64 0], .int .i64 18]) ∧ Below w.heap.size w w' := by
  have hN := hide hn; clear hn
  have HK := hide hk; clear hk
  go_enter Try.func22, Try.ntmps22
  go_wp2_with (go_at_call 42; refine (change_none A c n L k _ _ av (((hR.alloc _).alloc _).alloc _) hN.out hc63 hok HK.out).mono ?_; rintro e w1 ⟨rfl, hb1⟩; obtain ⟨hc1, hf1, hz1⟩ := gcell (grown_of_below hb1 none) (w.heap.size + 3) (by first | (simp; done) | (simp; omega)))
  refine bodyPost_ret (by simp [results, Try.results22, go_sem, hc1]) rfl ⟨rfl, ?_⟩
  (repeat' (with_reducible refine Below.setCell ?_ (by first | (simp; done) | (simp; omega)) _))
  exact (Fr.of_below _ hb1 |> (((((Fr.refl w (fun _ => False)).alloc _).alloc _).alloc _)).trans).below (Nat.le_refl _) (fun _ _ h => h)

set_option maxRecDepth 100000 in
set_option maxHeartbeats 2000000 in
theorem fail_err (w : World) (av : Option Nat) (A : Option Addr) (c n : Nat) (L : Ld) (hR : Rs w av 10 Tk.vals A L.tks) (hn : L.tks.length = n) (hc63 : n ≤ 4294967296) (k o : Int) (t : Tk) (hok : L.ok = true) (hk : L.get? k = some t) (er : Int) (her : (er != 0) = true) (hh : (o ≠ 4 ∧ o ≠ 5 ∧ er = 3) ∨ ((o = 4 ∨ o = 5) ∧ t.st ≠ 1 ∧ er = 45)) :
    Calls Try.prog 22 #[.agg #[.slice A n c, .int .i64 L.r0, .int .i64 L.r1, .int .i64 L.r2, .int .i64 L.r3, .int .i64 L.r4, .int .i64 L.r5], .int .i64 k, .int .i64 o] w fun e w' => e = .returned (.tuple #[.agg #[.slice none 0 0, .int .i64 0, .int .i64 0, .int .i64 0, .int .i64 0, .int .i64 0, .int .i64 0], .int .i64 er]) ∧ Below w.heap.size w w' := by
  have hN := hide hn; clear hn
  have HK := hide hk; clear hk
  have HH := hide hh; clear hh
  go_enter Try.func22, Try.ntmps22
  go_wp2_with (go_at_call 42; refine (change_fail_err A c n L k t (w.heap.size + 1) o _ av (((hR.alloc _).alloc _).alloc _) hN.out hc63 hok HK.out er her (by simp [go_sem]) (by simp) HH.out).mono ?_; rintro e w1 ⟨rfl, hb1⟩; obtain ⟨hc1, hf1, hz1⟩ := gcell (grown_of_below hb1 none) (w.heap.size + 3) (by first | (simp; done) | (simp; omega)))
  refine bodyPost_ret (by simp [results, Try.results22, go_sem, hc1]) rfl ⟨rfl, ?_⟩
  (repeat' (with_reducible refine Below.setCell ?_ (by first | (simp; done) | (simp; omega)) _))
  exact (Fr.of_below _ hb1 |> (((((Fr.refl w (fun _ => False)).alloc _).alloc _).alloc _)).trans).below (Nat.le_refl _) (fun _ _ h => h)

set_option maxRecDepth 100000 in
set_option maxHeartbeats 2000000 in
theorem fail_ok (w : World) (av : Option Nat) (A : Option Addr) (c n : Nat) (L : Ld) (hR : Rs w av 10 Tk.vals A L.tks) (hn : L.tks.length = n) (hc63 : n ≤ 4294967296) (k o : Int) (t : Tk) (hok : L.ok = true) (hk : L.get? k = some t) (ho : o = 4 ∨ o = 5) (hst : t.st = 1) (hav : ∀ x, av = some x → x < w.heap.size) :
    Calls Try.prog 22 #[.agg #[.slice A n c, .int .i64 L.r0, .int .i64 L.r1, .int .i64 L.r2, .int .i64 L.r3, .int .i64 L.r4, .int .i64 L.r5], .int .i64 k, .int .i64 o] w fun e w' => ∃ g, e = .returned (.tuple #[.agg #[.slice (some ⟨g, 0, none⟩) n (n + 1), .int .i64 L.r0, .int .i64 L.r1, .int .i64 L.r2, .int .i64 L.r3, .int .i64 L.r4, .int .i64 L.r5], .int .i64 0]) ∧
      Rs w' av 10 Tk.vals (some ⟨g, 0, none⟩) (L.put k (t.failed o)).tks ∧ Below w.heap.size w w' := by
  have hN := hide hn; clear hn
  have HK := hide hk; clear hk
  have HO := hide ho; clear ho
  have HS := hide hst; clear hst
  go_enter Try.func22, Try.ntmps22
  go_wp2_with (go_at_call 42; refine (change_fail_ok A c n L k t (w.heap.size + 1) o _ av (((hR.alloc _).alloc _).alloc _) hN.out hc63 hok HK.out (by simp [go_sem]) (by simp) HO.out HS.out).mono ?_; rintro e w1 ⟨g, rfl, hown1, hfr1⟩; obtain ⟨hc1, hf1, hz1⟩ := fcell hfr1 (w.heap.size + 3) (by simp); have hg1 := (hown1.lt g rfl).1; simp at hg1)
  refine bodyPost_ret (v := .tuple #[.agg #[.slice (some ⟨g, 0, none⟩) n (n + 1), .int .i64 L.r0, .int .i64 L.r1, .int .i64 L.r2, .int .i64 L.r3, .int .i64 L.r4, .int .i64 L.r5], .int .i64 0]) (by simp [results, Try.results22, go_sem, hc1]) rfl ⟨g, rfl, ?_, ?_⟩
  · refine Rs.of_own (base := w.heap.size) (n := n) (c := n + 1) (e := 43) ?_ Tk.vals_len (by simp [Ld.put, hN.out]) hav
    (repeat' refine own_far ?_ (by simp [Value.ownBlock]; omega) _)
    exact own_base hown1 (by simp; omega)
  · (repeat' (with_reducible refine Below.setCell ?_ (by first | (simp; done) | (simp; omega)) _))
    exact (((((Fr.refl w (fun _ => False)).alloc _).alloc _).alloc _).step hfr1 (fun j hj hs => hs)).below (Nat.le_refl _) (fun _ _ h => h)

theorem fail_any (w : World) (av : Option Nat) (A : Option Addr) (c n : Nat) (L : Ld) (hR : Rs w av 10 Tk.vals A L.tks) (hn : L.tks.length = n) (hc63 : n ≤ 4294967296) (k o : Int) (hav : ∀ x, av = some x → x < w.heap.size) :
    Calls Try.prog 22 #[.agg #[.slice A n c, .int .i64 L.r0, .int .i64 L.r1, .int .i64 L.r2, .int .i64 L.r3, .int .i64 L.r4, .int .i64 L.r5], .int .i64 k, .int .i64 o] w fun e w' => ∃ A' c', e = .returned (.tuple #[.agg #[.slice A' (L.fail k o).1.tks.length c', .int .i64 (L.fail k o).1.r0, .int .i64 (L.fail k o).1.r1, .int .i64 (L.fail k o).1.r2, .int .i64 (L.fail k o).1.r3, .int .i64 (L.fail k o).1.r4, .int .i64 (L.fail k o).1.r5], .int .i64 (L.fail k o).2]) ∧ Rs w' av 10 Tk.vals A' (L.fail k o).1.tks ∧ Below w.heap.size w w' := by
  cases hok : L.ok
  · have e1 : L.fail k o = (.nil, 1) := by simp [Ld.fail, hok]
    rw [e1]
    exact (fail_bad w av A c n L hR hn hc63 k o hok).mono fun e w' ⟨he, hb⟩ => ⟨none, 0, he, Rs.nil, hb⟩
  cases hk : L.get? k with
  | none =>
    have e1 : L.fail k o = (.nil, 18) := by simp [Ld.fail, hok, hk]
    rw [e1]
    exact (fail_none w av A c n L hR hn hc63 k o hok hk).mono fun e w' ⟨he, hb⟩ => ⟨none, 0, he, Rs.nil, hb⟩
  | some t =>
    by_cases ho : o ≠ 4 ∧ o ≠ 5
    · have e1 : L.fail k o = (.nil, 3) := by simp [Ld.fail, hok, hk, ho]
      rw [e1]
      exact (fail_err w av A c n L hR hn hc63 k o t hok hk 3 rfl (.inl ⟨ho.1, ho.2, rfl⟩)).mono fun e w' ⟨he, hb⟩ => ⟨none, 0, he, Rs.nil, hb⟩
    have ho' : o = 4 ∨ o = 5 := by omega
    by_cases hst : t.st = 1
    · have e1 : L.fail k o = (L.put k (t.failed o), 0) := by simp only [Ld.fail, hok, hk]; rw [if_neg (by simp), if_neg ho, if_neg (by simp [hst])]
      rw [e1]
      have hlen : (L.put k (t.failed o)).tks.length = n := by simp [Ld.put, hn]
      refine (fail_ok w av A c n L hR hn hc63 k o t hok hk ho' hst hav).mono fun e w' ⟨g, he, hr, hb⟩ => ⟨some ⟨g, 0, none⟩, n + 1, ?_, hr, hb⟩
      dsimp only
      rw [hlen]
      exact he
    · have e1 : L.fail k o = (.nil, 45) := by simp only [Ld.fail, hok, hk]; rw [if_neg (by simp), if_neg ho, if_pos hst]
      rw [e1]
      exact (fail_err w av A c n L hR hn hc63 k o t hok hk 45 rfl (.inr ⟨ho', hst, rfl⟩)).mono fun e w' ⟨he, hb⟩ => ⟨none, 0, he, Rs.nil, hb⟩

set_option maxRecDepth 100000 in
set_option maxHeartbeats 2000000 in
theorem cancel_bad (w : World) (av : Option Nat) (A : Option Addr) (c n : Nat) (L : Ld) (hR : Rs w av 10 Tk.vals A L.tks) (hn : L.tks.length = n) (hc63 : n ≤ 4294967296) (k : Int) (hok : L.ok = false) :
    Calls Try.prog 31 #[.agg #[.slice A n c, .int .i64 L.r0, .int .i64 L.r1, .int .i64 L.r2, .int .i64 L.r3, .int .i64 L.r4, .int .i64 L.r5], .int .i64 k] w fun e w' => e = .returned (.tuple #[.agg #[.slice none 0 0, .int .i64 0, .int .i64 0, .int .i64 0, .int .i64 0, .int .i64 0, .int .i64 0], .int .i64 1]) ∧ Below w.heap.size w w' := by
  have hN := hide hn; clear hn
  go_enter Try.func31, Try.ntmps31
  go_wp2_with (go_at_call 42; refine (change_bad A c n L k _ _ av ((hR.alloc _).alloc _) hN.out hc63 hok).mono ?_; rintro e w1 ⟨rfl, hb1⟩; obtain ⟨hc1, hf1, hz1⟩ := gcell (grown_of_below hb1 none) (w.heap.size + 2) (by first | (simp; done) | (simp; omega)))
  refine bodyPost_ret (by simp [results, Try.results31, go_sem, hc1]) rfl ⟨rfl, ?_⟩
  (repeat' (with_reducible refine Below.setCell ?_ (by first | (simp; done) | (simp; omega)) _))
  exact (Fr.of_below _ hb1 |> ((((Fr.refl w (fun _ => False)).alloc _).alloc _)).trans).below (Nat.le_refl _) (fun _ _ h => h)

set_option maxRecDepth 100000 in
set_option maxHeartbeats 2000000 in
theorem cancel_none (w : World) (av : Option Nat) (A : Option Addr) (c n : Nat) (L : Ld) (hR : Rs w av 10 Tk.vals A L.tks) (hn : L.tks.length = n) (hc63 : n ≤ 4294967296) (k : Int) (hok : L.ok = true) (hk : L.get? k = none) :
    Calls Try.prog 31 #[.agg #[.slice A n c, .int .i64 L.r0, .int .i64 L.r1, .int .i64 L.r2, .int .i64 L.r3, .int .i64 L.r4, .int .i64 L.r5], .int .i64 k] w fun e w' => e = .returned (.tuple #[.agg #[.slice none 0 0, .int .i64 0, .int .i64 0, .int .i64 0, .int .i64 0, .int .i64 0, .int .i64 0], .int .i64 18]) ∧ Below w.heap.size w w' := by
  have hN := hide hn; clear hn
  have HK := hide hk; clear hk
  go_enter Try.func31, Try.ntmps31
  go_wp2_with (go_at_call 42; refine (change_none A c n L k _ _ av ((hR.alloc _).alloc _) hN.out hc63 hok HK.out).mono ?_; rintro e w1 ⟨rfl, hb1⟩; obtain ⟨hc1, hf1, hz1⟩ := gcell (grown_of_below hb1 none) (w.heap.size + 2) (by first | (simp; done) | (simp; omega)))
  refine bodyPost_ret (by simp [results, Try.results31, go_sem, hc1]) rfl ⟨rfl, ?_⟩
  (repeat' (with_reducible refine Below.setCell ?_ (by first | (simp; done) | (simp; omega)) _))
  exact (Fr.of_below _ hb1 |> ((((Fr.refl w (fun _ => False)).alloc _).alloc _)).trans).below (Nat.le_refl _) (fun _ _ h => h)

set_option maxRecDepth 100000 in
set_option maxHeartbeats 2000000 in
theorem cancel_err (w : World) (av : Option Nat) (A : Option Addr) (c n : Nat) (L : Ld) (hR : Rs w av 10 Tk.vals A L.tks) (hn : L.tks.length = n) (hc63 : n ≤ 4294967296) (k : Int) (t : Tk) (hok : L.ok = true) (hk : L.get? k = some t) (hst : t.st = 2) :
    Calls Try.prog 31 #[.agg #[.slice A n c, .int .i64 L.r0, .int .i64 L.r1, .int .i64 L.r2, .int .i64 L.r3, .int .i64 L.r4, .int .i64 L.r5], .int .i64 k] w fun e w' => e = .returned (.tuple #[.agg #[.slice none 0 0, .int .i64 0, .int .i64 0, .int .i64 0, .int .i64 0, .int .i64 0, .int .i64 0], .int .i64 45]) ∧ Below w.heap.size w w' := by
  have hN := hide hn; clear hn
  have HK := hide hk; clear hk
  have HS := hide hst; clear hst
  go_enter Try.func31, Try.ntmps31
  go_wp2_with (go_at_call 42; refine (change_cancel_err A c n L k t _ av ((hR.alloc _).alloc _) hN.out hc63 hok HK.out 45 rfl HS.out rfl).mono ?_; rintro e w1 ⟨rfl, hb1⟩; obtain ⟨hc1, hf1, hz1⟩ := gcell (grown_of_below hb1 none) (w.heap.size + 2) (by first | (simp; done) | (simp; omega)))
  refine bodyPost_ret (by simp [results, Try.results31, go_sem, hc1]) rfl ⟨rfl, ?_⟩
  (repeat' (with_reducible refine Below.setCell ?_ (by first | (simp; done) | (simp; omega)) _))
  exact (Fr.of_below _ hb1 |> ((((Fr.refl w (fun _ => False)).alloc _).alloc _)).trans).below (Nat.le_refl _) (fun _ _ h => h)

set_option maxRecDepth 100000 in
set_option maxHeartbeats 2000000 in
theorem cancel_ok (w : World) (av : Option Nat) (A : Option Addr) (c n : Nat) (L : Ld) (hR : Rs w av 10 Tk.vals A L.tks) (hn : L.tks.length = n) (hc63 : n ≤ 4294967296) (k : Int) (t : Tk) (hok : L.ok = true) (hk : L.get? k = some t) (hst : t.st ≠ 2) (hav : ∀ x, av = some x → x < w.heap.size) :
    Calls Try.prog 31 #[.agg #[.slice A n c, .int .i64 L.r0, .int .i64 L.r1, .int .i64 L.r2, .int .i64 L.r3, .int .i64 L.r4, .int .i64 L.r5], .int .i64 k] w fun e w' => ∃ g, e = .returned (.tuple #[.agg #[.slice (some ⟨g, 0, none⟩) n (n + 1), .int .i64 L.r0, .int .i64 L.r1, .int .i64 L.r2, .int .i64 L.r3, .int .i64 L.r4, .int .i64 L.r5], .int .i64 0]) ∧
      Rs w' av 10 Tk.vals (some ⟨g, 0, none⟩) (L.put k { t with st := 2, out := 6 }).tks ∧ Below w.heap.size w w' := by
  have hN := hide hn; clear hn
  have HK := hide hk; clear hk
  have HS := hide hst; clear hst
  go_enter Try.func31, Try.ntmps31
  go_wp2_with (go_at_call 42; refine (change_cancel_ok A c n L k t _ av ((hR.alloc _).alloc _) hN.out hc63 hok HK.out HS.out).mono ?_; rintro e w1 ⟨g, rfl, hown1, hfr1⟩; obtain ⟨hc1, hf1, hz1⟩ := fcell hfr1 (w.heap.size + 2) (by simp); have hg1 := (hown1.lt g rfl).1; simp at hg1)
  refine bodyPost_ret (v := .tuple #[.agg #[.slice (some ⟨g, 0, none⟩) n (n + 1), .int .i64 L.r0, .int .i64 L.r1, .int .i64 L.r2, .int .i64 L.r3, .int .i64 L.r4, .int .i64 L.r5], .int .i64 0]) (by simp [results, Try.results31, go_sem, hc1]) rfl ⟨g, rfl, ?_, ?_⟩
  · refine Rs.of_own (base := w.heap.size) (n := n) (c := n + 1) (e := 43) ?_ Tk.vals_len (by simp [Ld.put, hN.out]) hav
    (repeat' refine own_far ?_ (by simp [Value.ownBlock]; omega) _)
    exact own_base hown1 (by simp; omega)
  · (repeat' (with_reducible refine Below.setCell ?_ (by first | (simp; done) | (simp; omega)) _))
    exact ((((Fr.refl w (fun _ => False)).alloc _).alloc _).step hfr1 (fun j hj hs => hs)).below (Nat.le_refl _) (fun _ _ h => h)

theorem cancel_any (w : World) (av : Option Nat) (A : Option Addr) (c n : Nat) (L : Ld) (hR : Rs w av 10 Tk.vals A L.tks) (hn : L.tks.length = n) (hc63 : n ≤ 4294967296) (k : Int) (hav : ∀ x, av = some x → x < w.heap.size) :
    Calls Try.prog 31 #[.agg #[.slice A n c, .int .i64 L.r0, .int .i64 L.r1, .int .i64 L.r2, .int .i64 L.r3, .int .i64 L.r4, .int .i64 L.r5], .int .i64 k] w fun e w' => ∃ A' c', e = .returned (.tuple #[.agg #[.slice A' (L.cancel k).1.tks.length c', .int .i64 (L.cancel k).1.r0, .int .i64 (L.cancel k).1.r1, .int .i64 (L.cancel k).1.r2, .int .i64 (L.cancel k).1.r3, .int .i64 (L.cancel k).1.r4, .int .i64 (L.cancel k).1.r5], .int .i64 (L.cancel k).2]) ∧ Rs w' av 10 Tk.vals A' (L.cancel k).1.tks ∧ Below w.heap.size w w' := by
  cases hok : L.ok
  · have e1 : L.cancel k = (.nil, 1) := by simp [Ld.cancel, hok]
    rw [e1]
    exact (cancel_bad w av A c n L hR hn hc63 k hok).mono fun e w' ⟨he, hb⟩ => ⟨none, 0, he, Rs.nil, hb⟩
  cases hk : L.get? k with
  | none =>
    have e1 : L.cancel k = (.nil, 18) := by simp [Ld.cancel, hok, hk]
    rw [e1]
    exact (cancel_none w av A c n L hR hn hc63 k hok hk).mono fun e w' ⟨he, hb⟩ => ⟨none, 0, he, Rs.nil, hb⟩
  | some t =>
    by_cases hst : t.st = 2
    · have e1 : L.cancel k = (.nil, 45) := by simp [Ld.cancel, hok, hk, hst]
      rw [e1]
      exact (cancel_err w av A c n L hR hn hc63 k t hok hk hst).mono fun e w' ⟨he, hb⟩ => ⟨none, 0, he, Rs.nil, hb⟩
    · have e1 : L.cancel k = (L.put k { t with st := 2, out := 6 }, 0) := by simp [Ld.cancel, hok, hk, hst]
      rw [e1]
      have hlen : (L.put k { t with st := 2, out := 6 }).tks.length = n := by simp [Ld.put, hn]
      refine (cancel_ok w av A c n L hR hn hc63 k t hok hk hst hav).mono fun e w' ⟨g, he, hr, hb⟩ => ⟨some ⟨g, 0, none⟩, n + 1, ?_, hr, hb⟩
      dsimp only
      rw [hlen]
      exact he

end Go.Proofs.Ytjhkgoengoiljaa

/- Contracts: a ticket is right, by the reference. -/
namespace Go.Proofs.Ytjhkgoengoiljaa
open Go.RowKit


set_option maxRecDepth 100000 in
set_option maxHeartbeats 2000000 in
theorem ticket_any (t : Tk) (w : World) :
    Calls Try.prog 50 #[.agg #[.string t.pk, .string t.ts, .int .i64 t.env, .int .i64 t.cost, .int .i64 t.rev, .int .i64 t.st, .int .i64 t.att, .int .i64 t.run, .int .i64 t.ep, .int .i64 t.out]] w fun e w' => e = .returned (.bool (tkOk t)) ∧ Below w.heap.size w w' := by
  go_enter Try.func50, Try.ntmps50
  go_wp2_with (first | (go_at_call 53; refine (r30check_one (w.heap.size + 1) t _ (by simp [TaskAt]) (by simp)).mono ?_; rintro e w1 ⟨rfl, hb1⟩; have hb2 := bb_start hb1; obtain ⟨hc1, hf1, hz1⟩ := gcell (grown_of_below hb1 none) (w.heap.size + 1) (by first | (simp; done) | (simp; omega)); have : w.heap.size < w1.heap.size := (by omega)) | (go_at_call 67; refine (ran_any t _).mono ?_; rintro e w2 ⟨rfl, hb3⟩; obtain ⟨hc2, hf2, hz2⟩ := gcell (grown_of_below hb3 none) (w.heap.size + 1) hz1; have hb4 := bb_trans hb2 (by omega) hb3) | (go_at_call 66; refine (idle_any t _).mono ?_; rintro e w3 ⟨rfl, hb5⟩; obtain ⟨hc3, hf3, hz3⟩ := gcell (grown_of_below hb5 none) (w.heap.size + 1) (by omega); have hb6 : Below w.heap.size w w3 := (by first | exact bb_trans hb4 (by omega) hb5 | exact bb_trans hb2 (by omega) hb5)))
  all_goals (go_ret; refine ⟨ret_bool ?_, ?_⟩)
  all_goals first
    | (first | exact hb6 | exact hb4 | exact hb2)
    | (simp_all [tkOk, stateB, revB, repB]; done)
    | (simp_all [tkOk, stateB, revB, repB]; omega)
    | trace_state

end Go.Proofs.Ytjhkgoengoiljaa

/- Contracts: a ledger is right, by the reference; find. -/
namespace Go.Proofs.Ytjhkgoengoiljaa
open Go.RowKit

theorem ok_when {L : Ld} (hl : L.tks.length ≤ 128) (hall : L.tks.all tkOk = true) :
    L.ok = (L.repsOk && (L.r1 == accOf L.tks)) := by
  simp [Ld.ok, hall, hl]

set_option maxRecDepth 100000 in
set_option maxHeartbeats 4000000 in
theorem rcheck_any (A : Option Addr) (c n : Nat) (L : Ld) (w : World) (av : Option Nat) (hR : Rs w av 10 Tk.vals A L.tks) (hn : L.tks.length = n) (hc63 : n ≤ 4294967296) :
    Calls Try.prog 30 #[.agg #[.slice A n c, .int .i64 L.r0, .int .i64 L.r1, .int .i64 L.r2, .int .i64 L.r3, .int .i64 L.r4, .int .i64 L.r5]] w fun e w' => e = .returned (.bool L.ok) ∧ Below w.heap.size w w' := by
  have hN := hide hn; clear hn
  by_cases h128 : 128 < n
  · have HK := hide (show L.ok = false by simp [Ld.ok, hN.out]; omega)
    go_enter Try.func30, Try.ntmps30
    go_wp2
    go_ret
    exact ⟨ret_bool HK.out.symm, (Below.refl _ _).alloc (Nat.le_refl _) _⟩
  go_enter Try.func30, Try.ntmps30
  go_wp2
  go_loopw [3, 4] (fun acc i wr => CheckI L n (w.alloc (.cells #[.slice A n c, .int .i64 L.r0, .int .i64 L.r1, .int .i64 L.r2, .int .i64 L.r3, .int .i64 L.r4, .int .i64 L.r5] 26)) wr acc i) (fun _ i _ => n - (intOf i).toNat)
  case atStart => exact ⟨0, Nat.zero_le _, rfl, rfl, rfl, Below.refl _ _⟩
  case round =>
    obtain ⟨k, hk, rfl, rfl, hall, hbr⟩ := hrel
    have HALL := hide hall
    clear hall
    obtain ⟨hc0, hf0, hz0⟩ := gcell (grown_of_below hbr none) (w.heap.size + 1) (by simp)
    by_cases hlt : k < n
    · have hget : L.tks[k]? = some (L.tks[k]'(by rw [hN.out]; exact hlt)) := List.getElem?_eq_getElem _
      generalize L.tks[k]'(by rw [hN.out]; exact hlt) = t at hget
      obtain ⟨b, o, hA, hne, hb, hcells⟩ := hR.at hget
      subst hA
      have HG := hide hget
      clear hget
      obtain ⟨f0, f1, f2, f3, f4, f5, f6, f7, f8, f9⟩ := tkAt_of hcells
      clear hcells
      have hacc : accOf (L.tks.take k) ≤ k := Nat.le_trans (acc_le _) (List.length_take_le _ _)
      have hbb : b < w.heap.size + 1 := by omega
      go_wp2_with (go_at_call 50; refine (ticket_any t _).mono ?_; rintro e w1 ⟨rfl, hb1⟩; obtain ⟨hc1, hf1, hz1⟩ := gcell (grown_of_below hb1 none) (w.heap.size + 1) (by omega))
      · go_ret
        exact ⟨ret_bool (ok_take HG.out (by simpa using ‹(!tkOk t) = true›)).symm, (((Below.refl _ _).alloc (Nat.le_refl _) _).trans (hbr.mono (by simp))).trans (hb1.mono (by omega))⟩
      all_goals
        have ht : tkOk t = true := by simpa using ‹(!tkOk t) = false›
        have ha := acc_take HG.out
        refine ⟨⟨k + 1, by omega, by go_num, ?_, all_take HG.out HALL.out ht, hbr.trans (hb1.mono (by simp; omega))⟩, by simp [intOf]; omega⟩
        rw [ha]
        congr 1
        simp [repB]
        split <;> omega
    · have HL := hide (show L.ok = (L.repsOk && (L.r1 == accOf (L.tks.take k))) by
        have : k = L.tks.length := by have := hN.out; omega
        have hall := HALL.out
        rw [this, List.take_length] at *
        exact ok_when (by have := hN.out; omega) hall)
      have HB := hide (((Below.refl _ _).alloc (Nat.le_refl _) _).trans (hbr.mono (by simp)) : Below w.heap.size w wr)
      go_wp2
      refine wp_loop_rounds 7 ?_
      iterate 7 (all_goals (first | (rw [rounds_succ]; go_wp2) | skip))
      all_goals (go_ret; refine ⟨ret_bool ?_, HB.out⟩; rw [HL.out, Bool.eq_iff_iff]; simp [Ld.repsOk, cntB]; try omega)

end Go.Proofs.Ytjhkgoengoiljaa

/- append onto a row of the call's own, the source any slice that reads as a list. -/
namespace Go.Proofs.Ytjhkgoengoiljaa
open Go.RowKit

section
variable {P : Program} (w : World) {α : Type} {f : α → List Value} {av : Option Nat}

theorem run_append_rs (base : Nat) (t ty e : TypeId) (z : Value) (size bytes : Nat) (ht : P.underlying t = some (.slice e)) (h2 : (P.info? e).map (fun i => (i.zero, i.size, i.bytes)) = some (some z, size, bytes))
    (hzs : z.cells.size = size) (hsz : 0 < size) (v : Value) (n : Nat) (l0 : List α) (hown : w.ownsRow base e size v n (l0.flatMap f))
    (A : Option Addr) (m c : Nat) (l : List α) (hR : Rs w av size f A l) (hl : l.length = m) (hf : ∀ a, (f a).length = size) (h1 : ∀ a, ∀ u ∈ f a, u.oneCell' = true)
    (h63 : n + m ≤ 4294967296) (hby : bytes ≤ 4096) (hbase : base ≤ w.heap.size) :
    ∃ A' c' w', (Builtin.append_ #[t, t] ty #[v, .slice A m c]).run P w = .ok (.slice A' (n + m) c') w' ∧ w'.ownsRow base e size (.slice A' (n + m) c') (n + m) ((l0 ++ l).flatMap f) ∧ w.grownBy w' v.ownBlock ∧
      (∀ g, (Value.slice A' (n + m) c').ownBlock = some g → v.ownBlock = some g ∨ g = w.heap.size) := by
  obtain ⟨i, hi, hz, hsize, hbyt⟩ := info_parts h2
  have hform : ∃ A0 c0, v = .slice A0 n c0 := by
    rcases hown.2 with ⟨rfl, rfl⟩ | ⟨g, cap, cur, rfl, _⟩
    · exact ⟨_, _, rfl⟩
    · exact ⟨_, _, rfl⟩
  by_cases hm : m = 0
  · subst hm
    have hn : l = [] := List.eq_nil_of_length_eq_zero hl
    subst hn
    obtain ⟨A0, c0, rfl⟩ := hform
    refine ⟨A0, c0, w, ?_, by simpa using hown, ⟨rfl, rfl, rfl, Nat.le_refl _, fun _ _ _ => rfl⟩, fun g hg => .inl hg⟩
    rcases hown.2 with ⟨h, rfl⟩ | ⟨g, cap, cur, h, _, _, hnc, _⟩
    · injection h with h3 h4 h5
      subst h3; subst h5
      cases A <;> simp [Builtin.append_, run_underlying ht, sizeOf, typeInfo, hi, Builtin.lenOf, Builtin.firstCells, loadCells, loadCellsFrom]
    · injection h with h3 h4 h5
      subst h3; subst h5
      cases A <;> simp [Builtin.append_, run_underlying ht, sizeOf, typeInfo, hi, Builtin.lenOf, Builtin.firstCells, hnc, storeCells, loadCells, loadCellsFrom]
  · obtain ⟨b, o, rfl, hne, hb, hc⟩ := hR.flat hf (by rintro rfl; simp at hl; omega)
    have hbb : (n + m) * bytes ≤ 140737488355328 := by
      have : (n + m) * bytes ≤ 4294967296 * 4096 := Nat.mul_le_mul h63 hby
      omega
    obtain ⟨v', w', hr, h3, h4, _, h5⟩ := run_append_own_at (P := P) w base t ty e i z size bytes ht hi hz hsize hbyt hzs hsz v n _ hown ⟨b, o, none⟩ m c (l.flatMap f) (by rw [flat_len hf, hl]) hc (by
      intro u hu
      obtain ⟨x, _, hx⟩ := List.mem_flatMap.1 hu
      exact h1 x u hx) (by simp only [maxLen]; omega) hbb hbase
    obtain ⟨g, cap, rfl, _, _⟩ := h3.form (by omega)
    refine ⟨_, _, w', hr, by simpa using h3, h4, fun g' hg' => ?_⟩
    rcases h5 with h5 | h5
    · exact .inl (by rw [← h5]; exact hg')
    · right
      rw [hg'] at h5
      injection h5

theorem wl_append {ops : Array Oper} {rest : List Oper} {o : Oper} {a : Act} {Q : Exit → Act → World → Prop} (hgd : o.guard = none) (s x : Operand) (t : TypeId)
    (ho : o.op = .call { callee := .builtin .append, args := #[s, x], argTypes := #[t, t] })
    (base : Nat) (e : TypeId) (z : Value) (size bytes : Nat) (ht : P.underlying t = some (.slice e)) (h2 : (P.info? e).map (fun i => (i.zero, i.size, i.bytes)) = some (some z, size, bytes))
    (hzs : z.cells.size = size) (hsz : 0 < size) (v : Value) (n : Nat) (l0 : List α) (hs : a.eval s = v) (hown : w.ownsRow base e size v n (l0.flatMap f))
    (A : Option Addr) (m c : Nat) (l : List α) (hx : a.eval x = .slice A m c) (hR : Rs w av size f A l) (hl : l.length = m) (hf : ∀ a, (f a).length = size) (h1 : ∀ a, ∀ u ∈ f a, u.oneCell' = true)
    (h63 : n + m ≤ 4294967296) (hby : bytes ≤ 4096) (hbase : base ≤ w.heap.size)
    (h : ∀ A' c' w', w'.ownsRow base e size (.slice A' (n + m) c') (n + m) ((l0 ++ l).flatMap f) → w.grownBy w' v.ownBlock →
      (∀ g, (Value.slice A' (n + m) c').ownBlock = some g → v.ownBlock = some g ∨ g = w.heap.size) → wpList P ops Q rest (a.put o.dst (.slice A' (n + m) c')) w') : wpList P ops Q (o :: rest) a w := by
  obtain ⟨A', c', w', hr, h3, h4, h5⟩ := run_append_rs (P := P) w base t o.type e z size bytes ht h2 hzs hsz v n l0 hown A m c l hR hl hf h1 h63 hby hbase
  refine wpList_plain hgd fun K hK' => ?_
  unfold Oper.wp
  simp only [execOp, ho, resolve, invoke, builtin, hs, hx, hr, Result.andThen, Sem.run_bind, Sem.run_pure, List.map_toArray, List.map_cons, List.map_nil, Oper.upon]
  exact hK' _ _ (h A' c' w' h3 h4 h5)

theorem step_append {ops : Array Oper} {o : Oper} {a : Act} {K : Act → World → Prop} {Q : Exit → Act → World → Prop} {E : Prop} (hgd : o.guard = none) (s x : Operand) (t : TypeId)
    (ho : o.op = .call { callee := .builtin .append, args := #[s, x], argTypes := #[t, t] })
    (base : Nat) (e : TypeId) (z : Value) (size bytes : Nat) (ht : P.underlying t = some (.slice e)) (h2 : (P.info? e).map (fun i => (i.zero, i.size, i.bytes)) = some (some z, size, bytes))
    (hzs : z.cells.size = size) (hsz : 0 < size) (v : Value) (n : Nat) (l0 : List α) (hs : a.eval s = v) (hown : w.ownsRow base e size v n (l0.flatMap f))
    (A : Option Addr) (m c : Nat) (l : List α) (hx : a.eval x = .slice A m c) (hR : Rs w av size f A l) (hl : l.length = m) (hf : ∀ a, (f a).length = size) (h1 : ∀ a, ∀ u ∈ f a, u.oneCell' = true)
    (h63 : n + m ≤ 4294967296) (hby : bytes ≤ 4096) (hbase : base ≤ w.heap.size)
    (h : ∀ A' c' w', w'.ownsRow base e size (.slice A' (n + m) c') (n + m) ((l0 ++ l).flatMap f) → w.grownBy w' v.ownBlock →
      (∀ g, (Value.slice A' (n + m) c').ownBlock = some g → v.ownBlock = some g ∨ g = w.heap.size) → K (a.put o.dst (.slice A' (n + m) c')) w') :
    if Region.wanted o (yielded ops a.tmps) = true then Oper.wp P o a w K Q else E := by
  obtain ⟨A', c', w', hr, h3, h4, h5⟩ := run_append_rs (P := P) w base t o.type e z size bytes ht h2 hzs hsz v n l0 hown A m c l hR hl hf h1 h63 hby hbase
  have hw : Region.wanted o (yielded ops a.tmps) = true := by simp [Region.wanted, hgd]
  rw [if_pos hw]
  unfold Oper.wp
  simp only [execOp, ho, resolve, invoke, builtin, hs, hx, hr, Result.andThen, Sem.run_bind, Sem.run_pure, List.map_toArray, List.map_cons, List.map_nil, Oper.upon]
  exact h A' c' w' h3 h4 h5
end

/-- One element that lies in a block of its own. -/
theorem rs_one {w : World} {av : Option Nat} {α : Type} {f : α → List Value} {s b : Nat} {x : α} (hb : some b ≠ av) (hlt : b < w.heap.size) (h : ∀ j u, (f x)[j]? = some u → w.cell? ⟨b, j, none⟩ = some u) : Rs w av s f (some ⟨b, 0, none⟩) [x] := by
  intro _
  refine ⟨b, 0, rfl, hb, hlt, fun k a hk j u hu => ?_⟩
  cases k with
  | zero => simp at hk; subst hk; simpa using h j u hu
  | succ k => simp at hk

end Go.Proofs.Ytjhkgoengoiljaa

/- Contracts of the reference: find, with. -/
namespace Go.Proofs.Ytjhkgoengoiljaa
open Go.RowKit

set_option maxRecDepth 100000 in
set_option maxHeartbeats 2000000 in
theorem find_bad (w : World) (av : Option Nat) (A : Option Addr) (c n : Nat) (L : Ld) (hR : Rs w av 10 Tk.vals A L.tks) (hn : L.tks.length = n) (hc63 : n ≤ 4294967296) (k : Int) (hok : L.ok = false) :
    Calls Try.prog 54 #[.agg #[.slice A n c, .int .i64 L.r0, .int .i64 L.r1, .int .i64 L.r2, .int .i64 L.r3, .int .i64 L.r4, .int .i64 L.r5], .int .i64 k] w fun e w' => e = .returned (.int .i64 1) ∧ Below w.heap.size w w' := by
  have hN := hide hn; clear hn
  go_enter Try.func54, Try.ntmps54
  go_wp2_with (go_at_call 30; refine (rcheck_any A c n L _ av (hR.alloc _) hN.out hc63).mono ?_; rintro e w1 ⟨rfl, hb1⟩; obtain ⟨hc1, hf1, hz1⟩ := gcell (grown_of_below hb1 none) (w.heap.size + 1) (by first | (simp; done) | (simp; omega)); have : w.heap.size < w1.heap.size := (by omega))
  go_ret
  exact ⟨rfl, ((Below.refl _ _).alloc (Nat.le_refl _) _).trans (hb1.mono (by simp))⟩

set_option maxRecDepth 100000 in
set_option maxHeartbeats 2000000 in
theorem find_none (w : World) (av : Option Nat) (A : Option Addr) (c n : Nat) (L : Ld) (hR : Rs w av 10 Tk.vals A L.tks) (hn : L.tks.length = n) (hc63 : n ≤ 4294967296) (k : Int) (hok : L.ok = true) (hk : L.get? k = none) :
    Calls Try.prog 54 #[.agg #[.slice A n c, .int .i64 L.r0, .int .i64 L.r1, .int .i64 L.r2, .int .i64 L.r3, .int .i64 L.r4, .int .i64 L.r5], .int .i64 k] w fun e w' => e = .returned (.int .i64 18) ∧ Below w.heap.size w w' := by
  have hkk : ¬ (0 ≤ k ∧ k < n) := by have := get?_none hk; rw [hn] at this; simp at this; omega
  have HK := hide hkk
  have hN := hide hn; clear hn hk hkk
  go_enter Try.func54, Try.ntmps54
  go_wp2_with (go_at_call 30; refine (rcheck_any A c n L _ av (hR.alloc _) hN.out hc63).mono ?_; rintro e w1 ⟨rfl, hb1⟩; obtain ⟨hc1, hf1, hz1⟩ := gcell (grown_of_below hb1 none) (w.heap.size + 1) (by first | (simp; done) | (simp; omega)); have : w.heap.size < w1.heap.size := (by omega))
  all_goals first
    | (exfalso; have := HK.out; omega)
    | (go_ret; exact ⟨rfl, ((Below.refl _ _).alloc (Nat.le_refl _) _).trans (hb1.mono (by simp))⟩)

set_option maxRecDepth 100000 in
set_option maxHeartbeats 2000000 in
theorem find_ok (w : World) (av : Option Nat) (A : Option Addr) (c n : Nat) (L : Ld) (hR : Rs w av 10 Tk.vals A L.tks) (hn : L.tks.length = n) (hc63 : n ≤ 4294967296) (i : Nat) (hok : L.ok = true) (hi : i < n) :
    Calls Try.prog 54 #[.agg #[.slice A n c, .int .i64 L.r0, .int .i64 L.r1, .int .i64 L.r2, .int .i64 L.r3, .int .i64 L.r4, .int .i64 L.r5], .int .i64 i] w fun e w' => e = .returned (.int .i64 0) ∧ Below w.heap.size w w' := by
  have hN := hide hn; clear hn
  go_enter Try.func54, Try.ntmps54
  go_wp2_with (go_at_call 30; refine (rcheck_any A c n L _ av (hR.alloc _) hN.out hc63).mono ?_; rintro e w1 ⟨rfl, hb1⟩; obtain ⟨hc1, hf1, hz1⟩ := gcell (grown_of_below hb1 none) (w.heap.size + 1) (by first | (simp; done) | (simp; omega)); have : w.heap.size < w1.heap.size := (by omega))
  go_ret
  exact ⟨rfl, ((Below.refl _ _).alloc (Nat.le_refl _) _).trans (hb1.mono (by simp))⟩

set_option maxRecDepth 100000 in
set_option maxHeartbeats 2000000 in
theorem with_any (w : World) (av : Option Nat) (A : Option Addr) (c n : Nat) (L : Ld) (hR : Rs w av 10 Tk.vals A L.tks) (hn : L.tks.length = n) (hc63 : n ≤ 4294967296) (i : Nat) (t : Tk) (hi : i < n) :
    Calls Try.prog 55 #[.agg #[.slice A n c, .int .i64 L.r0, .int .i64 L.r1, .int .i64 L.r2, .int .i64 L.r3, .int .i64 L.r4, .int .i64 L.r5], .int .i64 i, .agg #[.string t.pk, .string t.ts, .int .i64 t.env, .int .i64 t.cost, .int .i64 t.rev, .int .i64 t.st, .int .i64 t.att, .int .i64 t.run, .int .i64 t.ep, .int .i64 t.out]] w fun e w' => ∃ g c', e = .returned (.agg #[.slice (some ⟨g, 0, none⟩) n c', .int .i64 L.r0, .int .i64 L.r1, .int .i64 L.r2, .int .i64 L.r3, .int .i64 L.r4, .int .i64 L.r5]) ∧
      w'.ownsRow w.heap.size 43 10 (.slice (some ⟨g, 0, none⟩) n c') n ((L.tks.set i t).flatMap Tk.vals) ∧ Below w.heap.size w w' := by
  have hN := hide hn; clear hn
  go_enter Try.func55, Try.ntmps55
  have hget : ∃ t0, L.tks[i]? = some t0 := ⟨_, List.getElem?_eq_getElem (by rw [hN.out]; exact hi)⟩
  obtain ⟨t0, hget⟩ := hget
  have HG := hide hget
  clear hget
  go_wp2_with (at_builtin; refine wl_append _ rfl _ (.tmp 8) 23 rfl w.heap.size 43 _ 10 96 Try.underlying23 info43 rfl (by decide) (.slice none 0 0) 0 ([] : List Tk) rfl (World.ownsRow_nil _ _ _ _) A n c L.tks rfl (((hR.alloc _).alloc _).alloc _) hN.out Tk.vals_len Tk.vals_one (by omega) (by decide) (by simp; omega) ?_; intro A1 c1 w1 hown1 hg1 hat1; obtain ⟨hc1, hf1, hz1⟩ := gcell (row := none) hg1 (w.heap.size + 3) (by simp); obtain ⟨g, cap, hv, hgb, hglt⟩ := hown1.form (by omega); injection hv with hv1 hv2 hv3; subst hv1; subst hv3; have hge : w.heap.size + 3 ≤ g := (by have := hat1 g rfl; simp [Value.ownBlock] at this; omega); rw [Nat.zero_add, List.nil_append] at hown1; obtain ⟨f0, f1, f2, f3, f4, f5, f6, f7, f8, f9⟩ := tkAt_of (own_cells Tk.vals_len hown1 HG.out); have hfz := (fun j => hown1.frozenAt j); have HO := hide hown1; clear hown1 hat1 hv2; have hn0 : ¬ w.heap.size = g := (by omega); have hn1 : ¬ w.heap.size + 1 = g := (by omega); have hn2 : ¬ w.heap.size + 2 = g := (by omega); have := hc1 (w.heap.size) 0 (by omega) (by simp); simp [go_sem] at this; have := hc1 (w.heap.size) 1 (by omega) (by simp); simp [go_sem] at this; have := hc1 (w.heap.size) 2 (by omega) (by simp); simp [go_sem] at this; have := hc1 (w.heap.size) 3 (by omega) (by simp); simp [go_sem] at this; have := hc1 (w.heap.size) 4 (by omega) (by simp); simp [go_sem] at this; have := hc1 (w.heap.size) 5 (by omega) (by simp); simp [go_sem] at this; have := hc1 (w.heap.size) 6 (by omega) (by simp); simp [go_sem] at this; have := hc1 (w.heap.size + 1) 0 (by omega) (by simp); simp [go_sem] at this; have := hc1 (w.heap.size + 1) 1 (by omega) (by simp); simp [go_sem] at this; have := hc1 (w.heap.size + 1) 2 (by omega) (by simp); simp [go_sem] at this; have := hc1 (w.heap.size + 1) 3 (by omega) (by simp); simp [go_sem] at this; have := hc1 (w.heap.size + 1) 4 (by omega) (by simp); simp [go_sem] at this; have := hc1 (w.heap.size + 1) 5 (by omega) (by simp); simp [go_sem] at this; have := hc1 (w.heap.size + 1) 6 (by omega) (by simp); simp [go_sem] at this; have := hc1 (w.heap.size + 1) 7 (by omega) (by simp); simp [go_sem] at this; have := hc1 (w.heap.size + 1) 8 (by omega) (by simp); simp [go_sem] at this; have := hc1 (w.heap.size + 1) 9 (by omega) (by simp); simp [go_sem] at this; have := hc1 (w.heap.size + 2) 0 (by omega) (by simp); simp [go_sem] at this; have := hc1 (w.heap.size + 2) 1 (by omega) (by simp); simp [go_sem] at this; have := hc1 (w.heap.size + 2) 2 (by omega) (by simp); simp [go_sem] at this; have := hc1 (w.heap.size + 2) 3 (by omega) (by simp); simp [go_sem] at this; have := hc1 (w.heap.size + 2) 4 (by omega) (by simp); simp [go_sem] at this; have := hc1 (w.heap.size + 2) 5 (by omega) (by simp); simp [go_sem] at this; have := hc1 (w.heap.size + 2) 6 (by omega) (by simp); simp [go_sem] at this; have := fun j => hf1 (w.heap.size) j (by omega) (by simp); simp [go_sem] at this; have := fun j => hf1 (w.heap.size + 2) j (by omega) (by simp); simp [go_sem] at this; clear hc1 hf1)
  refine bodyPost_ret (v := .agg #[.slice (some ⟨g, 0, none⟩) n c1, .int .i64 L.r0, .int .i64 L.r1, .int .i64 L.r2, .int .i64 L.r3, .int .i64 L.r4, .int .i64 L.r5]) (by simp [results, Try.results55, go_sem, *]) rfl ⟨g, c1, rfl, ?_, ?_⟩
  · (iterate 7 (refine own_far ?_ (by simp [Value.ownBlock]; omega) _))
    exact own_put10 t (own_start (own_far HO.out (p := ⟨w.heap.size, 0, none⟩) (by simp [Value.ownBlock]; omega) _) HG.out) (by rw [hN.out]; exact hi)
  · (repeat' refine Below.setCell ?_ (by first | (simp; done) | (simp; omega)) _)
    exact (Fr.grown (row := none) (((((Fr.refl w (fun _ => False)).alloc _).alloc _).alloc _)) hg1 (by simp)).below (Nat.le_refl _) (fun _ _ h => h)

end Go.Proofs.Ytjhkgoengoiljaa
