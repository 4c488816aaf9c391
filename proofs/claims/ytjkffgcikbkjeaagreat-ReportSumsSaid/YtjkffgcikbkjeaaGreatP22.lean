/- Contracts of the functions that these laws reach: part 22: Contracts: Begin; Contracts: Fail, Cancel; The ledger's calls on the book; Contracts: noise.Choose; Contracts: the reference's Choose. -/
import Derived.Test.YtjkffgcikbkjeaaGreatP21
import Derived.Test.YtjkffgcikbkjeaaGreatP20
import Derived.Test.YtjkffgcikbkjeaaGreatP11
set_option linter.unusedVariables false
set_option linter.unusedSimpArgs false

/- Contracts: Begin. -/
namespace Go.Proofs.YtjkffgcikbkjeaaGreat
open Go.RowKit

theorem tk_att {L : Ld} {k : Int} {t : Tk} (hok : L.ok = true) (hk : L.get? k = some t) : tkOk t = true := by
  obtain ⟨i, rfl, _, hi⟩ := get?_some hk
  cases h : tkOk t
  · rw [ok_take hi h] at hok; cases hok
  · rfl
theorem tk_wait {t : Tk} (h : tkOk t = true) (hs : t.st = 0) : 0 ≤ t.att ∧ t.att ≤ 4 := by
  simp [tkOk, stateB, hs, restB] at h
  omega


set_option maxRecDepth 100000 in
set_option maxHeartbeats 2000000 in
theorem begin_bad (w : World) (av : Option Nat) (A : Option Addr) (c n : Nat) (L : Ld) (hR : Rs w av 10 Tk.vals A L.tks) (hn : L.tks.length = n) (hc63 : n ≤ 4294967296) (k run ep : Int) (hok : L.ok = false) :
    Calls Tryz.prog 17 #[.agg #[.slice A n c, .int .i64 L.r0, .int .i64 L.r1, .int .i64 L.r2, .int .i64 L.r3, .int .i64 L.r4, .int .i64 L.r5], .int .i64 k, .int .i64 run, .int .i64 ep] w fun e w' => e = .returned (.tuple #[.agg #[.slice none 0 0, .int .i64 0, .int .i64 0, .int .i64 0, .int .i64 0, .int .i64 0, .int .i64 0], .int .i64 0, .int .i64 1]) ∧ Below w.heap.size w w' := by
  have hN := hide hn; clear hn
  go_enter Tryz.func17, Tryz.ntmps17
  go_wp2_with (go_at_call 29; refine (change_bad A c n L k _ _ av (((((hR.alloc _).alloc _).alloc _).alloc _).alloc _) hN.out hc63 hok).mono ?_; rintro e w1 ⟨rfl, hb1⟩; obtain ⟨hc1, hf1, hz1⟩ := gcell (grown_of_below hb1 none) (w.heap.size + 5) (by first | (simp; done) | (simp; omega)); have : w.heap.size + 3 < w1.heap.size := (by omega); have : w.heap.size + 4 < w1.heap.size := (by omega); have : w.heap.size < w1.heap.size := (by omega))
  have := hc1 (w.heap.size) 0 (by omega) (by simp); simp [go_sem] at this; have := hc1 (w.heap.size) 1 (by omega) (by simp); simp [go_sem] at this; have := hc1 (w.heap.size) 2 (by omega) (by simp); simp [go_sem] at this; have := hc1 (w.heap.size) 3 (by omega) (by simp); simp [go_sem] at this; have := hc1 (w.heap.size) 4 (by omega) (by simp); simp [go_sem] at this; have := hc1 (w.heap.size) 5 (by omega) (by simp); simp [go_sem] at this; have := hc1 (w.heap.size) 6 (by omega) (by simp); simp [go_sem] at this; have := hc1 (w.heap.size + 3) 0 (by omega) (by simp); simp [go_sem] at this; have := hc1 (w.heap.size + 3) 1 (by omega) (by simp); simp [go_sem] at this; have := hc1 (w.heap.size + 3) 2 (by omega) (by simp); simp [go_sem] at this; have := hc1 (w.heap.size + 3) 3 (by omega) (by simp); simp [go_sem] at this; have := hc1 (w.heap.size + 3) 4 (by omega) (by simp); simp [go_sem] at this; have := hc1 (w.heap.size + 3) 5 (by omega) (by simp); simp [go_sem] at this; have := hc1 (w.heap.size + 3) 6 (by omega) (by simp); simp [go_sem] at this; have := hc1 (w.heap.size + 4) 0 (by omega) (by simp); simp [go_sem] at this; have := fun j => hf1 (w.heap.size) j (by omega) (by simp); simp [go_sem] at this; have := fun j => hf1 (w.heap.size + 3) j (by omega) (by simp); simp [go_sem] at this; clear hc1 hf1
  go_region
  go_wp2_with fail
  refine bodyPost_ret (by simp [results, Tryz.results17, go_sem, *]) rfl ⟨rfl, ?_⟩
  refine Below.drew ?_
  (repeat' refine Below.setCell ?_ (by first | (simp; done) | (simp; omega)) _)
  exact (Fr.of_below _ hb1 |> (((((((Fr.refl w (fun _ => False)).alloc _).alloc _).alloc _).alloc _).alloc _)).trans).below (Nat.le_refl _) (fun _ _ h => h)

set_option maxRecDepth 100000 in
set_option maxHeartbeats 2000000 in
theorem begin_none (w : World) (av : Option Nat) (A : Option Addr) (c n : Nat) (L : Ld) (hR : Rs w av 10 Tk.vals A L.tks) (hn : L.tks.length = n) (hc63 : n ≤ 4294967296) (k run ep : Int) (hok : L.ok = true) (hk : L.get? k = none) :
    Calls Tryz.prog 17 #[.agg #[.slice A n c, .int .i64 L.r0, .int .i64 L.r1, .int .i64 L.r2, .int .i64 L.r3, .int .i64 L.r4, .int .i64 L.r5], .int .i64 k, .int .i64 run, .int .i64 ep] w fun e w' => e = .returned (.tuple #[.agg #[.slice none 0 0, .int .i64 0, .int .i64 0, .int .i64 0, .int .i64 0, .int .i64 0, .int .i64 0], .int .i64 0, .int .i64 18]) ∧ Below w.heap.size w w' := by
  have hN := hide hn; clear hn
  have HK := hide hk; clear hk
  go_enter Tryz.func17, Tryz.ntmps17
  go_wp2_with (go_at_call 29; refine (change_none A c n L k _ _ av (((((hR.alloc _).alloc _).alloc _).alloc _).alloc _) hN.out hc63 hok HK.out).mono ?_; rintro e w1 ⟨rfl, hb1⟩; obtain ⟨hc1, hf1, hz1⟩ := gcell (grown_of_below hb1 none) (w.heap.size + 5) (by first | (simp; done) | (simp; omega)); have : w.heap.size + 3 < w1.heap.size := (by omega); have : w.heap.size + 4 < w1.heap.size := (by omega); have : w.heap.size < w1.heap.size := (by omega))
  have := hc1 (w.heap.size) 0 (by omega) (by simp); simp [go_sem] at this; have := hc1 (w.heap.size) 1 (by omega) (by simp); simp [go_sem] at this; have := hc1 (w.heap.size) 2 (by omega) (by simp); simp [go_sem] at this; have := hc1 (w.heap.size) 3 (by omega) (by simp); simp [go_sem] at this; have := hc1 (w.heap.size) 4 (by omega) (by simp); simp [go_sem] at this; have := hc1 (w.heap.size) 5 (by omega) (by simp); simp [go_sem] at this; have := hc1 (w.heap.size) 6 (by omega) (by simp); simp [go_sem] at this; have := hc1 (w.heap.size + 3) 0 (by omega) (by simp); simp [go_sem] at this; have := hc1 (w.heap.size + 3) 1 (by omega) (by simp); simp [go_sem] at this; have := hc1 (w.heap.size + 3) 2 (by omega) (by simp); simp [go_sem] at this; have := hc1 (w.heap.size + 3) 3 (by omega) (by simp); simp [go_sem] at this; have := hc1 (w.heap.size + 3) 4 (by omega) (by simp); simp [go_sem] at this; have := hc1 (w.heap.size + 3) 5 (by omega) (by simp); simp [go_sem] at this; have := hc1 (w.heap.size + 3) 6 (by omega) (by simp); simp [go_sem] at this; have := hc1 (w.heap.size + 4) 0 (by omega) (by simp); simp [go_sem] at this; have := fun j => hf1 (w.heap.size) j (by omega) (by simp); simp [go_sem] at this; have := fun j => hf1 (w.heap.size + 3) j (by omega) (by simp); simp [go_sem] at this; clear hc1 hf1
  go_region
  go_wp2_with fail
  refine bodyPost_ret (by simp [results, Tryz.results17, go_sem, *]) rfl ⟨rfl, ?_⟩
  refine Below.drew ?_
  (repeat' refine Below.setCell ?_ (by first | (simp; done) | (simp; omega)) _)
  exact (Fr.of_below _ hb1 |> (((((((Fr.refl w (fun _ => False)).alloc _).alloc _).alloc _).alloc _).alloc _)).trans).below (Nat.le_refl _) (fun _ _ h => h)

set_option maxRecDepth 100000 in
set_option maxHeartbeats 2000000 in
theorem begin_err (w : World) (av : Option Nat) (A : Option Addr) (c n : Nat) (L : Ld) (hR : Rs w av 10 Tk.vals A L.tks) (hn : L.tks.length = n) (hc63 : n ≤ 4294967296) (k run ep : Int) (t : Tk) (hok : L.ok = true) (hk : L.get? k = some t) (er : Int) (her : (er != 0) = true) (hran : (ranB 1 run ep = false ∧ er = 3) ∨ (ranB 1 run ep = true ∧ t.st ≠ 0 ∧ er = 45)) :
    Calls Tryz.prog 17 #[.agg #[.slice A n c, .int .i64 L.r0, .int .i64 L.r1, .int .i64 L.r2, .int .i64 L.r3, .int .i64 L.r4, .int .i64 L.r5], .int .i64 k, .int .i64 run, .int .i64 ep] w fun e w' => e = .returned (.tuple #[.agg #[.slice none 0 0, .int .i64 0, .int .i64 0, .int .i64 0, .int .i64 0, .int .i64 0, .int .i64 0], .int .i64 0, .int .i64 er]) ∧ Below w.heap.size w w' := by
  have hN := hide hn; clear hn
  have HK := hide hk; clear hk
  have HR := hide hran; clear hran
  go_enter Tryz.func17, Tryz.ntmps17
  go_wp2_with (go_at_call 29; refine (change_begin_err A c n L k t (w.heap.size + 1) (w.heap.size + 2) (w.heap.size + 4) run ep 0 _ av (((((hR.alloc _).alloc _).alloc _).alloc _).alloc _) hN.out hc63 hok HK.out er her (by simp [go_sem]) (by simp [go_sem]) (by simp [go_sem]) (by simp [go_sem]) (by simp) (by simp) (by simp) HR.out).mono ?_; rintro e w1 ⟨rfl, hb1⟩; obtain ⟨hc1, hf1, hz1⟩ := gcell (grown_of_below hb1 none) (w.heap.size + 5) (by first | (simp; done) | (simp; omega)); have : w.heap.size + 3 < w1.heap.size := (by omega); have : w.heap.size + 4 < w1.heap.size := (by omega); have : w.heap.size < w1.heap.size := (by omega))
  have := hc1 (w.heap.size) 0 (by omega) (by simp); simp [go_sem] at this; have := hc1 (w.heap.size) 1 (by omega) (by simp); simp [go_sem] at this; have := hc1 (w.heap.size) 2 (by omega) (by simp); simp [go_sem] at this; have := hc1 (w.heap.size) 3 (by omega) (by simp); simp [go_sem] at this; have := hc1 (w.heap.size) 4 (by omega) (by simp); simp [go_sem] at this; have := hc1 (w.heap.size) 5 (by omega) (by simp); simp [go_sem] at this; have := hc1 (w.heap.size) 6 (by omega) (by simp); simp [go_sem] at this; have := hc1 (w.heap.size + 3) 0 (by omega) (by simp); simp [go_sem] at this; have := hc1 (w.heap.size + 3) 1 (by omega) (by simp); simp [go_sem] at this; have := hc1 (w.heap.size + 3) 2 (by omega) (by simp); simp [go_sem] at this; have := hc1 (w.heap.size + 3) 3 (by omega) (by simp); simp [go_sem] at this; have := hc1 (w.heap.size + 3) 4 (by omega) (by simp); simp [go_sem] at this; have := hc1 (w.heap.size + 3) 5 (by omega) (by simp); simp [go_sem] at this; have := hc1 (w.heap.size + 3) 6 (by omega) (by simp); simp [go_sem] at this; have := hc1 (w.heap.size + 4) 0 (by omega) (by simp); simp [go_sem] at this; have := fun j => hf1 (w.heap.size) j (by omega) (by simp); simp [go_sem] at this; have := fun j => hf1 (w.heap.size + 3) j (by omega) (by simp); simp [go_sem] at this; clear hc1 hf1
  go_region
  go_wp2_with fail
  refine bodyPost_ret (by simp [results, Tryz.results17, go_sem, *]) rfl ⟨rfl, ?_⟩
  refine Below.drew ?_
  (repeat' refine Below.setCell ?_ (by first | (simp; done) | (simp; omega)) _)
  exact (Fr.of_below _ hb1 |> (((((((Fr.refl w (fun _ => False)).alloc _).alloc _).alloc _).alloc _).alloc _)).trans).below (Nat.le_refl _) (fun _ _ h => h)

set_option maxRecDepth 100000 in
set_option maxHeartbeats 2000000 in
theorem begin_ok (w : World) (av : Option Nat) (A : Option Addr) (c n : Nat) (L : Ld) (hR : Rs w av 10 Tk.vals A L.tks) (hn : L.tks.length = n) (hc63 : n ≤ 4294967296) (k run ep : Int) (t : Tk) (hok : L.ok = true) (hk : L.get? k = some t) (hran : ranB 1 run ep = true) (hst : t.st = 0) (hav : ∀ x, av = some x → x < w.heap.size) :
    Calls Tryz.prog 17 #[.agg #[.slice A n c, .int .i64 L.r0, .int .i64 L.r1, .int .i64 L.r2, .int .i64 L.r3, .int .i64 L.r4, .int .i64 L.r5], .int .i64 k, .int .i64 run, .int .i64 ep] w fun e w' => ∃ g, e = .returned (.tuple #[.agg #[.slice (some ⟨g, 0, none⟩) n (n + 1), .int .i64 L.r0, .int .i64 L.r1, .int .i64 L.r2, .int .i64 L.r3, .int .i64 L.r4, .int .i64 L.r5], .int .i64 (t.att + 1), .int .i64 0]) ∧
      Rs w' av 10 Tk.vals (some ⟨g, 0, none⟩) (L.put k { t with st := 1, att := t.att + 1, run := run, ep := ep }).tks ∧ Below w.heap.size w w' := by
  have hatt := tk_wait (tk_att hok hk) hst
  have hN := hide hn; clear hn
  have HK := hide hk; clear hk
  have HR := hide hran; clear hran
  have HS := hide hst; clear hst
  go_enter Tryz.func17, Tryz.ntmps17
  go_wp2_with (go_at_call 29; refine (change_begin_ok A c n L k t (w.heap.size + 1) (w.heap.size + 2) (w.heap.size + 4) run ep 0 _ av (((((hR.alloc _).alloc _).alloc _).alloc _).alloc _) hN.out hc63 hok HK.out (by simp [go_sem]) (by simp [go_sem]) (by simp [go_sem]) (by simp [go_sem]) (by simp) (by simp) (by simp) HR.out HS.out hatt).mono ?_; rintro e w1 ⟨g, rfl, hown1, hcell1, hfr1⟩; obtain ⟨hc1, hf1, hz1⟩ := fcell hfr1 (w.heap.size + 4) (by simp); have : w.heap.size + 3 < w1.heap.size := (by have := hfr1.size; simp at this; omega); have : w.heap.size + 4 < w1.heap.size := (by have := hfr1.size; simp at this; omega); have : w.heap.size < w1.heap.size := (by omega); have hg1 := (hown1.lt g rfl).1; simp at hg1; have hg2 := (hown1.lt g rfl).2)
  have := hc1 (w.heap.size) 0 (by omega) (by simp); simp [go_sem] at this; have := hc1 (w.heap.size) 1 (by omega) (by simp); simp [go_sem] at this; have := hc1 (w.heap.size) 2 (by omega) (by simp); simp [go_sem] at this; have := hc1 (w.heap.size) 3 (by omega) (by simp); simp [go_sem] at this; have := hc1 (w.heap.size) 4 (by omega) (by simp); simp [go_sem] at this; have := hc1 (w.heap.size) 5 (by omega) (by simp); simp [go_sem] at this; have := hc1 (w.heap.size) 6 (by omega) (by simp); simp [go_sem] at this
  have := hc1 (w.heap.size + 3) 0 (by omega) (by simp); simp [go_sem] at this; have := hc1 (w.heap.size + 3) 1 (by omega) (by simp); simp [go_sem] at this; have := hc1 (w.heap.size + 3) 2 (by omega) (by simp); simp [go_sem] at this; have := hc1 (w.heap.size + 3) 3 (by omega) (by simp); simp [go_sem] at this; have := hc1 (w.heap.size + 3) 4 (by omega) (by simp); simp [go_sem] at this; have := hc1 (w.heap.size + 3) 5 (by omega) (by simp); simp [go_sem] at this; have := hc1 (w.heap.size + 3) 6 (by omega) (by simp); simp [go_sem] at this
  have := fun j => hf1 (w.heap.size) j (by omega) (by simp); simp [go_sem] at this
  have := fun j => hf1 (w.heap.size + 3) j (by omega) (by simp); simp [go_sem] at this
  clear hc1 hf1
  go_region
  go_wp2_with fail
  refine bodyPost_ret (v := .tuple #[.agg #[.slice (some ⟨g, 0, none⟩) n (n + 1), .int .i64 L.r0, .int .i64 L.r1, .int .i64 L.r2, .int .i64 L.r3, .int .i64 L.r4, .int .i64 L.r5], .int .i64 (t.att + 1), .int .i64 0]) (by simp [results, Tryz.results17, go_sem, *]) rfl ⟨g, rfl, ?_, ?_⟩
  · refine Rs.of_own (base := w.heap.size) (n := n) (c := n + 1) (e := 76) (own_drew ?_) Tk.vals_len (by simp [Ld.put, hN.out]) hav
    (repeat' refine own_far ?_ (by simp [Value.ownBlock]; omega) _)
    exact own_base hown1 (by simp; omega)
  · refine Below.drew ?_
    (repeat' refine Below.setCell ?_ (by first | (simp; done) | (simp; omega)) _)
    exact (((((((Fr.refl w (fun _ => False)).alloc _).alloc _).alloc _).alloc _).alloc _).step hfr1 (fun j hj hs => by have hs2 : j = w.heap.size + 4 := hs; omega)).below (Nat.le_refl _) (fun _ _ h => h)

theorem begin_any (w : World) (av : Option Nat) (A : Option Addr) (c n : Nat) (L : Ld) (hR : Rs w av 10 Tk.vals A L.tks) (hn : L.tks.length = n) (hc63 : n ≤ 4294967296) (k run ep : Int) (hav : ∀ x, av = some x → x < w.heap.size) :
    Calls Tryz.prog 17 #[.agg #[.slice A n c, .int .i64 L.r0, .int .i64 L.r1, .int .i64 L.r2, .int .i64 L.r3, .int .i64 L.r4, .int .i64 L.r5], .int .i64 k, .int .i64 run, .int .i64 ep] w fun e w' => ∃ A' c', e = .returned (.tuple #[.agg #[.slice A' (L.begin k run ep).1.tks.length c', .int .i64 (L.begin k run ep).1.r0, .int .i64 (L.begin k run ep).1.r1, .int .i64 (L.begin k run ep).1.r2, .int .i64 (L.begin k run ep).1.r3, .int .i64 (L.begin k run ep).1.r4, .int .i64 (L.begin k run ep).1.r5], .int .i64 (L.begin k run ep).2.1, .int .i64 (L.begin k run ep).2.2]) ∧ Rs w' av 10 Tk.vals A' (L.begin k run ep).1.tks ∧ Below w.heap.size w w' := by
  cases hok : L.ok
  · have e1 : L.begin k run ep = (.nil, 0, 1) := by simp [Ld.begin, hok]
    rw [e1]
    exact (begin_bad w av A c n L hR hn hc63 k run ep hok).mono fun e w' ⟨he, hb⟩ => ⟨none, 0, he, Rs.nil, hb⟩
  cases hk : L.get? k with
  | none =>
    have e1 : L.begin k run ep = (.nil, 0, 18) := by simp [Ld.begin, hok, hk]
    rw [e1]
    exact (begin_none w av A c n L hR hn hc63 k run ep hok hk).mono fun e w' ⟨he, hb⟩ => ⟨none, 0, he, Rs.nil, hb⟩
  | some t =>
    cases hran : ranB 1 run ep
    · have e1 : L.begin k run ep = (.nil, 0, 3) := by simp [Ld.begin, hok, hk, hran]
      rw [e1]
      exact (begin_err w av A c n L hR hn hc63 k run ep t hok hk 3 rfl (.inl ⟨hran, rfl⟩)).mono fun e w' ⟨he, hb⟩ => ⟨none, 0, he, Rs.nil, hb⟩
    by_cases hst : t.st = 0
    · have e1 : L.begin k run ep = (L.put k { t with st := 1, att := t.att + 1, run := run, ep := ep }, t.att + 1, 0) := by simp [Ld.begin, hok, hk, hran, hst]
      rw [e1]
      have hlen : (L.put k { t with st := 1, att := t.att + 1, run := run, ep := ep }).tks.length = n := by simp [Ld.put, hn]
      refine (begin_ok w av A c n L hR hn hc63 k run ep t hok hk hran hst hav).mono fun e w' ⟨g, he, hr, hb⟩ => ⟨some ⟨g, 0, none⟩, n + 1, ?_, hr, hb⟩
      dsimp only
      rw [hlen]
      exact he
    · have e1 : L.begin k run ep = (.nil, 0, 45) := by simp [Ld.begin, hok, hk, hran, hst]
      rw [e1]
      exact (begin_err w av A c n L hR hn hc63 k run ep t hok hk 45 rfl (.inr ⟨hran, hst, rfl⟩)).mono fun e w' ⟨he, hb⟩ => ⟨none, 0, he, Rs.nil, hb⟩

end Go.Proofs.YtjkffgcikbkjeaaGreat

/- Contracts: Fail, Cancel. -/
namespace Go.Proofs.YtjkffgcikbkjeaaGreat
open Go.RowKit


set_option maxRecDepth 100000 in
set_option maxHeartbeats 2000000 in
theorem fail_bad (w : World) (av : Option Nat) (A : Option Addr) (c n : Nat) (L : Ld) (hR : Rs w av 10 Tk.vals A L.tks) (hn : L.tks.length = n) (hc63 : n ≤ 4294967296) (k o : Int) (hok : L.ok = false) :
    Calls Tryz.prog 18 #[.agg #[.slice A n c, .int .i64 L.r0, .int .i64 L.r1, .int .i64 L.r2, .int .i64 L.r3, .int .i64 L.r4, .int .i64 L.r5], .int .i64 k, .int .i64 o] w fun e w' => e = .returned (.tuple #[.agg #[.slice none 0 0, .int .i64 0, .int .i64 0, .int .i64 0, .int .i64 0, .int .i64 0, .int .i64 0], .int .i64 1]) ∧ Below w.heap.size w w' := by
  have hN := hide hn; clear hn
  go_enter Tryz.func18, Tryz.ntmps18
  go_wp2_with (go_at_call 29; refine (change_bad A c n L k _ _ av (((hR.alloc _).alloc _).alloc _) hN.out hc63 hok).mono ?_; rintro e w1 ⟨rfl, hb1⟩; obtain ⟨hc1, hf1, hz1⟩ := gcell (grown_of_below hb1 none) (w.heap.size + 3) (by first | (simp; done) | (simp; omega)))
  refine bodyPost_ret (by simp [results, Tryz.results18, go_sem, hc1]) rfl ⟨rfl, ?_⟩
  (repeat' (with_reducible refine Below.setCell ?_ (by first | (simp; done) | (simp; omega)) _))
  exact (Fr.of_below _ hb1 |> (((((Fr.refl w (fun _ => False)).alloc _).alloc _).alloc _)).trans).below (Nat.le_refl _) (fun _ _ h => h)

set_option maxRecDepth 100000 in
set_option maxHeartbeats 2000000 in
theorem fail_none (w : World) (av : Option Nat) (A : Option Addr) (c n : Nat) (L : Ld) (hR : Rs w av 10 Tk.vals A L.tks) (hn : L.tks.length = n) (hc63 : n ≤ 4294967296) (k o : Int) (hok : L.ok = true) (hk : L.get? k = none) :
    Calls Tryz.prog 18 #[.agg #[.slice A n c, .int .i64 L.r0, .int .i64 L.r1, .int .i64 L.r2, .int .i64 L.r3, .int .i64 L.r4, .int .i64 L.r5], .int .i64 k, .int .i64 o] w fun e w' => e = .returned (.tuple #[.agg #[.slice none 0 0, .int .i64 0, .int .i64 0, .int .i64 0, .int .i64 0, .int .i64 0, .int .i64 0], .int .i64 18]) ∧ Below w.heap.size w w' := by
  have hN := hide hn; clear hn
  have HK := hide hk; clear hk
  go_enter Tryz.func18, Tryz.ntmps18
  go_wp2_with (go_at_call 29; refine (change_none A c n L k _ _ av (((hR.alloc _).alloc _).alloc _) hN.out hc63 hok HK.out).mono ?_; rintro e w1 ⟨rfl, hb1⟩; obtain ⟨hc1, hf1, hz1⟩ := gcell (grown_of_below hb1 none) (w.heap.size + 3) (by first | (simp; done) | (simp; omega)))
  refine bodyPost_ret (by simp [results, Tryz.results18, go_sem, hc1]) rfl ⟨rfl, ?_⟩
  (repeat' (with_reducible refine Below.setCell ?_ (by first | (simp; done) | (simp; omega)) _))
  exact (Fr.of_below _ hb1 |> (((((Fr.refl w (fun _ => False)).alloc _).alloc _).alloc _)).trans).below (Nat.le_refl _) (fun _ _ h => h)

set_option maxRecDepth 100000 in
set_option maxHeartbeats 2000000 in
theorem fail_err (w : World) (av : Option Nat) (A : Option Addr) (c n : Nat) (L : Ld) (hR : Rs w av 10 Tk.vals A L.tks) (hn : L.tks.length = n) (hc63 : n ≤ 4294967296) (k o : Int) (t : Tk) (hok : L.ok = true) (hk : L.get? k = some t) (er : Int) (her : (er != 0) = true) (hh : (o ≠ 4 ∧ o ≠ 5 ∧ er = 3) ∨ ((o = 4 ∨ o = 5) ∧ t.st ≠ 1 ∧ er = 45)) :
    Calls Tryz.prog 18 #[.agg #[.slice A n c, .int .i64 L.r0, .int .i64 L.r1, .int .i64 L.r2, .int .i64 L.r3, .int .i64 L.r4, .int .i64 L.r5], .int .i64 k, .int .i64 o] w fun e w' => e = .returned (.tuple #[.agg #[.slice none 0 0, .int .i64 0, .int .i64 0, .int .i64 0, .int .i64 0, .int .i64 0, .int .i64 0], .int .i64 er]) ∧ Below w.heap.size w w' := by
  have hN := hide hn; clear hn
  have HK := hide hk; clear hk
  have HH := hide hh; clear hh
  go_enter Tryz.func18, Tryz.ntmps18
  go_wp2_with (go_at_call 29; refine (change_fail_err A c n L k t (w.heap.size + 1) o _ av (((hR.alloc _).alloc _).alloc _) hN.out hc63 hok HK.out er her (by simp [go_sem]) (by simp) HH.out).mono ?_; rintro e w1 ⟨rfl, hb1⟩; obtain ⟨hc1, hf1, hz1⟩ := gcell (grown_of_below hb1 none) (w.heap.size + 3) (by first | (simp; done) | (simp; omega)))
  refine bodyPost_ret (by simp [results, Tryz.results18, go_sem, hc1]) rfl ⟨rfl, ?_⟩
  (repeat' (with_reducible refine Below.setCell ?_ (by first | (simp; done) | (simp; omega)) _))
  exact (Fr.of_below _ hb1 |> (((((Fr.refl w (fun _ => False)).alloc _).alloc _).alloc _)).trans).below (Nat.le_refl _) (fun _ _ h => h)

set_option maxRecDepth 100000 in
set_option maxHeartbeats 2000000 in
theorem fail_ok (w : World) (av : Option Nat) (A : Option Addr) (c n : Nat) (L : Ld) (hR : Rs w av 10 Tk.vals A L.tks) (hn : L.tks.length = n) (hc63 : n ≤ 4294967296) (k o : Int) (t : Tk) (hok : L.ok = true) (hk : L.get? k = some t) (ho : o = 4 ∨ o = 5) (hst : t.st = 1) (hav : ∀ x, av = some x → x < w.heap.size) :
    Calls Tryz.prog 18 #[.agg #[.slice A n c, .int .i64 L.r0, .int .i64 L.r1, .int .i64 L.r2, .int .i64 L.r3, .int .i64 L.r4, .int .i64 L.r5], .int .i64 k, .int .i64 o] w fun e w' => ∃ g, e = .returned (.tuple #[.agg #[.slice (some ⟨g, 0, none⟩) n (n + 1), .int .i64 L.r0, .int .i64 L.r1, .int .i64 L.r2, .int .i64 L.r3, .int .i64 L.r4, .int .i64 L.r5], .int .i64 0]) ∧
      Rs w' av 10 Tk.vals (some ⟨g, 0, none⟩) (L.put k (t.failed o)).tks ∧ Below w.heap.size w w' := by
  have hN := hide hn; clear hn
  have HK := hide hk; clear hk
  have HO := hide ho; clear ho
  have HS := hide hst; clear hst
  go_enter Tryz.func18, Tryz.ntmps18
  go_wp2_with (go_at_call 29; refine (change_fail_ok A c n L k t (w.heap.size + 1) o _ av (((hR.alloc _).alloc _).alloc _) hN.out hc63 hok HK.out (by simp [go_sem]) (by simp) HO.out HS.out).mono ?_; rintro e w1 ⟨g, rfl, hown1, hfr1⟩; obtain ⟨hc1, hf1, hz1⟩ := fcell hfr1 (w.heap.size + 3) (by simp); have hg1 := (hown1.lt g rfl).1; simp at hg1)
  refine bodyPost_ret (v := .tuple #[.agg #[.slice (some ⟨g, 0, none⟩) n (n + 1), .int .i64 L.r0, .int .i64 L.r1, .int .i64 L.r2, .int .i64 L.r3, .int .i64 L.r4, .int .i64 L.r5], .int .i64 0]) (by simp [results, Tryz.results18, go_sem, hc1]) rfl ⟨g, rfl, ?_, ?_⟩
  · refine Rs.of_own (base := w.heap.size) (n := n) (c := n + 1) (e := 76) ?_ Tk.vals_len (by simp [Ld.put, hN.out]) hav
    (repeat' refine own_far ?_ (by simp [Value.ownBlock]; omega) _)
    exact own_base hown1 (by simp; omega)
  · (repeat' (with_reducible refine Below.setCell ?_ (by first | (simp; done) | (simp; omega)) _))
    exact (((((Fr.refl w (fun _ => False)).alloc _).alloc _).alloc _).step hfr1 (fun j hj hs => hs)).below (Nat.le_refl _) (fun _ _ h => h)

theorem fail_any (w : World) (av : Option Nat) (A : Option Addr) (c n : Nat) (L : Ld) (hR : Rs w av 10 Tk.vals A L.tks) (hn : L.tks.length = n) (hc63 : n ≤ 4294967296) (k o : Int) (hav : ∀ x, av = some x → x < w.heap.size) :
    Calls Tryz.prog 18 #[.agg #[.slice A n c, .int .i64 L.r0, .int .i64 L.r1, .int .i64 L.r2, .int .i64 L.r3, .int .i64 L.r4, .int .i64 L.r5], .int .i64 k, .int .i64 o] w fun e w' => ∃ A' c', e = .returned (.tuple #[.agg #[.slice A' (L.fail k o).1.tks.length c', .int .i64 (L.fail k o).1.r0, .int .i64 (L.fail k o).1.r1, .int .i64 (L.fail k o).1.r2, .int .i64 (L.fail k o).1.r3, .int .i64 (L.fail k o).1.r4, .int .i64 (L.fail k o).1.r5], .int .i64 (L.fail k o).2]) ∧ Rs w' av 10 Tk.vals A' (L.fail k o).1.tks ∧ Below w.heap.size w w' := by
  cases hok : L.ok
  · have e1 : L.fail k o = (.nil, 1) := by simp [Ld.fail, hok]
    rw [e1]
    exact (fail_bad w av A c n L hR hn hc63 k o hok).mono fun e w' ⟨he, hb⟩ => ⟨none, 0, he, Rs.nil, hb⟩
  cases hk : L.get? k with
  | none =>
    have e1 : L.fail k o = (.nil, 18) := by simp [Ld.fail, hok, hk]
    rw [e1]
    exact (fail_none w av A c n L hR hn hc63 k o hok hk).mono fun e w' ⟨he, hb⟩ => ⟨none, 0, he, Rs.nil, hb⟩
  | some t =>
    by_cases ho : o ≠ 4 ∧ o ≠ 5
    · have e1 : L.fail k o = (.nil, 3) := by simp [Ld.fail, hok, hk, ho]
      rw [e1]
      exact (fail_err w av A c n L hR hn hc63 k o t hok hk 3 rfl (.inl ⟨ho.1, ho.2, rfl⟩)).mono fun e w' ⟨he, hb⟩ => ⟨none, 0, he, Rs.nil, hb⟩
    have ho' : o = 4 ∨ o = 5 := by omega
    by_cases hst : t.st = 1
    · have e1 : L.fail k o = (L.put k (t.failed o), 0) := by simp only [Ld.fail, hok, hk]; rw [if_neg (by simp), if_neg ho, if_neg (by simp [hst])]
      rw [e1]
      have hlen : (L.put k (t.failed o)).tks.length = n := by simp [Ld.put, hn]
      refine (fail_ok w av A c n L hR hn hc63 k o t hok hk ho' hst hav).mono fun e w' ⟨g, he, hr, hb⟩ => ⟨some ⟨g, 0, none⟩, n + 1, ?_, hr, hb⟩
      dsimp only
      rw [hlen]
      exact he
    · have e1 : L.fail k o = (.nil, 45) := by simp only [Ld.fail, hok, hk]; rw [if_neg (by simp), if_neg ho, if_pos hst]
      rw [e1]
      exact (fail_err w av A c n L hR hn hc63 k o t hok hk 45 rfl (.inr ⟨ho', hst, rfl⟩)).mono fun e w' ⟨he, hb⟩ => ⟨none, 0, he, Rs.nil, hb⟩

end Go.Proofs.YtjkffgcikbkjeaaGreat

/- The ledger's calls on the book. -/
namespace Go.Proofs.YtjkffgcikbkjeaaGreat
open Go.RowKit

theorem bkL_len (cs : List (Nat × Nat)) : (bkL cs).tks.length = cs.length := by simp [bkL]
theorem bkR_len (cs : List (Nat × Nat)) (x : Nat × Nat) : (bkR cs x).tks.length = cs.length + 1 := by simp [bkR]
theorem plan_bk (w : World) (T : Nat) (hT : T < w.heap.size) (B : Option Addr) (d : Nat) (cs : List (Nat × Nat)) (hR : Rs w (some T) 10 Tk.vals B (bkL cs).tks) (hok : ∀ x ∈ cs, okX x) (hl : cs.length < 128) (c : Nat) (cI : Int) (hc : cI = (c : Int)) (h1 : 1 ≤ c) (h9 : c ≤ 9) :
    Calls Tryz.prog 16 #[.agg #[.slice B cs.length d, .int .i64 (bkL cs).r0, .int .i64 (bkL cs).r1, .int .i64 (bkL cs).r2, .int .i64 (bkL cs).r3, .int .i64 (bkL cs).r4, .int .i64 (bkL cs).r5], .agg #[.string ⟨#[112]⟩, .string ⟨#[116]⟩, .int .i64 0, .int .i64 cI], .int .i64 1] w fun e w' => ∃ B' d', e = .returned (.tuple #[.agg #[.slice B' (cs.length + 1) d', .int .i64 (bkL (cs ++ [(c, 0)])).r0, .int .i64 (bkL (cs ++ [(c, 0)])).r1, .int .i64 (bkL (cs ++ [(c, 0)])).r2, .int .i64 (bkL (cs ++ [(c, 0)])).r3, .int .i64 (bkL (cs ++ [(c, 0)])).r4, .int .i64 (bkL (cs ++ [(c, 0)])).r5], .int .i64 (cs.length : Int), .int .i64 0]) ∧ Rs w' (some T) 10 Tk.vals B' (bkL (cs ++ [(c, 0)])).tks ∧ Below w.heap.size w w' := by
  subst hc
  have h := plan_any w (some T) B d cs.length (bkL cs) hR (bkL_len cs) (by omega) (tkB (c, 0)) 1 (fun x hx => by injection hx with hx; omega)
  rw [bk_plan hok hl h1 h9] at h
  refine Calls.mono h ?_
  rintro e w' ⟨B', d', he, hr, hb⟩
  refine ⟨B', d', ?_, hr, hb⟩
  rw [he, bkL_len, List.length_append]
  rfl
theorem begin_bk (w : World) (T : Nat) (hT : T < w.heap.size) (B : Option Addr) (d : Nat) (cs : List (Nat × Nat)) (c i : Nat) (hR : Rs w (some T) 10 Tk.vals B (bkL (cs ++ [(c, i)])).tks) (hok : ∀ x ∈ cs, okX x) (hl : cs.length < 128) (h1 : 1 ≤ c) (h9 : c ≤ 9) (hi : i ≤ 2) :
    Calls Tryz.prog 17 #[.agg #[.slice B (cs.length + 1) d, .int .i64 (bkL (cs ++ [(c, i)])).r0, .int .i64 (bkL (cs ++ [(c, i)])).r1, .int .i64 (bkL (cs ++ [(c, i)])).r2, .int .i64 (bkL (cs ++ [(c, i)])).r3, .int .i64 (bkL (cs ++ [(c, i)])).r4, .int .i64 (bkL (cs ++ [(c, i)])).r5], .int .i64 (cs.length : Int), .int .i64 0, .int .i64 1] w fun e w' => ∃ B' d', e = .returned (.tuple #[.agg #[.slice B' (cs.length + 1) d', .int .i64 (bkR cs (c, i)).r0, .int .i64 (bkR cs (c, i)).r1, .int .i64 (bkR cs (c, i)).r2, .int .i64 (bkR cs (c, i)).r3, .int .i64 (bkR cs (c, i)).r4, .int .i64 (bkR cs (c, i)).r5], .int .i64 ((i : Int) + 1), .int .i64 0]) ∧ Rs w' (some T) 10 Tk.vals B' (bkR cs (c, i)).tks ∧ Below w.heap.size w w' := by
  have h := begin_any w (some T) B d (cs.length + 1) (bkL (cs ++ [(c, i)])) hR (by rw [bkL_len]; simp) (by omega) (cs.length : Int) 0 1 (fun x hx => by injection hx with hx; omega)
  rw [bk_begin hok hl h1 h9 hi] at h
  refine Calls.mono h ?_
  rintro e w' ⟨B', d', he, hr, hb⟩
  refine ⟨B', d', ?_, hr, hb⟩
  rw [he, bkR_len]
theorem fail_bk (w : World) (T : Nat) (hT : T < w.heap.size) (B : Option Addr) (d : Nat) (cs : List (Nat × Nat)) (c i : Nat) (hR : Rs w (some T) 10 Tk.vals B (bkR cs (c, i)).tks) (hok : ∀ x ∈ cs, okX x) (hl : cs.length < 128) (h1 : 1 ≤ c) (h9 : c ≤ 9) (hi : i ≤ 2) :
    Calls Tryz.prog 18 #[.agg #[.slice B (cs.length + 1) d, .int .i64 (bkR cs (c, i)).r0, .int .i64 (bkR cs (c, i)).r1, .int .i64 (bkR cs (c, i)).r2, .int .i64 (bkR cs (c, i)).r3, .int .i64 (bkR cs (c, i)).r4, .int .i64 (bkR cs (c, i)).r5], .int .i64 (cs.length : Int), .int .i64 5] w fun e w' => ∃ B' d', e = .returned (.tuple #[.agg #[.slice B' (cs.length + 1) d', .int .i64 (bkL (cs ++ [(c, i + 1)])).r0, .int .i64 (bkL (cs ++ [(c, i + 1)])).r1, .int .i64 (bkL (cs ++ [(c, i + 1)])).r2, .int .i64 (bkL (cs ++ [(c, i + 1)])).r3, .int .i64 (bkL (cs ++ [(c, i + 1)])).r4, .int .i64 (bkL (cs ++ [(c, i + 1)])).r5], .int .i64 0]) ∧ Rs w' (some T) 10 Tk.vals B' (bkL (cs ++ [(c, i + 1)])).tks ∧ Below w.heap.size w w' := by
  have h := fail_any w (some T) B d (cs.length + 1) (bkR cs (c, i)) hR (bkR_len cs _) (by omega) (cs.length : Int) 5 (fun x hx => by injection hx with hx; omega)
  rw [bk_fail hok hl h1 h9 hi] at h
  refine Calls.mono h ?_
  rintro e w' ⟨B', d', he, hr, hb⟩
  refine ⟨B', d', ?_, hr, hb⟩
  rw [he, bkL_len, List.length_append]
  rfl
end Go.Proofs.YtjkffgcikbkjeaaGreat

/- Contracts: noise.Choose. -/
namespace Go.Proofs.YtjkffgcikbkjeaaGreat
open Go.RowKit

def chooseL (n k : Int) : List Nat := if n < 0 ∨ 32 < n then [] else if k < 0 ∨ n < k then [] else lm (ch n.toNat k.toNat)
def chooseE (n : Int) : Int := if n < 0 ∨ 32 < n then 3 else 0
end Go.Proofs.YtjkffgcikbkjeaaGreat

/- Contracts: the reference's Choose. -/
namespace Go.Proofs.YtjkffgcikbkjeaaGreat
open Go.RowKit

theorem ch_one : ∀ n, ch n 1 = n
  | 0 => rfl
  | n + 1 => by show ch n 0 + ch n 1 = _; rw [ch_zero, ch_one n]; omega
theorem ch_mul : ∀ n k : Nat, ch (n + 1) (k + 1) * (k + 1) = ch n k * (n + 1)
  | 0, 0 => rfl
  | 0, k + 1 => by
    show (ch 0 (k + 1) + ch 0 (k + 2)) * (k + 2) = ch 0 (k + 1) * 1
    show (0 + 0) * _ = 0 * 1
    omega
  | n + 1, 0 => by rw [ch_one, ch_zero]; omega
  | n + 1, k + 1 => by
    have h1 := ch_mul n k
    have h2 := ch_mul n (k + 1)
    show (ch (n + 1) (k + 1) + ch (n + 1) (k + 2)) * (k + 1 + 1) = (ch n k + ch n (k + 1)) * (n + 1 + 1)
    have e : ch (n + 1) (k + 1) = ch n k + ch n (k + 1) := rfl
    rw [Nat.add_mul, h2]
    rw [Nat.mul_add _ (k + 1) 1, h1, e, Nat.mul_one]
    rw [show n + 1 + 1 = (n + 1) + 1 from rfl, Nat.mul_add _ (n + 1) 1, Nat.mul_one, Nat.add_mul]
    omega
theorem ch_step {d i : Nat} : ch (d + i) i * (d + (i + 1)) / (i + 1) = ch (d + (i + 1)) (i + 1) := by
  have h := ch_mul (d + i) i
  rw [show d + (i + 1) = d + i + 1 by omega, ← h]
  exact Nat.mul_div_cancel _ (by omega)
theorem r1of_zero (w : World) : Calls Tryz.prog 100 #[.int .u64 0] w fun e w' => ∃ A m c, e = .returned (.slice A m c) ∧ m ≤ c ∧ m ≤ 2 ∧ Ul w' none A m (lm 0) ∧ Below w.heap.size w w' := r1of_any w 0 (by omega)
set_option maxRecDepth 100000 in
set_option maxHeartbeats 4000000 in
theorem rchoose_any (w : World) (n k : Int) :
    Calls Tryz.prog 117 #[.int .i64 n, .int .i64 k] w fun e w' => ∃ A m c, e = .returned (.tuple #[.slice A m c, .int .i64 (chooseE n)]) ∧ m ≤ c ∧ m ≤ 2 ∧ Ul w' none A m (chooseL n k) ∧ Below w.heap.size w w' := by
  by_cases h0 : n < 0
  · have e1 := hide (show chooseE n = 3 from if_pos (.inl h0))
    have e2 := hide (show chooseL n k = [] from if_pos (.inl h0))
    go_enter Tryz.func117, Tryz.ntmps117
    go_wp2_with fail
    go_ret2
    exact ⟨none, 0, 0, by rw [e1.out]; rfl, by omega, by omega, by rw [e2.out]; exact Ul.nil, Below.refl _ _⟩
  · by_cases h1 : 32 < n
    · have e1 := hide (show chooseE n = 3 from if_pos (.inr h1))
      have e2 := hide (show chooseL n k = [] from if_pos (.inr h1))
      have d0 : decide (n < 0) = false := decide_eq_false h0
      have d1 : decide (n > 32) = true := decide_eq_true h1
      clear h0 h1
      go_enter Tryz.func117, Tryz.ntmps117
      go_wp2_with fail
      go_ret2
      exact ⟨none, 0, 0, by rw [e1.out]; rfl, by omega, by omega, by rw [e2.out]; exact Ul.nil, Below.refl _ _⟩
    · have e1 := hide (show chooseE n = 0 from if_neg (by omega))
      have d0 : decide (n < 0) = false := decide_eq_false h0
      have d1 : decide (n > 32) = false := decide_eq_false h1
      by_cases hk : k < 0 ∨ n < k
      · have e2 := hide (show chooseL n k = lm 0 by unfold chooseL; rw [if_neg (by omega), if_pos hk, lm_zero])
        by_cases hk0 : k < 0
        · have d2 : decide (k < 0) = true := decide_eq_true hk0
          clear h0 h1 hk hk0
          go_enter Tryz.func117, Tryz.ntmps117
          go_wp2_with (go_at_call 100; (with_reducible refine (r1of_zero _).mono ?_); rintro e w1 ⟨A, m, c, rfl, hmc, hm2, hu, hb⟩; have HU := hide hu; have HB := hide hb; clear hu hb)
          go_ret2
          exact ⟨A, m, c, by rw [e1.out]; rfl, hmc, hm2, by rw [e2.out]; exact HU.out, HB.out⟩
        · have d2 : decide (k < 0) = false := decide_eq_false hk0
          have d3 : decide (k > n) = true := decide_eq_true (by omega)
          clear h0 h1 hk hk0
          go_enter Tryz.func117, Tryz.ntmps117
          go_wp2_with (go_at_call 100; (with_reducible refine (r1of_zero _).mono ?_); rintro e w1 ⟨A, m, c, rfl, hmc, hm2, hu, hb⟩; have HU := hide hu; have HB := hide hb; clear hu hb)
          go_ret2
          exact ⟨A, m, c, by rw [e1.out]; rfl, hmc, hm2, by rw [e2.out]; exact HU.out, HB.out⟩
      · obtain ⟨N, rfl⟩ : ∃ N : Nat, n = N := ⟨n.toNat, by omega⟩
        obtain ⟨K, rfl⟩ : ∃ K : Nat, k = K := ⟨k.toNat, by omega⟩
        obtain ⟨D, rfl⟩ : ∃ D, N = D + K := ⟨N - K, by omega⟩
        have e2 := hide (show chooseL ((D + K : Nat) : Int) (K : Int) = lm (ch (D + K) K) by unfold chooseL; rw [if_neg (by omega), if_neg hk]; rfl)
        have d2 : decide ((K : Int) < 0) = false := decide_eq_false (by omega)
        have hN : D + K ≤ 32 := by omega
        have HDK := hide (show (((D + K : Nat) : Int)) = (D : Int) + (K : Int) by omega)
        obtain ⟨NN, hNN⟩ : ∃ NN : Int, NN = ((D + K : Nat) : Int) := ⟨_, rfl⟩
        have d3 : decide ((K : Int) > NN) = false := decide_eq_false (by omega)
        have hsub : NN - (K : Int) = (D : Int) := by omega
        have hn0 : ¬ NN < 0 := by omega
        have hn32 : NN ≤ 32 := by omega
        have hnk : (K : Int) ≤ NN := by omega
        rw [← hNN] at e1 e2 d0 d1 ⊢
        clear h0 h1 hk hNN HDK
        go_enter Tryz.func117, Tryz.ntmps117
        go_wp2_with fail
        go_loopw [6, 7] (fun c i W => ∃ j : Nat, c = .int .u64 (ch (D + j) j : Int) ∧ i = .int .i64 ((j : Int) + 1) ∧ j ≤ K ∧ W = w) (fun _ i _ => K + 1 - (intOf i).toNat)
        case atStart => exact ⟨0, by rw [ch_zero]; rfl, rfl, by omega, rfl⟩
        case round =>
          obtain ⟨j, rfl, rfl, hj, rfl⟩ := hrel
          have hch : ch (D + j) j ≤ 4294967296 := by
            have h1 := ch_le (D + j) j
            have h2 : 2 ^ (D + j) ≤ 2 ^ 32 := Nat.pow_le_pow_right (by omega) (by omega)
            omega
          by_cases hjK : j = K
          · subst hjK
            have HCH := hide (show ch (D + j) j < 18446744073709551616 by omega)
            go_wp2_with (go_at_call 100; (with_reducible refine (r1of_any _ (ch (D + j) j) HCH.out).mono ?_); rintro e w2 ⟨A, m, c, rfl, hmc, hm2, hu, hb⟩; have HU := hide hu; have HB := hide hb; clear hu hb)
            go_ret2
            exact ⟨A, m, c, by rw [e1.out]; rfl, hmc, hm2, by rw [e2.out]; exact HU.out, HB.out⟩
          · have hlt : (j : Int) + 1 ≤ (K : Int) := by omega
            have HST := hide (ch_step (d := D) (i := j))
            obtain ⟨q, hq⟩ : ∃ q, q = ch (D + j) j := ⟨_, rfl⟩
            rw [← hq] at HST hch ⊢
            clear hq
            have hd : D + (j + 1) ≤ 32 := by omega
            have w1 : IntKind.u64.wrap ((D : Int) + ((j : Int) + 1)) = ((D + (j + 1) : Nat) : Int) := by
              show ((D : Int) + ((j : Int) + 1)) % 18446744073709551616 = _
              omega
            have hm : q * (D + (j + 1)) ≤ 4294967296 * 32 := Nat.mul_le_mul hch hd
            have hv : IntKind.u64.wrap ((IntKind.u64.wrap ((q : Int) * ((D : Int) + ((j : Int) + 1)))).tdiv ((j : Int) + 1)) = ((ch (D + (j + 1)) (j + 1) : Nat) : Int) := by
              have h0 := HST.out
              obtain ⟨p, hp⟩ : ∃ p, p = q * (D + (j + 1)) := ⟨_, rfl⟩
              have a1 : (q : Int) * ((D : Int) + ((j : Int) + 1)) = (p : Int) := by rw [hp]; push_cast; rfl
              rw [← hp] at hm h0
              have a2 : IntKind.u64.wrap (p : Int) = (p : Int) := by
                show (p : Int) % 18446744073709551616 = _
                omega
              obtain ⟨s, hs⟩ : ∃ s, s = p / (j + 1) := ⟨_, rfl⟩
              have a3 : ((p : Int)).tdiv ((j : Int) + 1) = (s : Int) := by rw [hs]; rfl
              have a4 : s ≤ p := by rw [hs]; exact Nat.div_le_self _ _
              rw [a1, a2, a3, ← h0, ← hs]
              show (s : Int) % 18446744073709551616 = _
              omega
            have HV := hide hv
            clear hv
            go_wp2_with fail
            first
              | (go_roundw
                 case rel => exact ⟨j + 1, by rw [HV.out], by go_num, by omega, by first | rfl | trivial⟩
                 case measure => simp [intOf]; omega)
              | exact ⟨⟨j + 1, by rw [HV.out], by go_num, by omega, by first | rfl | trivial⟩, by simp [intOf]; omega⟩
end Go.Proofs.YtjkffgcikbkjeaaGreat
