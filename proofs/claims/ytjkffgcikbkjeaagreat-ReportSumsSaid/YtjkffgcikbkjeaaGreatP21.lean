/- Contracts of the functions that these laws reach: part 21: Contracts: the closures of change; find; Contracts: fail, Fail's and Cancel's closures, failed; Contracts: change; Contracts: change with a closure; Contracts: change with a closure; Contracts: change with a closure. -/
import Derived.Test.YtjkffgcikbkjeaaGreatP19
set_option linter.unusedVariables false
set_option linter.unusedSimpArgs false

/- Contracts: the closures of change; find. -/
namespace Go.Proofs.YtjkffgcikbkjeaaGreat
open Go.RowKit

def TkFz (w : World) (g : Nat) : Prop := ∀ j, w.frozen? ⟨g, j, none⟩ = false

set_option maxRecDepth 100000 in
set_option maxHeartbeats 4000000 in
theorem begin1_ok (g k n cap base b1 b2 b3 : Nat) (run ep a0 : Int) (l : List Tk) (t : Tk) (w : World)
    (hown : w.ownsRow base 76 10 (.slice (some ⟨g, 0, none⟩) n cap) n (l.flatMap Tk.vals)) (hk : l[k]? = some t)
    (h1 : w.cell? ⟨b1, 0, none⟩ = some (.int .i64 run)) (h2 : w.cell? ⟨b2, 0, none⟩ = some (.int .i64 ep)) (h3 : w.cell? ⟨b3, 0, none⟩ = some (.int .i64 a0)) (hf3 : w.frozen? ⟨b3, 0, none⟩ = false)
    (hg : g < w.heap.size) (hb1 : b1 < w.heap.size) (hb2 : b2 < w.heap.size) (hb3 : b3 < w.heap.size) (hne : b3 ≠ g) (hran : ranB 1 run ep = true) (hst : t.st = 0) (hatt : 0 ≤ t.att ∧ t.att ≤ 4) :
    Calls Tryz.prog 30 #[.pointer (some ⟨g, k * 10, none⟩), .pointer (some ⟨b1, 0, none⟩), .pointer (some ⟨b2, 0, none⟩), .pointer (some ⟨b3, 0, none⟩)] w fun e w' => e = .returned (.int .i64 0) ∧
      w'.ownsRow base 76 10 (.slice (some ⟨g, 0, none⟩) n cap) n ((l.set k { t with st := 1, att := t.att + 1, run := run, ep := ep }).flatMap Tk.vals) ∧
      w'.cell? ⟨b3, 0, none⟩ = some (.int .i64 (t.att + 1)) ∧ Fr w w' (fun i => i = g ∨ i = b3) := by
  obtain ⟨f0, f1, f2, f3, f4, f5, f6, f7, f8, f9⟩ := tkAt_of (own_cells Tk.vals_len hown hk)
  have hfz := fun j => hown.frozenAt j
  have HK := hide hk
  have HO := hide hown
  have hkl : k < l.length := (List.getElem?_eq_some_iff.1 hk).1
  clear hk hown
  go_enter Tryz.func30, Tryz.ntmps30
  go_wp2_with fail
  go_region
  go_wp2_with (go_at_call 31; refine (runs_any { t with st := 1, att := 1, run := run, ep := ep } _).mono ?_; rintro e w1 ⟨rfl, hb1⟩; simp only [hran]; obtain ⟨hc1, hf1, hz1⟩ := gcell (grown_of_below hb1 none) (w.heap.size + 1) (by simp))
  go_region
  go_wp2_with fail
  go_ret
  refine ⟨rfl, ?_, ?_, ?_⟩
  · have s0 := own_start (own_far (own_below (own_drew (HO.out.alloc _)) hb1) (p := ⟨w.heap.size, 6, none⟩) (by simp [Value.ownBlock]; omega) (.int .i64 (t.att + 1))) HK.out
    have s1 := own_put Tk.vals_len (j := 0) (t1 := t) (u := .string t.pk) s0 hkl (by decide) rfl
    have s2 := own_put Tk.vals_len (j := 1) (t1 := t) (u := .string t.ts) s1 hkl (by decide) rfl
    have s3 := own_put Tk.vals_len (j := 2) (t1 := t) (u := .int .i64 t.env) s2 hkl (by decide) rfl
    have s4 := own_put Tk.vals_len (j := 3) (t1 := t) (u := .int .i64 t.cost) s3 hkl (by decide) rfl
    have s5 := own_put Tk.vals_len (j := 4) (t1 := t) (u := .int .i64 t.rev) s4 hkl (by decide) rfl
    have s6 := own_put Tk.vals_len (j := 5) (t1 := { t with st := 1 }) (u := .int .i64 1) s5 hkl (by decide) rfl
    have s7 := own_put Tk.vals_len (j := 6) (t1 := { t with st := 1, att := t.att + 1 }) (u := .int .i64 (t.att + 1)) s6 hkl (by decide) rfl
    have s8 := own_put Tk.vals_len (j := 7) (t1 := { t with st := 1, att := t.att + 1, run := run }) (u := .int .i64 run) s7 hkl (by decide) rfl
    have s9 := own_put Tk.vals_len (j := 8) (t1 := { t with st := 1, att := t.att + 1, run := run, ep := ep }) (u := .int .i64 ep) s8 hkl (by decide) rfl
    have s10 := own_put Tk.vals_len (j := 9) (t1 := { t with st := 1, att := t.att + 1, run := run, ep := ep }) (u := .int .i64 t.out) s9 hkl (by decide) rfl
    exact own_drew (own_far s10 (by simp [Value.ownBlock]; omega) _)
  · rw [World.cell?_drew]
    exact World.cell?_setCell_same _ _ _ (show _ = some (Value.int .i64 a0) by go_simp)
  · refine Fr.drew ?_
    (repeat' refine Fr.setCell ?_ (by simp) _)
    exact (((Fr.refl _ _).alloc _).drew).below_ hb1

set_option maxRecDepth 100000 in
set_option maxHeartbeats 4000000 in
/-- Begin's closure on a ticket that is not begun. -/
theorem begin1_err (g k n cap base b1 b2 b3 : Nat) (run ep : Int) (l : List Tk) (t : Tk) (w : World) (er : Int)
    (hown : w.ownsRow base 76 10 (.slice (some ⟨g, 0, none⟩) n cap) n (l.flatMap Tk.vals)) (hk : l[k]? = some t)
    (h1 : w.cell? ⟨b1, 0, none⟩ = some (.int .i64 run)) (h2 : w.cell? ⟨b2, 0, none⟩ = some (.int .i64 ep))
    (hg : g < w.heap.size) (hb1 : b1 < w.heap.size) (hb2 : b2 < w.heap.size) (hran : (ranB 1 run ep = false ∧ er = 3) ∨ (ranB 1 run ep = true ∧ t.st ≠ 0 ∧ er = 45)) :
    Calls Tryz.prog 30 #[.pointer (some ⟨g, k * 10, none⟩), .pointer (some ⟨b1, 0, none⟩), .pointer (some ⟨b2, 0, none⟩), .pointer (some ⟨b3, 0, none⟩)] w fun e w' => e = .returned (.int .i64 er) ∧ Below w.heap.size w w' := by
  obtain ⟨f0, f1, f2, f3, f4, f5, f6, f7, f8, f9⟩ := tkAt_of (own_cells Tk.vals_len hown hk)
  have HK := hide hk
  have HO := hide hown
  clear hk hown
  rcases hran with ⟨hran, rfl⟩ | ⟨hran, hst, rfl⟩
  · go_enter Tryz.func30, Tryz.ntmps30
    go_wp2_with fail
    go_region
    go_wp2_with (go_at_call 31; refine (runs_any { t with st := 1, att := 1, run := run, ep := ep } _).mono ?_; rintro e w1 ⟨rfl, hb1⟩; simp only [hran]; obtain ⟨hc1, hf1, hz1⟩ := gcell (grown_of_below hb1 none) (w.heap.size + 1) (by simp))
    go_ret
    exact ⟨rfl, (((Below.refl _ _).alloc (Nat.le_refl _) _).drew).trans (hb1.mono (by simp))⟩
  · have hs : (t.st != 0) = true := by simpa using hst
    clear hst
    go_enter Tryz.func30, Tryz.ntmps30
    go_wp2_with fail
    go_region
    go_wp2_with (go_at_call 31; refine (runs_any { t with st := 1, att := 1, run := run, ep := ep } _).mono ?_; rintro e w1 ⟨rfl, hb1⟩; simp only [hran]; obtain ⟨hc1, hf1, hz1⟩ := gcell (grown_of_below hb1 none) (w.heap.size + 1) (by simp))
    go_ret
    exact ⟨rfl, (((Below.refl _ _).alloc (Nat.le_refl _) _).drew).trans (hb1.mono (by simp))⟩

end Go.Proofs.YtjkffgcikbkjeaaGreat

/- Contracts: fail, Fail's and Cancel's closures, failed. -/
namespace Go.Proofs.YtjkffgcikbkjeaaGreat
open Go.RowKit

set_option maxRecDepth 100000 in
set_option maxHeartbeats 1000000 in
theorem lfail_any (g k n cap base : Nat) (o : Int) (l : List Tk) (t : Tk) (w : World)
    (hown : w.ownsRow base 76 10 (.slice (some ⟨g, 0, none⟩) n cap) n (l.flatMap Tk.vals)) (hk : l[k]? = some t) :
    Calls Tryz.prog 33 #[.pointer (some ⟨g, k * 10, none⟩), .int .i64 o] w fun e w' => e = .returned (.tuple #[]) ∧
      w'.ownsRow base 76 10 (.slice (some ⟨g, 0, none⟩) n cap) n ((l.set k (t.failed o)).flatMap Tk.vals) ∧ Fr w w' (fun i => i = g) := by
  obtain ⟨f0, f1, f2, f3, f4, f5, f6, f7, f8, f9⟩ := tkAt_of (own_cells Tk.vals_len hown hk)
  have hfz := fun j => hown.frozenAt j
  have hkl : k < l.length := (List.getElem?_eq_some_iff.1 hk).1
  have S0 := hide (own_start hown hk)
  clear hk hown
  by_cases h4 : t.att = 4
  · have hb : (t.att == 4) = true := by simp [h4]
    have HF := hide (show t.failed o = { t with st := 2, out := o } by simp [Tk.failed, h4])
    clear h4
    go_enter Tryz.func33, Tryz.ntmps33
    go_wp2
    refine bodyPost_ret (results_none rfl _ _ _) rfl ⟨rfl, ?_, ?_⟩
    · rw [HF.out]
      have s1 := own_put Tk.vals_len (j := 5) (t1 := { t with st := 2 }) (u := .int .i64 2) S0.out hkl (by decide) rfl
      exact own_put Tk.vals_len (j := 9) (t1 := { t with st := 2, out := o }) (u := .int .i64 o) s1 hkl (by decide) rfl
    · (repeat' refine Fr.setCell ?_ (by simp) _)
      exact Fr.refl _ _
  · have hb : (t.att == 4) = false := by simp [h4]
    have HF := hide (show t.failed o = { t with st := 0, run := 0, ep := 0 } by simp [Tk.failed, h4])
    clear h4
    go_enter Tryz.func33, Tryz.ntmps33
    go_wp2
    go_end0
    refine ⟨rfl, ?_, ?_⟩
    · rw [HF.out]
      have s1 := own_put Tk.vals_len (j := 5) (t1 := { t with st := 0 }) (u := .int .i64 0) S0.out hkl (by decide) rfl
      have s2 := own_put Tk.vals_len (j := 7) (t1 := { t with st := 0, run := 0 }) (u := .int .i64 0) s1 hkl (by decide) rfl
      exact own_put Tk.vals_len (j := 8) (t1 := { t with st := 0, run := 0, ep := 0 }) (u := .int .i64 0) s2 hkl (by decide) rfl
    · (repeat' refine Fr.setCell ?_ (by simp) _)
      exact Fr.refl _ _

set_option maxRecDepth 100000 in
set_option maxHeartbeats 1000000 in
theorem fail1_ok (g k n cap base b1 : Nat) (o : Int) (l : List Tk) (t : Tk) (w : World)
    (hown : w.ownsRow base 76 10 (.slice (some ⟨g, 0, none⟩) n cap) n (l.flatMap Tk.vals)) (hk : l[k]? = some t)
    (h1 : w.cell? ⟨b1, 0, none⟩ = some (.int .i64 o)) (ho : o = 4 ∨ o = 5) (hst : t.st = 1) :
    Calls Tryz.prog 32 #[.pointer (some ⟨g, k * 10, none⟩), .pointer (some ⟨b1, 0, none⟩)] w fun e w' => e = .returned (.int .i64 0) ∧
      w'.ownsRow base 76 10 (.slice (some ⟨g, 0, none⟩) n cap) n ((l.set k (t.failed o)).flatMap Tk.vals) ∧ Fr w w' (fun i => i = g) := by
  obtain ⟨f0, f1, f2, f3, f4, f5, f6, f7, f8, f9⟩ := tkAt_of (own_cells Tk.vals_len hown hk)
  have HO := hide hown
  have HK := hide hk
  have hs : (t.st != 1) = false := by simp [hst]
  clear hk hown hst
  rcases ho with rfl | rfl
  all_goals
    go_enter Tryz.func32, Tryz.ntmps32
    go_wp2_with (go_at_call 33; refine (lfail_any g k n cap base _ l t _ HO.out HK.out).mono ?_; rintro e w1 ⟨rfl, hown1, hfr1⟩)
    go_ret
    exact ⟨rfl, hown1, hfr1⟩

set_option maxRecDepth 100000 in
set_option maxHeartbeats 1000000 in
theorem fail1_err (g k n cap base b1 : Nat) (o : Int) (l : List Tk) (t : Tk) (w : World) (er : Int)
    (hown : w.ownsRow base 76 10 (.slice (some ⟨g, 0, none⟩) n cap) n (l.flatMap Tk.vals)) (hk : l[k]? = some t)
    (h1 : w.cell? ⟨b1, 0, none⟩ = some (.int .i64 o)) (hh : (o ≠ 4 ∧ o ≠ 5 ∧ er = 3) ∨ ((o = 4 ∨ o = 5) ∧ t.st ≠ 1 ∧ er = 45)) :
    Calls Tryz.prog 32 #[.pointer (some ⟨g, k * 10, none⟩), .pointer (some ⟨b1, 0, none⟩)] w fun e w' => e = .returned (.int .i64 er) ∧ w = w' := by
  obtain ⟨f0, f1, f2, f3, f4, f5, f6, f7, f8, f9⟩ := tkAt_of (own_cells Tk.vals_len hown hk)
  clear hk hown
  rcases hh with ⟨h4, h5, rfl⟩ | ⟨ho, hst, rfl⟩
  · have e4 : (o != 4) = true := by simpa using h4
    have e5 : (o != 5) = true := by simpa using h5
    clear h4 h5
    go_enter Tryz.func32, Tryz.ntmps32
    go_wp2
    go_ret
    exact ⟨rfl, rfl⟩
  · have hs : (t.st != 1) = true := by simpa using hst
    clear hst
    rcases ho with rfl | rfl
    all_goals
      go_enter Tryz.func32, Tryz.ntmps32
      go_wp2
      go_ret
      exact ⟨rfl, rfl⟩

end Go.Proofs.YtjkffgcikbkjeaaGreat

/- Contracts: change. -/
namespace Go.Proofs.YtjkffgcikbkjeaaGreat
open Go.RowKit

theorem get?_some {L : Ld} {k : Int} {t : Tk} (h : L.get? k = some t) : ∃ i : Nat, k = i ∧ i < L.tks.length ∧ L.tks[i]? = some t := by
  unfold Ld.get? at h
  split at h
  · rename_i hk
    refine ⟨k.toNat, by omega, by omega, h⟩
  · cases h
theorem get?_none {L : Ld} {k : Int} (h : L.get? k = none) : (decide (0 ≤ k) && decide (k < L.tks.length)) = false := by
  unfold Ld.get? at h
  split at h
  · rename_i hk
    rw [List.getElem?_eq_none_iff] at h
    omega
  · simp; omega
theorem ok_len {L : Ld} (h : L.ok = true) : L.tks.length ≤ 128 := by
  simp [Ld.ok] at h
  omega


set_option maxRecDepth 100000 in
set_option maxHeartbeats 1000000 in
theorem change_bad (A : Option Addr) (c n : Nat) (L : Ld) (k : Int) (fv : Value) (w : World) (av : Option Nat) (hR : Rs w av 10 Tk.vals A L.tks) (hn : L.tks.length = n) (hc63 : n ≤ 4294967296) (hok : L.ok = false) :
    Calls Tryz.prog 29 #[.agg #[.slice A n c, .int .i64 L.r0, .int .i64 L.r1, .int .i64 L.r2, .int .i64 L.r3, .int .i64 L.r4, .int .i64 L.r5], .int .i64 k, fv] w fun e w' => e = .returned (.tuple #[.agg #[.slice none 0 0, .int .i64 0, .int .i64 0, .int .i64 0, .int .i64 0, .int .i64 0, .int .i64 0], .int .i64 1]) ∧ Below w.heap.size w w' := by
  have hN := hide hn; clear hn
  go_enter Tryz.func29, Tryz.ntmps29
  go_wp2_with (go_at_call 25; refine (check_any A c n L _ av ((hR.alloc _).alloc _) hN.out hc63).mono ?_; rintro e w1 ⟨rfl, hb1⟩; obtain ⟨hc1, hf1, hz1⟩ := gcell (grown_of_below hb1 none) (w.heap.size + 2) (by first | (simp; done) | (simp; omega)); have : w.heap.size < w1.heap.size := (by omega); have : w.heap.size + 1 < w1.heap.size := (by omega))
  refine bodyPost_ret (by simp [results, Tryz.results29, go_sem, hc1]) rfl ⟨rfl, ?_⟩
  (repeat' refine Below.setCell ?_ (by simp) _)
  exact (((Below.refl _ _).alloc (Nat.le_refl _) _).alloc (by simp) _).trans (hb1.mono (by simp; omega))

set_option maxRecDepth 100000 in
set_option maxHeartbeats 1000000 in
theorem change_none (A : Option Addr) (c n : Nat) (L : Ld) (k : Int) (fv : Value) (w : World) (av : Option Nat) (hR : Rs w av 10 Tk.vals A L.tks) (hn : L.tks.length = n) (hc63 : n ≤ 4294967296) (hok : L.ok = true) (hk : L.get? k = none) :
    Calls Tryz.prog 29 #[.agg #[.slice A n c, .int .i64 L.r0, .int .i64 L.r1, .int .i64 L.r2, .int .i64 L.r3, .int .i64 L.r4, .int .i64 L.r5], .int .i64 k, fv] w fun e w' => e = .returned (.tuple #[.agg #[.slice none 0 0, .int .i64 0, .int .i64 0, .int .i64 0, .int .i64 0, .int .i64 0, .int .i64 0], .int .i64 18]) ∧ Below w.heap.size w w' := by
  have hkk := hide (get?_none hk)
  have hN := hide hn; clear hn hk
  go_enter Tryz.func29, Tryz.ntmps29
  go_wp2_with (first | (go_at_call 25; refine (check_any A c n L _ av ((hR.alloc _).alloc _) hN.out hc63).mono ?_; rintro e w1 ⟨rfl, hb1⟩; obtain ⟨hc1, hf1, hz1⟩ := gcell (grown_of_below hb1 none) (w.heap.size + 2) (by first | (simp; done) | (simp; omega)); have : w.heap.size < w1.heap.size := (by omega); have : w.heap.size + 1 < w1.heap.size := (by omega)) | (go_at_call 51; refine (has_any A n c L k _).mono ?_; rintro e w2 ⟨rfl, hb2⟩; rw [← hN.out, hkk.out]; obtain ⟨hc2, hf2, hz2⟩ := gcell (grown_of_below hb2 none) (w.heap.size + 2) (by omega)))
  refine bodyPost_ret (by simp [results, Tryz.results29, go_sem, hc1, hc2]) rfl ⟨rfl, ?_⟩
  (repeat' refine Below.setCell ?_ (by simp) _)
  exact ((((Below.refl _ _).alloc (Nat.le_refl _) _).alloc (by simp) _).trans (hb1.mono (by simp; omega))).trans (hb2.mono (by omega))

end Go.Proofs.YtjkffgcikbkjeaaGreat

/- Contracts: change with a closure. -/
namespace Go.Proofs.YtjkffgcikbkjeaaGreat
open Go.RowKit


set_option maxRecDepth 100000 in
set_option maxHeartbeats 800000 in
theorem change_fail_ok (A : Option Addr) (c n : Nat) (L : Ld) (k : Int) (t : Tk) (b1 : Nat) (o : Int) (w : World) (av : Option Nat) (hR : Rs w av 10 Tk.vals A L.tks) (hn : L.tks.length = n) (hc63 : n ≤ 4294967296) (hok : L.ok = true) (hk : L.get? k = some t) (h1 : w.cell? ⟨b1, 0, none⟩ = some (.int .i64 o)) (hb : b1 < w.heap.size) (ho : o = 4 ∨ o = 5) (hst : t.st = 1) :
    Calls Tryz.prog 29 #[.agg #[.slice A n c, .int .i64 L.r0, .int .i64 L.r1, .int .i64 L.r2, .int .i64 L.r3, .int .i64 L.r4, .int .i64 L.r5], .int .i64 k, .func (.func 32) #[] #[.pointer (some ⟨b1, 0, none⟩)]] w fun e w' => ∃ g, e = .returned (.tuple #[.agg #[.slice (some ⟨g, 0, none⟩) n (n + 1), .int .i64 L.r0, .int .i64 L.r1, .int .i64 L.r2, .int .i64 L.r3, .int .i64 L.r4, .int .i64 L.r5], .int .i64 0]) ∧
      w'.ownsRow w.heap.size 76 10 (.slice (some ⟨g, 0, none⟩) n (n + 1)) n ((L.put k (t.failed o)).tks.flatMap Tk.vals) ∧ Fr w w' (fun j => False) := by
  obtain ⟨i, rfl, hil, hi⟩ := get?_some hk
  have h128 := ok_len hok
  rw [hn] at hil h128
  have hN := hide hn
  have HI := hide hi
  have hkk := hide (show (decide (0 ≤ (i : Int)) && decide ((i : Int) < (n : Int))) = true by simp; omega)
  clear hn hk hi
  have hb'b1 : b1 < w.heap.size + 2 := by omega
  have hmb1 : ¬ w.heap.size = b1 := by omega
  have hqb1 : ¬ w.heap.size + 1 = b1 := by omega
  go_enter Tryz.func29, Tryz.ntmps29
  go_wp2_with (first
    | (go_at_call 25; refine (check_any A c n L _ av ((hR.alloc _).alloc _) hN.out hc63).mono ?_; rintro e w1 ⟨rfl, hb1⟩; obtain ⟨hc1, hf1, hz1⟩ := gcell (grown_of_below hb1 none) (w.heap.size + 2) (by first | (simp; done) | (simp; omega)); have : w.heap.size < w1.heap.size := (by omega); have : w.heap.size + 1 < w1.heap.size := (by omega))
    | (go_at_call 51; refine (has_any A n c L i _).mono ?_; rintro e w2 ⟨rfl, hb2⟩; rw [hkk.out]; obtain ⟨hc2, hf2, hz2⟩ := gcell (grown_of_below hb2 none) (w.heap.size + 2) (by omega))
    | (go_at_call 28; refine (copied_any A c n L _ av ((((hR.alloc _).alloc _).below hb1).below hb2) hN.out (by omega)).mono ?_; rintro e w3 ⟨g, rfl, hown3, hb3⟩; obtain ⟨hc3, hf3, hz3⟩ := gcell (grown_of_below hb3 none) (w.heap.size + 2) (by omega); have hge : w2.heap.size ≤ g := (hown3.lt g rfl).1; have hlt : g < w3.heap.size := (hown3.lt g rfl).2; have hn0 : ¬ w.heap.size = g := (by omega); have hn1 : ¬ w.heap.size + 1 = g := (by omega); have HOWN := hide (show ∀ v1 v2 v3 v4 v5 v6 v7, World.ownsRow (((((((w3.setCell ⟨w.heap.size, 0, none⟩ v1).setCell ⟨w.heap.size, 1, none⟩ v2).setCell ⟨w.heap.size, 2, none⟩ v3).setCell ⟨w.heap.size, 3, none⟩ v4).setCell ⟨w.heap.size, 4, none⟩ v5).setCell ⟨w.heap.size, 5, none⟩ v6).setCell ⟨w.heap.size, 6, none⟩ v7) w2.heap.size 76 10 (.slice (some ⟨g, 0, none⟩) n (n + 1)) n (L.tks.flatMap Tk.vals) from fun v1 v2 v3 v4 v5 v6 v7 => by (repeat' refine own_far ?_ (by simp [Value.ownBlock]; omega) _); exact hown3); clear hown3; have HFR := hide (show ∀ v1 v2 v3 v4 v5 v6 v7 (S : Nat → Prop), Fr w (((((((w3.setCell ⟨w.heap.size, 0, none⟩ v1).setCell ⟨w.heap.size, 1, none⟩ v2).setCell ⟨w.heap.size, 2, none⟩ v3).setCell ⟨w.heap.size, 3, none⟩ v4).setCell ⟨w.heap.size, 4, none⟩ v5).setCell ⟨w.heap.size, 5, none⟩ v6).setCell ⟨w.heap.size, 6, none⟩ v7) S from fun v1 v2 v3 v4 v5 v6 v7 S => by (repeat' refine Fr.setCell ?_ (by simp) _); exact (((((Fr.refl _ _).alloc _).alloc _).below_ hb1).below_ hb2).below_ hb3))
    | (go_at_call 32; refine (fail1_ok g i n (n + 1) w2.heap.size b1 o L.tks t _ (HOWN.out _ _ _ _ _ _ _) HI.out (by go_simp) ho hst).mono ?_; rintro e w4 ⟨rfl, hown4, hfr4⟩; obtain ⟨hc4, hf4, hz4⟩ := fcell hfr4 (w.heap.size + 2) (by simp; omega)))
  refine bodyPost_ret (v := .tuple #[.agg #[.slice (some ⟨g, 0, none⟩) n (n + 1), .int .i64 L.r0, .int .i64 L.r1, .int .i64 L.r2, .int .i64 L.r3, .int .i64 L.r4, .int .i64 L.r5], .int .i64 0]) (by simp [results, Tryz.results29, go_sem, hc1, hc2, hc3, hc4, hn1]) rfl ⟨g, rfl, ?_, ?_⟩
  · (repeat' refine own_far ?_ (by simp [Value.ownBlock]; omega) _)
    exact own_base hown4 (by omega)
  · (repeat' refine Fr.setCell ?_ (by simp) _)
    exact (HFR.out _ _ _ _ _ _ _ _).step hfr4 (fun j hj hs => by have hs2 : j = g := hs; omega)

set_option maxRecDepth 100000 in
set_option maxHeartbeats 800000 in
theorem change_fail_err (A : Option Addr) (c n : Nat) (L : Ld) (k : Int) (t : Tk) (b1 : Nat) (o : Int) (w : World) (av : Option Nat) (hR : Rs w av 10 Tk.vals A L.tks) (hn : L.tks.length = n) (hc63 : n ≤ 4294967296) (hok : L.ok = true) (hk : L.get? k = some t) (er : Int) (her : (er != 0) = true) (h1 : w.cell? ⟨b1, 0, none⟩ = some (.int .i64 o)) (hb : b1 < w.heap.size) (hh : (o ≠ 4 ∧ o ≠ 5 ∧ er = 3) ∨ ((o = 4 ∨ o = 5) ∧ t.st ≠ 1 ∧ er = 45)) :
    Calls Tryz.prog 29 #[.agg #[.slice A n c, .int .i64 L.r0, .int .i64 L.r1, .int .i64 L.r2, .int .i64 L.r3, .int .i64 L.r4, .int .i64 L.r5], .int .i64 k, .func (.func 32) #[] #[.pointer (some ⟨b1, 0, none⟩)]] w fun e w' => e = .returned (.tuple #[.agg #[.slice none 0 0, .int .i64 0, .int .i64 0, .int .i64 0, .int .i64 0, .int .i64 0, .int .i64 0], .int .i64 er]) ∧ Below w.heap.size w w' := by
  obtain ⟨i, rfl, hil, hi⟩ := get?_some hk
  have h128 := ok_len hok
  rw [hn] at hil h128
  have hN := hide hn
  have HI := hide hi
  have hkk := hide (show (decide (0 ≤ (i : Int)) && decide ((i : Int) < (n : Int))) = true by simp; omega)
  clear hn hk hi
  have hb'b1 : b1 < w.heap.size + 2 := by omega
  have hmb1 : ¬ w.heap.size = b1 := by omega
  have hqb1 : ¬ w.heap.size + 1 = b1 := by omega
  go_enter Tryz.func29, Tryz.ntmps29
  go_wp2_with (first
    | (go_at_call 25; refine (check_any A c n L _ av ((hR.alloc _).alloc _) hN.out hc63).mono ?_; rintro e w1 ⟨rfl, hb1⟩; obtain ⟨hc1, hf1, hz1⟩ := gcell (grown_of_below hb1 none) (w.heap.size + 2) (by first | (simp; done) | (simp; omega)); have : w.heap.size < w1.heap.size := (by omega); have : w.heap.size + 1 < w1.heap.size := (by omega))
    | (go_at_call 51; refine (has_any A n c L i _).mono ?_; rintro e w2 ⟨rfl, hb2⟩; rw [hkk.out]; obtain ⟨hc2, hf2, hz2⟩ := gcell (grown_of_below hb2 none) (w.heap.size + 2) (by omega))
    | (go_at_call 28; refine (copied_any A c n L _ av ((((hR.alloc _).alloc _).below hb1).below hb2) hN.out (by omega)).mono ?_; rintro e w3 ⟨g, rfl, hown3, hb3⟩; obtain ⟨hc3, hf3, hz3⟩ := gcell (grown_of_below hb3 none) (w.heap.size + 2) (by omega); have hge : w2.heap.size ≤ g := (hown3.lt g rfl).1; have hlt : g < w3.heap.size := (hown3.lt g rfl).2; have hn0 : ¬ w.heap.size = g := (by omega); have hn1 : ¬ w.heap.size + 1 = g := (by omega); have HOWN := hide (show ∀ v1 v2 v3 v4 v5 v6 v7, World.ownsRow (((((((w3.setCell ⟨w.heap.size, 0, none⟩ v1).setCell ⟨w.heap.size, 1, none⟩ v2).setCell ⟨w.heap.size, 2, none⟩ v3).setCell ⟨w.heap.size, 3, none⟩ v4).setCell ⟨w.heap.size, 4, none⟩ v5).setCell ⟨w.heap.size, 5, none⟩ v6).setCell ⟨w.heap.size, 6, none⟩ v7) w2.heap.size 76 10 (.slice (some ⟨g, 0, none⟩) n (n + 1)) n (L.tks.flatMap Tk.vals) from fun v1 v2 v3 v4 v5 v6 v7 => by (repeat' refine own_far ?_ (by simp [Value.ownBlock]; omega) _); exact hown3); clear hown3; have HFR := hide (show ∀ v1 v2 v3 v4 v5 v6 v7 (S : Nat → Prop), Fr w (((((((w3.setCell ⟨w.heap.size, 0, none⟩ v1).setCell ⟨w.heap.size, 1, none⟩ v2).setCell ⟨w.heap.size, 2, none⟩ v3).setCell ⟨w.heap.size, 3, none⟩ v4).setCell ⟨w.heap.size, 4, none⟩ v5).setCell ⟨w.heap.size, 5, none⟩ v6).setCell ⟨w.heap.size, 6, none⟩ v7) S from fun v1 v2 v3 v4 v5 v6 v7 S => by (repeat' refine Fr.setCell ?_ (by simp) _); exact (((((Fr.refl _ _).alloc _).alloc _).below_ hb1).below_ hb2).below_ hb3))
    | (go_at_call 32; refine (fail1_err g i n (n + 1) w2.heap.size b1 o L.tks t _ er (HOWN.out _ _ _ _ _ _ _) HI.out (by go_simp) hh).mono ?_; rintro e w4 ⟨rfl, rfl⟩))
  refine bodyPost_ret (by simp [results, Tryz.results29, go_sem, hc1, hc2, hc3]) rfl ⟨rfl, ?_⟩
  (repeat' refine Below.setCell ?_ (by simp) _)
  exact (((((((Fr.refl _ _).alloc _).alloc _).below_ hb1).below_ hb2).below_ hb3 : Fr w w3 _)).below (S := fun _ => False) (Nat.le_refl _) (fun _ _ h => h)

end Go.Proofs.YtjkffgcikbkjeaaGreat

/- Contracts: change with a closure. -/
namespace Go.Proofs.YtjkffgcikbkjeaaGreat
open Go.RowKit


end Go.Proofs.YtjkffgcikbkjeaaGreat

/- Contracts: change with a closure. -/
namespace Go.Proofs.YtjkffgcikbkjeaaGreat
open Go.RowKit


set_option maxRecDepth 100000 in
set_option maxHeartbeats 800000 in
theorem change_begin_ok (A : Option Addr) (c n : Nat) (L : Ld) (k : Int) (t : Tk) (b1 b2 b3 : Nat) (run ep a0 : Int) (w : World) (av : Option Nat) (hR : Rs w av 10 Tk.vals A L.tks) (hn : L.tks.length = n) (hc63 : n ≤ 4294967296) (hok : L.ok = true) (hk : L.get? k = some t) (h1 : w.cell? ⟨b1, 0, none⟩ = some (.int .i64 run)) (h2 : w.cell? ⟨b2, 0, none⟩ = some (.int .i64 ep)) (_h3 : w.cell? ⟨b3, 0, none⟩ = some (.int .i64 a0)) (_h3f : w.frozen? ⟨b3, 0, none⟩ = false) (hb1b : b1 < w.heap.size) (hb2b : b2 < w.heap.size) (hb3b : b3 < w.heap.size) (hran : ranB 1 run ep = true) (hst : t.st = 0) (hatt : 0 ≤ t.att ∧ t.att ≤ 4) :
    Calls Tryz.prog 29 #[.agg #[.slice A n c, .int .i64 L.r0, .int .i64 L.r1, .int .i64 L.r2, .int .i64 L.r3, .int .i64 L.r4, .int .i64 L.r5], .int .i64 k, .func (.func 30) #[] #[.pointer (some ⟨b1, 0, none⟩), .pointer (some ⟨b2, 0, none⟩), .pointer (some ⟨b3, 0, none⟩)]] w fun e w' => ∃ g, e = .returned (.tuple #[.agg #[.slice (some ⟨g, 0, none⟩) n (n + 1), .int .i64 L.r0, .int .i64 L.r1, .int .i64 L.r2, .int .i64 L.r3, .int .i64 L.r4, .int .i64 L.r5], .int .i64 0]) ∧
      w'.ownsRow w.heap.size 76 10 (.slice (some ⟨g, 0, none⟩) n (n + 1)) n ((L.put k { t with st := 1, att := t.att + 1, run := run, ep := ep }).tks.flatMap Tk.vals) ∧ w'.cell? ⟨b3, 0, none⟩ = some (.int .i64 (t.att + 1)) ∧ Fr w w' (fun j => j = b3) := by
  obtain ⟨i, rfl, hil, hi⟩ := get?_some hk
  have h128 := ok_len hok
  rw [hn] at hil h128
  have hN := hide hn
  have HI := hide hi
  have hkk := hide (show (decide (0 ≤ (i : Int)) && decide ((i : Int) < (n : Int))) = true by simp; omega)
  clear hn hk hi
  have hb'b1 : b1 < w.heap.size + 2 := by omega
  have hmb1 : ¬ w.heap.size = b1 := by omega
  have hqb1 : ¬ w.heap.size + 1 = b1 := by omega
  have hb'b2 : b2 < w.heap.size + 2 := by omega
  have hmb2 : ¬ w.heap.size = b2 := by omega
  have hqb2 : ¬ w.heap.size + 1 = b2 := by omega
  have hb'b3 : b3 < w.heap.size + 2 := by omega
  have hmb3 : ¬ w.heap.size = b3 := by omega
  have hqb3 : ¬ w.heap.size + 1 = b3 := by omega
  go_enter Tryz.func29, Tryz.ntmps29
  go_wp2_with (first
    | (go_at_call 25; refine (check_any A c n L _ av ((hR.alloc _).alloc _) hN.out hc63).mono ?_; rintro e w1 ⟨rfl, hb1⟩; obtain ⟨hc1, hf1, hz1⟩ := gcell (grown_of_below hb1 none) (w.heap.size + 2) (by first | (simp; done) | (simp; omega)); have : w.heap.size < w1.heap.size := (by omega); have : w.heap.size + 1 < w1.heap.size := (by omega))
    | (go_at_call 51; refine (has_any A n c L i _).mono ?_; rintro e w2 ⟨rfl, hb2⟩; rw [hkk.out]; obtain ⟨hc2, hf2, hz2⟩ := gcell (grown_of_below hb2 none) (w.heap.size + 2) (by omega))
    | (go_at_call 28; refine (copied_any A c n L _ av ((((hR.alloc _).alloc _).below hb1).below hb2) hN.out (by omega)).mono ?_; rintro e w3 ⟨g, rfl, hown3, hb3⟩; obtain ⟨hc3, hf3, hz3⟩ := gcell (grown_of_below hb3 none) (w.heap.size + 2) (by omega); have hge : w2.heap.size ≤ g := (hown3.lt g rfl).1; have hlt : g < w3.heap.size := (hown3.lt g rfl).2; have hn0 : ¬ w.heap.size = g := (by omega); have hn1 : ¬ w.heap.size + 1 = g := (by omega); have HOWN := hide (show ∀ v1 v2 v3 v4 v5 v6 v7, World.ownsRow (((((((w3.setCell ⟨w.heap.size, 0, none⟩ v1).setCell ⟨w.heap.size, 1, none⟩ v2).setCell ⟨w.heap.size, 2, none⟩ v3).setCell ⟨w.heap.size, 3, none⟩ v4).setCell ⟨w.heap.size, 4, none⟩ v5).setCell ⟨w.heap.size, 5, none⟩ v6).setCell ⟨w.heap.size, 6, none⟩ v7) w2.heap.size 76 10 (.slice (some ⟨g, 0, none⟩) n (n + 1)) n (L.tks.flatMap Tk.vals) from fun v1 v2 v3 v4 v5 v6 v7 => by (repeat' refine own_far ?_ (by simp [Value.ownBlock]; omega) _); exact hown3); clear hown3; have HFR := hide (show ∀ v1 v2 v3 v4 v5 v6 v7 (S : Nat → Prop), Fr w (((((((w3.setCell ⟨w.heap.size, 0, none⟩ v1).setCell ⟨w.heap.size, 1, none⟩ v2).setCell ⟨w.heap.size, 2, none⟩ v3).setCell ⟨w.heap.size, 3, none⟩ v4).setCell ⟨w.heap.size, 4, none⟩ v5).setCell ⟨w.heap.size, 5, none⟩ v6).setCell ⟨w.heap.size, 6, none⟩ v7) S from fun v1 v2 v3 v4 v5 v6 v7 S => by (repeat' refine Fr.setCell ?_ (by simp) _); exact (((((Fr.refl _ _).alloc _).alloc _).below_ hb1).below_ hb2).below_ hb3))
    | (go_at_call 30; refine (begin1_ok g i n (n + 1) w2.heap.size b1 b2 b3 run ep a0 L.tks t _ (HOWN.out _ _ _ _ _ _ _) HI.out (by go_simp) (by go_simp) (by go_simp) (by go_simp) (by simp; omega) (by simp; omega) (by simp; omega) (by simp; omega) (by omega) hran hst hatt).mono ?_; rintro e w4 ⟨rfl, hown4, hcell4, hfr4⟩; obtain ⟨hc4, hf4, hz4⟩ := fcell hfr4 (w.heap.size + 2) (by simp; omega)))
  refine bodyPost_ret (v := .tuple #[.agg #[.slice (some ⟨g, 0, none⟩) n (n + 1), .int .i64 L.r0, .int .i64 L.r1, .int .i64 L.r2, .int .i64 L.r3, .int .i64 L.r4, .int .i64 L.r5], .int .i64 0]) (by simp [results, Tryz.results29, go_sem, hc1, hc2, hc3, hc4, hn1, hqb3]) rfl ⟨g, rfl, ?_, ?_, ?_⟩
  · (repeat' refine own_far ?_ (by simp [Value.ownBlock]; omega) _)
    exact own_base hown4 (by omega)
  · go_simp
  · (repeat' refine Fr.setCell ?_ (by simp) _)
    exact (HFR.out _ _ _ _ _ _ _ _).step hfr4 (fun j hj hs => hs.resolve_left (by omega))

set_option maxRecDepth 100000 in
set_option maxHeartbeats 800000 in
theorem change_begin_err (A : Option Addr) (c n : Nat) (L : Ld) (k : Int) (t : Tk) (b1 b2 b3 : Nat) (run ep a0 : Int) (w : World) (av : Option Nat) (hR : Rs w av 10 Tk.vals A L.tks) (hn : L.tks.length = n) (hc63 : n ≤ 4294967296) (hok : L.ok = true) (hk : L.get? k = some t) (er : Int) (her : (er != 0) = true) (h1 : w.cell? ⟨b1, 0, none⟩ = some (.int .i64 run)) (h2 : w.cell? ⟨b2, 0, none⟩ = some (.int .i64 ep)) (_h3 : w.cell? ⟨b3, 0, none⟩ = some (.int .i64 a0)) (_h3f : w.frozen? ⟨b3, 0, none⟩ = false) (hb1b : b1 < w.heap.size) (hb2b : b2 < w.heap.size) (hb3b : b3 < w.heap.size) (hran : (ranB 1 run ep = false ∧ er = 3) ∨ (ranB 1 run ep = true ∧ t.st ≠ 0 ∧ er = 45)) :
    Calls Tryz.prog 29 #[.agg #[.slice A n c, .int .i64 L.r0, .int .i64 L.r1, .int .i64 L.r2, .int .i64 L.r3, .int .i64 L.r4, .int .i64 L.r5], .int .i64 k, .func (.func 30) #[] #[.pointer (some ⟨b1, 0, none⟩), .pointer (some ⟨b2, 0, none⟩), .pointer (some ⟨b3, 0, none⟩)]] w fun e w' => e = .returned (.tuple #[.agg #[.slice none 0 0, .int .i64 0, .int .i64 0, .int .i64 0, .int .i64 0, .int .i64 0, .int .i64 0], .int .i64 er]) ∧ Below w.heap.size w w' := by
  obtain ⟨i, rfl, hil, hi⟩ := get?_some hk
  have h128 := ok_len hok
  rw [hn] at hil h128
  have hN := hide hn
  have HI := hide hi
  have hkk := hide (show (decide (0 ≤ (i : Int)) && decide ((i : Int) < (n : Int))) = true by simp; omega)
  clear hn hk hi
  have hb'b1 : b1 < w.heap.size + 2 := by omega
  have hmb1 : ¬ w.heap.size = b1 := by omega
  have hqb1 : ¬ w.heap.size + 1 = b1 := by omega
  have hb'b2 : b2 < w.heap.size + 2 := by omega
  have hmb2 : ¬ w.heap.size = b2 := by omega
  have hqb2 : ¬ w.heap.size + 1 = b2 := by omega
  have hb'b3 : b3 < w.heap.size + 2 := by omega
  have hmb3 : ¬ w.heap.size = b3 := by omega
  have hqb3 : ¬ w.heap.size + 1 = b3 := by omega
  go_enter Tryz.func29, Tryz.ntmps29
  go_wp2_with (first
    | (go_at_call 25; refine (check_any A c n L _ av ((hR.alloc _).alloc _) hN.out hc63).mono ?_; rintro e w1 ⟨rfl, hb1⟩; obtain ⟨hc1, hf1, hz1⟩ := gcell (grown_of_below hb1 none) (w.heap.size + 2) (by first | (simp; done) | (simp; omega)); have : w.heap.size < w1.heap.size := (by omega); have : w.heap.size + 1 < w1.heap.size := (by omega))
    | (go_at_call 51; refine (has_any A n c L i _).mono ?_; rintro e w2 ⟨rfl, hb2⟩; rw [hkk.out]; obtain ⟨hc2, hf2, hz2⟩ := gcell (grown_of_below hb2 none) (w.heap.size + 2) (by omega))
    | (go_at_call 28; refine (copied_any A c n L _ av ((((hR.alloc _).alloc _).below hb1).below hb2) hN.out (by omega)).mono ?_; rintro e w3 ⟨g, rfl, hown3, hb3⟩; obtain ⟨hc3, hf3, hz3⟩ := gcell (grown_of_below hb3 none) (w.heap.size + 2) (by omega); have hge : w2.heap.size ≤ g := (hown3.lt g rfl).1; have hlt : g < w3.heap.size := (hown3.lt g rfl).2; have hn0 : ¬ w.heap.size = g := (by omega); have hn1 : ¬ w.heap.size + 1 = g := (by omega); have HOWN := hide (show ∀ v1 v2 v3 v4 v5 v6 v7, World.ownsRow (((((((w3.setCell ⟨w.heap.size, 0, none⟩ v1).setCell ⟨w.heap.size, 1, none⟩ v2).setCell ⟨w.heap.size, 2, none⟩ v3).setCell ⟨w.heap.size, 3, none⟩ v4).setCell ⟨w.heap.size, 4, none⟩ v5).setCell ⟨w.heap.size, 5, none⟩ v6).setCell ⟨w.heap.size, 6, none⟩ v7) w2.heap.size 76 10 (.slice (some ⟨g, 0, none⟩) n (n + 1)) n (L.tks.flatMap Tk.vals) from fun v1 v2 v3 v4 v5 v6 v7 => by (repeat' refine own_far ?_ (by simp [Value.ownBlock]; omega) _); exact hown3); clear hown3; have HFR := hide (show ∀ v1 v2 v3 v4 v5 v6 v7 (S : Nat → Prop), Fr w (((((((w3.setCell ⟨w.heap.size, 0, none⟩ v1).setCell ⟨w.heap.size, 1, none⟩ v2).setCell ⟨w.heap.size, 2, none⟩ v3).setCell ⟨w.heap.size, 3, none⟩ v4).setCell ⟨w.heap.size, 4, none⟩ v5).setCell ⟨w.heap.size, 5, none⟩ v6).setCell ⟨w.heap.size, 6, none⟩ v7) S from fun v1 v2 v3 v4 v5 v6 v7 S => by (repeat' refine Fr.setCell ?_ (by simp) _); exact (((((Fr.refl _ _).alloc _).alloc _).below_ hb1).below_ hb2).below_ hb3))
    | (go_at_call 30; refine (begin1_err g i n (n + 1) w2.heap.size b1 b2 b3 run ep L.tks t _ er (HOWN.out _ _ _ _ _ _ _) HI.out (by go_simp) (by go_simp) (by simp; omega) (by simp; omega) (by simp; omega) hran).mono ?_; rintro e w4 ⟨rfl, hb4⟩; obtain ⟨hc4, hf4, hz4⟩ := gcell (grown_of_below hb4 none) (w.heap.size + 2) (by simp; omega)))
  refine bodyPost_ret (by simp [results, Tryz.results29, go_sem, hc1, hc2, hc3, hc4]) rfl ⟨rfl, ?_⟩
  (repeat' refine Below.setCell ?_ (by simp) _)
  exact ((HFR.out _ _ _ _ _ _ _ _).below_ hb4).below (S := fun _ => False) (Nat.le_refl _) (fun _ _ h => h)

end Go.Proofs.YtjkffgcikbkjeaaGreat
