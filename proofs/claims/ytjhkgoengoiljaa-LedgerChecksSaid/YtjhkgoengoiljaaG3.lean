/- Contracts of the functions that these laws reach: part 3: What a step's two stores leave; A step keeps a ledger well-formed; Contracts: the closures of change; find; Contracts: fail, Fail's and Cancel's closures, failed; Contracts: a ledger is right; Contracts: change; Contracts: change with a closure. -/
import Derived.Test.YtjhkgoengoiljaaG2
import Derived.Test.YtjhkgoengoiljaaG1
import Derived.Deep.LoopGhost
set_option linter.unusedVariables false
set_option linter.unusedSimpArgs false

/- What a step's two stores leave. -/
namespace Go.Proofs.Ytjhkgoengoiljaa
open Go.RowKit

def LDV (A : Option Addr) (n c : Nat) (L : Ld) : V7 := ⟨.slice A n c, .int .i64 L.r0, .int .i64 L.r1, .int .i64 L.r2, .int .i64 L.r3, .int .i64 L.r4, .int .i64 L.r5⟩
def LZV : V7 := ⟨.slice none 0 0, .int .i64 0, .int .i64 0, .int .i64 0, .int .i64 0, .int .i64 0, .int .i64 0⟩
theorem tk_str (t : Tk) : ∃ p, t.vals[0]? = some (.string p) := ⟨_, rfl⟩
theorem lzv_no : noStr LZV.v0 ∧ noStr LZV.v1 ∧ noStr LZV.v2 ∧ noStr LZV.v3 ∧ noStr LZV.v4 ∧ noStr LZV.v5 ∧ noStr LZV.v6 := ⟨trivial, trivial, trivial, trivial, trivial, trivial, trivial⟩

theorem put4_all {w : World} {H T : Nat} {x0 x1 x2 x3 x5 : V7} {A : Option Addr} {n c a : Nat} {l : List Int} {B : Option Addr} {tks : List Tk} (u : V7) (h6 : S6 w H x0 x1 x2 x3 LZV x5) (hr : Rs w (some T) 10 Tk.vals B tks) (ht : TapeAt w T A n c l a) (hTH : T < H)
    (hA : l ≠ [] → ∀ b o, A = some ⟨b, o, none⟩ → b < H) :
    S6 (put7 w (H + 4) u.v0 u.v1 u.v2 u.v3 u.v4 u.v5 u.v6) H x0 x1 x2 x3 u x5 ∧ Rs (put7 w (H + 4) u.v0 u.v1 u.v2 u.v3 u.v4 u.v5 u.v6) (some T) 10 Tk.vals B tks ∧ TapeAt (put7 w (H + 4) u.v0 u.v1 u.v2 u.v3 u.v4 u.v5 u.v6) T A n c l a ∧
    Fr w (put7 w (H + 4) u.v0 u.v1 u.v2 u.v3 u.v4 u.v5 u.v6) (fun i => i = H + 4) := by
  refine ⟨h6.put4 u, hr.fr fr_put7 (fun hl b o hB _ h => rs_not_b7 hr tk_str h6.2.2.2.2.1 lzv_no hl b o hB h), ht.fr fr_put7 (fun h => by omega) (fun b o hA' hl h => by have := hA hl b o hA'; omega), fr_put7⟩
theorem put5_all {w : World} {H T : Nat} {x0 x1 x2 x3 x4 : V7} {A : Option Addr} {n c a : Nat} {l : List Int} {B B' : Option Addr} {tks tks' : List Tk} (u : V7) (h6 : S6 w H x0 x1 x2 x3 x4 LZV) (hr : Rs w (some T) 10 Tk.vals B tks) (hr' : Rs w (some T) 10 Tk.vals B' tks') (ht : TapeAt w T A n c l a) (hTH : T < H)
    (hA : l ≠ [] → ∀ b o, A = some ⟨b, o, none⟩ → b < H) :
    S6 (put7 w (H + 5) u.v0 u.v1 u.v2 u.v3 u.v4 u.v5 u.v6) H x0 x1 x2 x3 x4 u ∧ Rs (put7 w (H + 5) u.v0 u.v1 u.v2 u.v3 u.v4 u.v5 u.v6) (some T) 10 Tk.vals B tks ∧ Rs (put7 w (H + 5) u.v0 u.v1 u.v2 u.v3 u.v4 u.v5 u.v6) (some T) 10 Tk.vals B' tks' ∧ TapeAt (put7 w (H + 5) u.v0 u.v1 u.v2 u.v3 u.v4 u.v5 u.v6) T A n c l a ∧
    Fr w (put7 w (H + 5) u.v0 u.v1 u.v2 u.v3 u.v4 u.v5 u.v6) (fun i => i = H + 5) := by
  refine ⟨h6.put5 u, hr.fr fr_put7 (fun hl b o hB _ h => rs_not_b7 hr tk_str h6.2.2.2.2.2 lzv_no hl b o hB h), hr'.fr fr_put7 (fun hl b o hB _ h => rs_not_b7 hr' tk_str h6.2.2.2.2.2 lzv_no hl b o hB h), ht.fr fr_put7 (fun h => by omega) (fun b o hA' hl h => by have := hA hl b o hA'; omega), fr_put7⟩

/-- A new block, its number spelled otherwise. -/
@[go_sem] theorem cell?_alloc_at (w : World) (c : Array Value) (t : TypeId) (i H : Nat) (h : w.heap.size = H) : (w.alloc (.cells c t)).cell? ⟨H, i, none⟩ = c[i]? := by
  subst h
  exact World.cell?_alloc_new w c t i

/-- The five cells of a report at block g. -/
def RepAt (w : World) (g : Nat) (p : Rp) : Prop :=
  g < w.heap.size ∧ (w.cell? ⟨g, 0, none⟩ = some (.int .i64 p.tick) ∧ w.cell? ⟨g, 1, none⟩ = some (.int .i64 p.att) ∧ w.cell? ⟨g, 2, none⟩ = some (.int .i64 p.run) ∧ w.cell? ⟨g, 3, none⟩ = some (.int .i64 p.ep) ∧ w.cell? ⟨g, 4, none⟩ = some (.int .i64 p.out)) ∧ ∀ j, w.frozen? ⟨g, j, none⟩ = false
theorem RepAt.fr {w w' : World} {g : Nat} {p : Rp} {S : Nat → Prop} (h : RepAt w g p) (hf : Fr w w' S) (hS : ¬ S g) : RepAt w' g p := by
  obtain ⟨h0, ⟨h1, h2, h3, h4, h5⟩, h8⟩ := h
  have hk := hf.block g h0 hS
  have tr : ∀ {o : Nat} {u : Value}, w.cell? ⟨g, o, none⟩ = some u → w'.cell? ⟨g, o, none⟩ = some u := fun hu => (World.cell?_of_block (w := w) hk).trans hu
  exact ⟨Nat.lt_of_lt_of_le h0 hf.size, ⟨tr h1, tr h2, tr h3, tr h4, tr h5⟩, fun j => (World.frozen?_of_block (w := w) hk).trans (h8 j)⟩

theorem rep_put {w : World} {g : Nat} {p : Rp} (x1 x2 x3 : Int) (o : Obj) (h : RepAt w g p) :
    RepAt ((((w.setCell ⟨g, 1, none⟩ (.int .i64 x1)).setCell ⟨g, 2, none⟩ (.int .i64 x2)).setCell ⟨g, 3, none⟩ (.int .i64 x3)).alloc o).drew g ⟨p.tick, x1, x2, x3, p.out⟩ ∧
    Fr w ((((w.setCell ⟨g, 1, none⟩ (.int .i64 x1)).setCell ⟨g, 2, none⟩ (.int .i64 x2)).setCell ⟨g, 3, none⟩ (.int .i64 x3)).alloc o).drew (fun i => i = g) := by
  have hf : Fr w ((w.setCell ⟨g, 1, none⟩ (.int .i64 x1)).setCell ⟨g, 2, none⟩ (.int .i64 x2) |>.setCell ⟨g, 3, none⟩ (.int .i64 x3)) (fun i => i = g) := by
    iterate 3 (refine Fr.setCell ?_ (Or.inr (by rfl)) _)
    exact Fr.refl _ _
  refine ⟨?_, (hf.alloc _).drew⟩
  have h3 : RepAt ((w.setCell ⟨g, 1, none⟩ (.int .i64 x1)).setCell ⟨g, 2, none⟩ (.int .i64 x2) |>.setCell ⟨g, 3, none⟩ (.int .i64 x3)) g ⟨p.tick, x1, x2, x3, p.out⟩ := by
    obtain ⟨h0, ⟨h1, h2, h3, h4, h5⟩, h8⟩ := h
    refine ⟨by simpa [World.setCell] using h0, ⟨?_, ?_, ?_, ?_, ?_⟩, fun j => by simp only [World.frozen?_setCell]; exact h8 j⟩ <;> go_simp
  have h4 := h3.fr ((Fr.refl _ (fun _ => False)).alloc o) (fun h => h)
  exact h4

/-- The four cells of a task at block g. -/
def TaskAt4 (w : World) (g : Nat) (t : Tk) : Prop :=
  g < w.heap.size ∧ (w.cell? ⟨g, 0, none⟩ = some (.string t.pk) ∧ w.cell? ⟨g, 1, none⟩ = some (.string t.ts) ∧ w.cell? ⟨g, 2, none⟩ = some (.int .i64 t.env) ∧ w.cell? ⟨g, 3, none⟩ = some (.int .i64 t.cost)) ∧ ∀ j, w.frozen? ⟨g, j, none⟩ = false
theorem TaskAt4.fr {w w' : World} {g : Nat} {t : Tk} {S : Nat → Prop} (h : TaskAt4 w g t) (hf : Fr w w' S) (hS : ¬ S g) : TaskAt4 w' g t := by
  obtain ⟨h0, ⟨h1, h2, h3, h4⟩, h8⟩ := h
  have hk := hf.block g h0 hS
  have tr : ∀ {o : Nat} {u : Value}, w.cell? ⟨g, o, none⟩ = some u → w'.cell? ⟨g, o, none⟩ = some u := fun hu => (World.cell?_of_block (w := w) hk).trans hu
  exact ⟨Nat.lt_of_lt_of_le h0 hf.size, ⟨tr h1, tr h2, tr h3, tr h4⟩, fun j => (World.frozen?_of_block (w := w) hk).trans (h8 j)⟩
theorem task_put {w : World} {g : Nat} {t : Tk} (x : Int) (h : TaskAt4 w g t) : TaskAt4 (w.setCell ⟨g, 3, none⟩ (.int .i64 x)) g { t with cost := x } ∧ Fr w (w.setCell ⟨g, 3, none⟩ (.int .i64 x)) (fun i => i = g) := by
  obtain ⟨h0, ⟨h1, h2, h3, h4⟩, h8⟩ := h
  refine ⟨⟨by simpa [World.setCell] using h0, ⟨?_, ?_, ?_, ?_⟩, fun j => by simp only [World.frozen?_setCell]; exact h8 j⟩, ?_⟩
  · go_simp
  · go_simp
  · go_simp
  · go_simp
  · refine Fr.setCell ?_ (Or.inr (by rfl)) _
    exact Fr.refl _ _
theorem plan_task_ok {L : Ld} {t : Tk} {rev : Int} (h : (L.plan t rev).2.2 = 0) : taskOk t = true := by
  cases ht : taskOk t
  · simp [Ld.plan, ht] at h
  · rfl

/-- A list of ints just made. -/
theorem rs_new {w : World} {T : Nat} (hT : T < w.heap.size) (xs : List Int) (t : TypeId) : Rs (w.alloc (.cells ((xs.map (Value.int .i64)).toArray) t)) (some T) 1 iv (some ⟨w.heap.size, 0, none⟩) xs := by
  intro _
  refine ⟨w.heap.size, 0, rfl, by intro h; injection h with h; omega, by simp, fun k a hk j u hu => ?_⟩
  match j with
  | 0 =>
    simp [iv] at hu
    subst hu
    rw [World.cell?_alloc_new]
    simp [hk]
  | j + 1 => simp [iv] at hu

/-- What one step may make of a ledger. -/
def StepR (L X : Ld) : Prop :=
  X = L ∨ (∃ t rev, taskOk t = true ∧ (L.plan t rev).2.2 = 0 ∧ X = (L.plan t rev).1) ∨ (∃ k r e, (L.begin k r e).2.2 = 0 ∧ X = (L.begin k r e).1) ∨ (∃ p, (L.take p).2.2 = 0 ∧ X = (L.take p).1) ∨
  (∃ k o, (L.fail k o).2 = 0 ∧ X = (L.fail k o).1) ∨ (∃ r e, (L.lose r e).2.2 = 0 ∧ X = (L.lose r e).1) ∨ (∃ k, (L.cancel k).2 = 0 ∧ X = (L.cancel k).1)

theorem len_put (L : Ld) (k : Int) (t : Tk) : (L.put k t).tks.length = L.tks.length := by simp [Ld.put]
theorem cancel_len (L : Ld) (k : Int) : (L.cancel k).1.tks.length ≤ L.tks.length := by
  unfold Ld.cancel
  split
  · simp [Ld.nil]
  · split
    · simp [Ld.nil]
    · split
      · simp [Ld.nil]
      · simp [len_put]
theorem fail_len (L : Ld) (k o : Int) : (L.fail k o).1.tks.length ≤ L.tks.length := by
  unfold Ld.fail
  split
  · simp [Ld.nil]
  · split
    · simp [Ld.nil]
    · split
      · simp [Ld.nil]
      · split
        · simp [Ld.nil]
        · simp [len_put]
theorem begin_len (L : Ld) (k r e : Int) : (L.begin k r e).1.tks.length ≤ L.tks.length := by
  unfold Ld.begin
  split
  · simp [Ld.nil]
  · split
    · simp [Ld.nil]
    · split
      · simp [Ld.nil]
      · split
        · simp [Ld.nil]
        · simp [len_put]
theorem count_len (L : Ld) (k : Int) : (L.count k).tks = L.tks := by
  unfold Ld.count
  split
  · rfl
  · split
    · rfl
    · split
      · rfl
      · split <;> rfl
theorem take_len (L : Ld) (p : Rp) : (L.take p).1.tks.length ≤ L.tks.length := by
  unfold Ld.take
  split
  · simp [Ld.nil]
  · split
    · simp [Ld.nil]
    · dsimp only
      split
      · unfold Ld.accept
        split
        · rw [count_len]; exact Nat.le_refl _
        · rw [len_put, count_len]; exact Nat.le_refl _
      · rw [count_len]; exact Nat.le_refl _
theorem plan_len (L : Ld) (t : Tk) (rev : Int) : (L.plan t rev).1.tks.length ≤ L.tks.length + 1 := by
  unfold Ld.plan
  split
  · simp [Ld.nil]
  · split
    · simp [Ld.nil]
    · split
      · simp [Ld.nil]
      · simp
theorem idxs_len' (p : Tk → Bool) : ∀ (l : List Tk) (k : Nat), (idxs p l k).length ≤ l.length
  | [], _ => Nat.le_refl _
  | t :: l, k => by
    simp only [idxs]
    have := idxs_len' p l (k + 1)
    split <;> simp <;> omega
theorem lose_idx (L : Ld) (r e : Int) : (L.lose r e).2.1.length ≤ L.tks.length := by
  unfold Ld.lose
  split
  · simp
  · exact idxs_len' _ _ _
theorem lose_len (L : Ld) (r e : Int) : (L.lose r e).1.tks.length ≤ L.tks.length := by
  unfold Ld.lose
  split
  · simp [Ld.nil]
  · simp

end Go.Proofs.Ytjhkgoengoiljaa

/- A step keeps a ledger well-formed. -/
namespace Go.Proofs.Ytjhkgoengoiljaa

theorem step_ok {L X : Ld} (hok : L.ok = true) (h : StepR L X) : X.ok = true := by
  rcases h with rfl | ⟨t, rev, _, h, rfl⟩ | ⟨k, r, e, h, rfl⟩ | ⟨p, h, rfl⟩ | ⟨k, o, h, rfl⟩ | ⟨r, e, _, rfl⟩ | ⟨k, h, rfl⟩
  · exact hok
  · exact plan_ok' hok h
  · exact begin_ok' hok h
  · exact take_ok' hok h
  · exact fail_ok' hok h
  · exact lose_ok' hok
  · exact cancel_ok' hok h

/-- What some steps may make of the empty ledger. -/
inductive Reach : Nat → Ld → Prop where
  | zero : Reach 0 Ld.nil
  | step {n : Nat} {L X : Ld} : Reach n L → StepR L X → Reach (n + 1) X
theorem Reach.ok {n : Nat} {L : Ld} (h : Reach n L) : L.ok = true := by
  induction h with
  | zero => exact nil_ok
  | step _ hs ih => exact step_ok ih hs

end Go.Proofs.Ytjhkgoengoiljaa

/- Contracts: the closures of change; find. -/
namespace Go.Proofs.Ytjhkgoengoiljaa
open Go.RowKit

def TkFz (w : World) (g : Nat) : Prop := ∀ j, w.frozen? ⟨g, j, none⟩ = false

set_option maxRecDepth 100000 in
set_option maxHeartbeats 4000000 in
theorem begin1_ok (g k n cap base b1 b2 b3 : Nat) (run ep a0 : Int) (l : List Tk) (t : Tk) (w : World)
    (hown : w.ownsRow base 43 10 (.slice (some ⟨g, 0, none⟩) n cap) n (l.flatMap Tk.vals)) (hk : l[k]? = some t)
    (h1 : w.cell? ⟨b1, 0, none⟩ = some (.int .i64 run)) (h2 : w.cell? ⟨b2, 0, none⟩ = some (.int .i64 ep)) (h3 : w.cell? ⟨b3, 0, none⟩ = some (.int .i64 a0)) (hf3 : w.frozen? ⟨b3, 0, none⟩ = false)
    (hg : g < w.heap.size) (hb1 : b1 < w.heap.size) (hb2 : b2 < w.heap.size) (hb3 : b3 < w.heap.size) (hne : b3 ≠ g) (hran : ranB 1 run ep = true) (hst : t.st = 0) (hatt : 0 ≤ t.att ∧ t.att ≤ 4) :
    Calls Try.prog 43 #[.pointer (some ⟨g, k * 10, none⟩), .pointer (some ⟨b1, 0, none⟩), .pointer (some ⟨b2, 0, none⟩), .pointer (some ⟨b3, 0, none⟩)] w fun e w' => e = .returned (.int .i64 0) ∧
      w'.ownsRow base 43 10 (.slice (some ⟨g, 0, none⟩) n cap) n ((l.set k { t with st := 1, att := t.att + 1, run := run, ep := ep }).flatMap Tk.vals) ∧
      w'.cell? ⟨b3, 0, none⟩ = some (.int .i64 (t.att + 1)) ∧ Fr w w' (fun i => i = g ∨ i = b3) := by
  obtain ⟨f0, f1, f2, f3, f4, f5, f6, f7, f8, f9⟩ := tkAt_of (own_cells Tk.vals_len hown hk)
  have hfz := fun j => hown.frozenAt j
  have HK := hide hk
  have HO := hide hown
  have hkl : k < l.length := (List.getElem?_eq_some_iff.1 hk).1
  clear hk hown
  go_enter Try.func43, Try.ntmps43
  go_wp2_with fail
  go_region
  go_wp2_with (go_at_call 44; refine (runs_any { t with st := 1, att := 1, run := run, ep := ep } _).mono ?_; rintro e w1 ⟨rfl, hb1⟩; simp only [hran]; obtain ⟨hc1, hf1, hz1⟩ := gcell (grown_of_below hb1 none) (w.heap.size + 1) (by simp))
  go_region
  go_wp2_with fail
  go_ret
  refine ⟨rfl, ?_, ?_, ?_⟩
  · have s0 := own_start (own_far (own_below (own_drew (HO.out.alloc _)) hb1) (p := ⟨w.heap.size, 6, none⟩) (by simp [Value.ownBlock]; omega) (.int .i64 (t.att + 1))) HK.out
    have s1 := own_put Tk.vals_len (j := 0) (t1 := t) (u := .string t.pk) s0 hkl (by decide) rfl
    have s2 := own_put Tk.vals_len (j := 1) (t1 := t) (u := .string t.ts) s1 hkl (by decide) rfl
    have s3 := own_put Tk.vals_len (j := 2) (t1 := t) (u := .int .i64 t.env) s2 hkl (by decide) rfl
    have s4 := own_put Tk.vals_len (j := 3) (t1 := t) (u := .int .i64 t.cost) s3 hkl (by decide) rfl
    have s5 := own_put Tk.vals_len (j := 4) (t1 := t) (u := .int .i64 t.rev) s4 hkl (by decide) rfl
    have s6 := own_put Tk.vals_len (j := 5) (t1 := { t with st := 1 }) (u := .int .i64 1) s5 hkl (by decide) rfl
    have s7 := own_put Tk.vals_len (j := 6) (t1 := { t with st := 1, att := t.att + 1 }) (u := .int .i64 (t.att + 1)) s6 hkl (by decide) rfl
    have s8 := own_put Tk.vals_len (j := 7) (t1 := { t with st := 1, att := t.att + 1, run := run }) (u := .int .i64 run) s7 hkl (by decide) rfl
    have s9 := own_put Tk.vals_len (j := 8) (t1 := { t with st := 1, att := t.att + 1, run := run, ep := ep }) (u := .int .i64 ep) s8 hkl (by decide) rfl
    have s10 := own_put Tk.vals_len (j := 9) (t1 := { t with st := 1, att := t.att + 1, run := run, ep := ep }) (u := .int .i64 t.out) s9 hkl (by decide) rfl
    exact own_drew (own_far s10 (by simp [Value.ownBlock]; omega) _)
  · rw [World.cell?_drew]
    exact World.cell?_setCell_same _ _ _ (show _ = some (Value.int .i64 a0) by go_simp)
  · refine Fr.drew ?_
    (repeat' refine Fr.setCell ?_ (by simp) _)
    exact (((Fr.refl _ _).alloc _).drew).below_ hb1

set_option maxRecDepth 100000 in
set_option maxHeartbeats 4000000 in
/-- Begin's closure on a ticket that is not begun. -/
theorem begin1_err (g k n cap base b1 b2 b3 : Nat) (run ep : Int) (l : List Tk) (t : Tk) (w : World) (er : Int)
    (hown : w.ownsRow base 43 10 (.slice (some ⟨g, 0, none⟩) n cap) n (l.flatMap Tk.vals)) (hk : l[k]? = some t)
    (h1 : w.cell? ⟨b1, 0, none⟩ = some (.int .i64 run)) (h2 : w.cell? ⟨b2, 0, none⟩ = some (.int .i64 ep))
    (hg : g < w.heap.size) (hb1 : b1 < w.heap.size) (hb2 : b2 < w.heap.size) (hran : (ranB 1 run ep = false ∧ er = 3) ∨ (ranB 1 run ep = true ∧ t.st ≠ 0 ∧ er = 45)) :
    Calls Try.prog 43 #[.pointer (some ⟨g, k * 10, none⟩), .pointer (some ⟨b1, 0, none⟩), .pointer (some ⟨b2, 0, none⟩), .pointer (some ⟨b3, 0, none⟩)] w fun e w' => e = .returned (.int .i64 er) ∧ Below w.heap.size w w' := by
  obtain ⟨f0, f1, f2, f3, f4, f5, f6, f7, f8, f9⟩ := tkAt_of (own_cells Tk.vals_len hown hk)
  have HK := hide hk
  have HO := hide hown
  clear hk hown
  rcases hran with ⟨hran, rfl⟩ | ⟨hran, hst, rfl⟩
  · go_enter Try.func43, Try.ntmps43
    go_wp2_with fail
    go_region
    go_wp2_with (go_at_call 44; refine (runs_any { t with st := 1, att := 1, run := run, ep := ep } _).mono ?_; rintro e w1 ⟨rfl, hb1⟩; simp only [hran]; obtain ⟨hc1, hf1, hz1⟩ := gcell (grown_of_below hb1 none) (w.heap.size + 1) (by simp))
    go_ret
    exact ⟨rfl, (((Below.refl _ _).alloc (Nat.le_refl _) _).drew).trans (hb1.mono (by simp))⟩
  · have hs : (t.st != 0) = true := by simpa using hst
    clear hst
    go_enter Try.func43, Try.ntmps43
    go_wp2_with fail
    go_region
    go_wp2_with (go_at_call 44; refine (runs_any { t with st := 1, att := 1, run := run, ep := ep } _).mono ?_; rintro e w1 ⟨rfl, hb1⟩; simp only [hran]; obtain ⟨hc1, hf1, hz1⟩ := gcell (grown_of_below hb1 none) (w.heap.size + 1) (by simp))
    go_ret
    exact ⟨rfl, (((Below.refl _ _).alloc (Nat.le_refl _) _).drew).trans (hb1.mono (by simp))⟩

end Go.Proofs.Ytjhkgoengoiljaa

/- Contracts: fail, Fail's and Cancel's closures, failed. -/
namespace Go.Proofs.Ytjhkgoengoiljaa
open Go.RowKit

theorem own_lt {w : World} {base s g n cap : Nat} {e : TypeId} {xs : List Value} (h : w.ownsRow base e s (.slice (some ⟨g, 0, none⟩) n cap) n xs) : g < w.heap.size := (h.lt g rfl).2

set_option maxRecDepth 100000 in
set_option maxHeartbeats 1000000 in
theorem lfail_any (g k n cap base : Nat) (o : Int) (l : List Tk) (t : Tk) (w : World)
    (hown : w.ownsRow base 43 10 (.slice (some ⟨g, 0, none⟩) n cap) n (l.flatMap Tk.vals)) (hk : l[k]? = some t) :
    Calls Try.prog 48 #[.pointer (some ⟨g, k * 10, none⟩), .int .i64 o] w fun e w' => e = .returned (.tuple #[]) ∧
      w'.ownsRow base 43 10 (.slice (some ⟨g, 0, none⟩) n cap) n ((l.set k (t.failed o)).flatMap Tk.vals) ∧ Fr w w' (fun i => i = g) := by
  obtain ⟨f0, f1, f2, f3, f4, f5, f6, f7, f8, f9⟩ := tkAt_of (own_cells Tk.vals_len hown hk)
  have hfz := fun j => hown.frozenAt j
  have hkl : k < l.length := (List.getElem?_eq_some_iff.1 hk).1
  have S0 := hide (own_start hown hk)
  clear hk hown
  by_cases h4 : t.att = 4
  · have hb : (t.att == 4) = true := by simp [h4]
    have HF := hide (show t.failed o = { t with st := 2, out := o } by simp [Tk.failed, h4])
    clear h4
    go_enter Try.func48, Try.ntmps48
    go_wp2
    refine bodyPost_ret (results_none rfl _ _ _) rfl ⟨rfl, ?_, ?_⟩
    · rw [HF.out]
      have s1 := own_put Tk.vals_len (j := 5) (t1 := { t with st := 2 }) (u := .int .i64 2) S0.out hkl (by decide) rfl
      exact own_put Tk.vals_len (j := 9) (t1 := { t with st := 2, out := o }) (u := .int .i64 o) s1 hkl (by decide) rfl
    · (repeat' refine Fr.setCell ?_ (by simp) _)
      exact Fr.refl _ _
  · have hb : (t.att == 4) = false := by simp [h4]
    have HF := hide (show t.failed o = { t with st := 0, run := 0, ep := 0 } by simp [Tk.failed, h4])
    clear h4
    go_enter Try.func48, Try.ntmps48
    go_wp2
    go_end0
    refine ⟨rfl, ?_, ?_⟩
    · rw [HF.out]
      have s1 := own_put Tk.vals_len (j := 5) (t1 := { t with st := 0 }) (u := .int .i64 0) S0.out hkl (by decide) rfl
      have s2 := own_put Tk.vals_len (j := 7) (t1 := { t with st := 0, run := 0 }) (u := .int .i64 0) s1 hkl (by decide) rfl
      exact own_put Tk.vals_len (j := 8) (t1 := { t with st := 0, run := 0, ep := 0 }) (u := .int .i64 0) s2 hkl (by decide) rfl
    · (repeat' refine Fr.setCell ?_ (by simp) _)
      exact Fr.refl _ _

set_option maxRecDepth 100000 in
set_option maxHeartbeats 1000000 in
theorem fail1_ok (g k n cap base b1 : Nat) (o : Int) (l : List Tk) (t : Tk) (w : World)
    (hown : w.ownsRow base 43 10 (.slice (some ⟨g, 0, none⟩) n cap) n (l.flatMap Tk.vals)) (hk : l[k]? = some t)
    (h1 : w.cell? ⟨b1, 0, none⟩ = some (.int .i64 o)) (ho : o = 4 ∨ o = 5) (hst : t.st = 1) :
    Calls Try.prog 47 #[.pointer (some ⟨g, k * 10, none⟩), .pointer (some ⟨b1, 0, none⟩)] w fun e w' => e = .returned (.int .i64 0) ∧
      w'.ownsRow base 43 10 (.slice (some ⟨g, 0, none⟩) n cap) n ((l.set k (t.failed o)).flatMap Tk.vals) ∧ Fr w w' (fun i => i = g) := by
  obtain ⟨f0, f1, f2, f3, f4, f5, f6, f7, f8, f9⟩ := tkAt_of (own_cells Tk.vals_len hown hk)
  have HO := hide hown
  have HK := hide hk
  have hs : (t.st != 1) = false := by simp [hst]
  clear hk hown hst
  rcases ho with rfl | rfl
  all_goals
    go_enter Try.func47, Try.ntmps47
    go_wp2_with (go_at_call 48; refine (lfail_any g k n cap base _ l t _ HO.out HK.out).mono ?_; rintro e w1 ⟨rfl, hown1, hfr1⟩)
    go_ret
    exact ⟨rfl, hown1, hfr1⟩

set_option maxRecDepth 100000 in
set_option maxHeartbeats 1000000 in
theorem fail1_err (g k n cap base b1 : Nat) (o : Int) (l : List Tk) (t : Tk) (w : World) (er : Int)
    (hown : w.ownsRow base 43 10 (.slice (some ⟨g, 0, none⟩) n cap) n (l.flatMap Tk.vals)) (hk : l[k]? = some t)
    (h1 : w.cell? ⟨b1, 0, none⟩ = some (.int .i64 o)) (hh : (o ≠ 4 ∧ o ≠ 5 ∧ er = 3) ∨ ((o = 4 ∨ o = 5) ∧ t.st ≠ 1 ∧ er = 45)) :
    Calls Try.prog 47 #[.pointer (some ⟨g, k * 10, none⟩), .pointer (some ⟨b1, 0, none⟩)] w fun e w' => e = .returned (.int .i64 er) ∧ w = w' := by
  obtain ⟨f0, f1, f2, f3, f4, f5, f6, f7, f8, f9⟩ := tkAt_of (own_cells Tk.vals_len hown hk)
  clear hk hown
  rcases hh with ⟨h4, h5, rfl⟩ | ⟨ho, hst, rfl⟩
  · have e4 : (o != 4) = true := by simpa using h4
    have e5 : (o != 5) = true := by simpa using h5
    clear h4 h5
    go_enter Try.func47, Try.ntmps47
    go_wp2
    go_ret
    exact ⟨rfl, rfl⟩
  · have hs : (t.st != 1) = true := by simpa using hst
    clear hst
    rcases ho with rfl | rfl
    all_goals
      go_enter Try.func47, Try.ntmps47
      go_wp2
      go_ret
      exact ⟨rfl, rfl⟩

set_option maxRecDepth 100000 in
set_option maxHeartbeats 1000000 in
theorem cancel1_ok (g k n cap base : Nat) (l : List Tk) (t : Tk) (w : World)
    (hown : w.ownsRow base 43 10 (.slice (some ⟨g, 0, none⟩) n cap) n (l.flatMap Tk.vals)) (hk : l[k]? = some t) (hst : t.st ≠ 2) :
    Calls Try.prog 51 #[.pointer (some ⟨g, k * 10, none⟩)] w fun e w' => e = .returned (.int .i64 0) ∧
      w'.ownsRow base 43 10 (.slice (some ⟨g, 0, none⟩) n cap) n ((l.set k { t with st := 2, out := 6 }).flatMap Tk.vals) ∧ Fr w w' (fun i => i = g) := by
  obtain ⟨f0, f1, f2, f3, f4, f5, f6, f7, f8, f9⟩ := tkAt_of (own_cells Tk.vals_len hown hk)
  have hfz := fun j => hown.frozenAt j
  have hkl : k < l.length := (List.getElem?_eq_some_iff.1 hk).1
  have S0 := hide (own_start hown hk)
  have hs : (t.st == 2) = false := by simpa using hst
  clear hk hown hst
  go_enter Try.func51, Try.ntmps51
  go_wp2
  go_ret
  refine ⟨rfl, ?_, ?_⟩
  · have s1 := own_put Tk.vals_len (j := 5) (t1 := { t with st := 2 }) (u := .int .i64 2) S0.out hkl (by decide) rfl
    exact own_put Tk.vals_len (j := 9) (t1 := { t with st := 2, out := 6 }) (u := .int .i64 6) s1 hkl (by decide) rfl
  · (repeat' refine Fr.setCell ?_ (by simp) _)
    exact Fr.refl _ _

set_option maxHeartbeats 1000000 in
theorem cancel1_err (g k n cap base : Nat) (l : List Tk) (t : Tk) (w : World)
    (hown : w.ownsRow base 43 10 (.slice (some ⟨g, 0, none⟩) n cap) n (l.flatMap Tk.vals)) (hk : l[k]? = some t) (hst : t.st = 2) :
    Calls Try.prog 51 #[.pointer (some ⟨g, k * 10, none⟩)] w fun e w' => e = .returned (.int .i64 45) ∧ w = w' := by
  obtain ⟨f0, f1, f2, f3, f4, f5, f6, f7, f8, f9⟩ := tkAt_of (own_cells Tk.vals_len hown hk)
  have hs : (t.st == 2) = true := by simp [hst]
  clear hk hown hst
  go_enter Try.func51, Try.ntmps51
  go_wp2
  go_ret
  exact ⟨rfl, rfl⟩

set_option maxHeartbeats 800000 in
theorem failed_any (t : Tk) (o : Int) (w : World) :
    Calls Try.prog 58 #[.agg #[.string t.pk, .string t.ts, .int .i64 t.env, .int .i64 t.cost, .int .i64 t.rev, .int .i64 t.st, .int .i64 t.att, .int .i64 t.run, .int .i64 t.ep, .int .i64 t.out], .int .i64 o] w fun e w' => e = .returned (.agg #[.string (t.failed o).pk, .string (t.failed o).ts, .int .i64 (t.failed o).env, .int .i64 (t.failed o).cost, .int .i64 (t.failed o).rev, .int .i64 (t.failed o).st, .int .i64 (t.failed o).att, .int .i64 (t.failed o).run, .int .i64 (t.failed o).ep, .int .i64 (t.failed o).out]) ∧ Below w.heap.size w w' := by
  by_cases h4 : t.att = 4
  · have hb : (t.att == 4) = true := by simp [h4]
    have HF := hide (show t.failed o = { t with st := 2, out := o } by simp [Tk.failed, h4])
    clear h4
    rw [HF.out]
    go_enter Try.func58, Try.ntmps58
    go_wp2
    refine bodyPost_ret (by simp [results, Try.results58, go_sem]) rfl ⟨rfl, ?_⟩
    exact ((Below.refl _ _).alloc (Nat.le_refl _) _).alloc (by simp) _
  · have hb : (t.att == 4) = false := by simp [h4]
    have HF := hide (show t.failed o = { t with st := 0, run := 0, ep := 0 } by simp [Tk.failed, h4])
    clear h4
    rw [HF.out]
    go_enter Try.func58, Try.ntmps58
    go_wp2
    refine bodyPost_ret (by simp [results, Try.results58, go_sem]) rfl ⟨rfl, ?_⟩
    exact ((Below.refl _ _).alloc (Nat.le_refl _) _).alloc (by simp) _

end Go.Proofs.Ytjhkgoengoiljaa

/- Contracts: a ledger is right. -/
namespace Go.Proofs.Ytjhkgoengoiljaa
open Go.RowKit

theorem ix0 (a b c d e f : Int) (w : World) : (Instr.index 24 (.agg #[.int .i64 a, .int .i64 b, .int .i64 c, .int .i64 d, .int .i64 e, .int .i64 f]) (.int .i64 0)).run Try.prog w = .ok (.int .i64 a) w := by kernel_rfl
theorem ix1 (a b c d e f : Int) (w : World) : (Instr.index 24 (.agg #[.int .i64 a, .int .i64 b, .int .i64 c, .int .i64 d, .int .i64 e, .int .i64 f]) (.int .i64 1)).run Try.prog w = .ok (.int .i64 b) w := by kernel_rfl
theorem ix2 (a b c d e f : Int) (w : World) : (Instr.index 24 (.agg #[.int .i64 a, .int .i64 b, .int .i64 c, .int .i64 d, .int .i64 e, .int .i64 f]) (.int .i64 2)).run Try.prog w = .ok (.int .i64 c) w := by kernel_rfl
theorem ix3 (a b c d e f : Int) (w : World) : (Instr.index 24 (.agg #[.int .i64 a, .int .i64 b, .int .i64 c, .int .i64 d, .int .i64 e, .int .i64 f]) (.int .i64 3)).run Try.prog w = .ok (.int .i64 d) w := by kernel_rfl
theorem ix4 (a b c d e f : Int) (w : World) : (Instr.index 24 (.agg #[.int .i64 a, .int .i64 b, .int .i64 c, .int .i64 d, .int .i64 e, .int .i64 f]) (.int .i64 4)).run Try.prog w = .ok (.int .i64 e) w := by kernel_rfl
theorem ix5 (a b c d e f : Int) (w : World) : (Instr.index 24 (.agg #[.int .i64 a, .int .i64 b, .int .i64 c, .int .i64 d, .int .i64 e, .int .i64 f]) (.int .i64 5)).run Try.prog w = .ok (.int .i64 f) w := by kernel_rfl

/-- What the two loops' outcome is. -/
theorem ok_take {L : Ld} {k : Nat} {t : Tk} (hk : L.tks[k]? = some t) (h : tkOk t = false) : L.ok = false := by
  have hm : t ∈ L.tks := List.mem_of_getElem? hk
  have : L.tks.all tkOk = false := by
    cases ha : L.tks.all tkOk
    · rfl
    · rw [List.all_eq_true] at ha
      rw [ha t hm] at h
      cases h
  simp [Ld.ok, this]
theorem acc_take {l : List Tk} {k : Nat} {t : Tk} (hk : l[k]? = some t) : accOf (l.take (k + 1)) = accOf (l.take k) + if repB t.out then 1 else 0 := by
  induction l generalizing k with
  | nil => simp at hk
  | cons a l ih =>
    cases k with
    | zero => simp at hk; subst hk; simp [accOf]
    | succ k =>
      have := ih (k := k) (by simpa using hk)
      simp only [List.take_succ_cons, accOf, this]
      omega
theorem acc_le (l : List Tk) : accOf l ≤ l.length := by
  induction l with
  | nil => simp [accOf]
  | cons a l ih => simp only [accOf, List.length_cons]; split <;> omega
theorem all_take {l : List Tk} {k : Nat} {t : Tk} (hk : l[k]? = some t) (h : (l.take k).all tkOk = true) (ht : tkOk t = true) : (l.take (k + 1)).all tkOk = true := by
  rw [List.take_add_one, List.all_append, h, hk]
  simp [ht]

def CheckI (L : Ld) (n : Nat) (W wr : World) (acc i : Value) : Prop :=
  ∃ k : Nat, k ≤ n ∧ i = .int .i64 k ∧ acc = .int .i64 (accOf (L.tks.take k)) ∧ (L.tks.take k).all tkOk = true ∧ Below W.heap.size W wr

set_option maxRecDepth 100000 in
set_option maxHeartbeats 2000000 in
theorem check_any (A : Option Addr) (c n : Nat) (L : Ld) (w : World) (av : Option Nat) (hR : Rs w av 10 Tk.vals A L.tks) (hn : L.tks.length = n) (hc63 : n ≤ 4294967296) :
    Calls Try.prog 11 #[.agg #[.slice A n c, .int .i64 L.r0, .int .i64 L.r1, .int .i64 L.r2, .int .i64 L.r3, .int .i64 L.r4, .int .i64 L.r5]] w fun e w' => e = .returned (.bool L.ok) ∧ Below w.heap.size w w' := by
  have hN := hide hn; clear hn
  by_cases h128 : 128 < n
  · have HK := hide (show L.ok = false by simp [Ld.ok, hN.out]; omega)
    go_enter Try.func11, Try.ntmps11
    go_wp2
    go_ret
    exact ⟨ret_bool HK.out.symm, (Below.refl _ _).alloc (Nat.le_refl _) _⟩
  cases h0 : (L.r0 != 0)
  case true =>
    have HK := hide (show L.ok = false by have : (L.r0 == 0) = false := (by simpa using h0); simp [Ld.ok, Ld.repsOk, this])
    go_enter Try.func11, Try.ntmps11
    go_wp2
    go_ret
    exact ⟨ret_bool HK.out.symm, (Below.refl _ _).alloc (Nat.le_refl _) _⟩
  have j0 := ix0 L.r0 L.r1 L.r2 L.r3 L.r4 L.r5
  have j1 := ix1 L.r0 L.r1 L.r2 L.r3 L.r4 L.r5
  have j2 := ix2 L.r0 L.r1 L.r2 L.r3 L.r4 L.r5
  have j3 := ix3 L.r0 L.r1 L.r2 L.r3 L.r4 L.r5
  have j4 := ix4 L.r0 L.r1 L.r2 L.r3 L.r4 L.r5
  have j5 := ix5 L.r0 L.r1 L.r2 L.r3 L.r4 L.r5
  have z0 : L.r0 = 0 := by simpa using h0
  cases hreps : L.repsOk
  · have HK := hide (show L.ok = false by simp [Ld.ok, hreps])
    have HR := hide (show ¬ ((0 ≤ L.r1 ∧ L.r1 ≤ 1073741824) ∧ (0 ≤ L.r2 ∧ L.r2 ≤ 1073741824) ∧ (0 ≤ L.r3 ∧ L.r3 ≤ 1073741824) ∧ (0 ≤ L.r4 ∧ L.r4 ≤ 1073741824) ∧ (0 ≤ L.r5 ∧ L.r5 ≤ 1073741824)) by
      intro h
      simp [Ld.repsOk, cntB, z0] at hreps
      omega)
    have Z0 := hide z0
    have y0 : 0 ≤ L.r0 ∧ L.r0 ≤ 1073741824 := by omega
    obtain ⟨y0, y0'⟩ := y0
    clear hreps z0
    go_enter Try.func11, Try.ntmps11
    go_wp2
    refine wp_loop_rounds 7 ?_
    iterate 6 (all_goals (first | (rw [rounds_succ]; go_wp2) | skip))
    all_goals first
      | (go_ret; exact ⟨ret_bool HK.out.symm, (Below.refl _ _).alloc (Nat.le_refl _) _⟩)
      | (exfalso; have := HR.out; omega)
  · have hq : (0 ≤ L.r1 ∧ L.r1 ≤ 1073741824) ∧ (0 ≤ L.r2 ∧ L.r2 ≤ 1073741824) ∧ (0 ≤ L.r3 ∧ L.r3 ≤ 1073741824) ∧ (0 ≤ L.r4 ∧ L.r4 ≤ 1073741824) ∧ (0 ≤ L.r5 ∧ L.r5 ≤ 1073741824) := by
      simp [Ld.repsOk, cntB] at hreps
      omega
    obtain ⟨⟨y1, y1'⟩, ⟨y2, y2'⟩, ⟨y3, y3'⟩, ⟨y4, y4'⟩, y5, y5'⟩ := hq
    have y0 : 0 ≤ L.r0 ∧ L.r0 ≤ 1073741824 := by omega
    obtain ⟨y0, y0'⟩ := y0
    have HREP := hide hreps
    clear hreps z0
    go_enter Try.func11, Try.ntmps11
    go_wp2
    refine wp_loop_rounds 7 ?_
    iterate 7 (rw [rounds_succ]; go_wp2)
    clear j0 j1 j2 j3 j4 j5 y0 y1 y2 y3 y4 y5 y0' y1' y2' y3' y4' y5'
    go_loopw [5, 33] (fun acc i wr => CheckI L n (w.alloc (.cells #[.slice A n c, .int .i64 L.r0, .int .i64 L.r1, .int .i64 L.r2, .int .i64 L.r3, .int .i64 L.r4, .int .i64 L.r5] 26)) wr acc i) (fun _ i _ => n - (intOf i).toNat)
    case atStart => exact ⟨0, Nat.zero_le _, rfl, rfl, rfl, Below.refl _ _⟩
    case round =>
      obtain ⟨k, hk, rfl, rfl, hall, hbr⟩ := hrel
      have HALL := hide hall
      clear hall
      obtain ⟨hc0, hf0, hz0⟩ := gcell (grown_of_below hbr none) (w.heap.size + 1) (by simp)
      by_cases hlt : k < n
      · have hget : L.tks[k]? = some (L.tks[k]'(by rw [hN.out]; exact hlt)) := List.getElem?_eq_getElem _
        generalize L.tks[k]'(by rw [hN.out]; exact hlt) = t at hget
        obtain ⟨b, o, hA, hne, hb, hcells⟩ := hR.at hget
        subst hA
        have HG := hide hget
        clear hget
        obtain ⟨f0, f1, f2, f3, f4, f5, f6, f7, f8, f9⟩ := tkAt_of hcells
        clear hcells
        have hacc : accOf (L.tks.take k) ≤ k := Nat.le_trans (acc_le _) (List.length_take_le _ _)
        go_wp2_with (first | (go_at_call 32; refine (right_any t _).mono ?_; rintro e w1 ⟨rfl, hb1⟩; obtain ⟨hc1, hf1, hz1⟩ := gcell (grown_of_below hb1 none) (wr.heap.size + 1) (by simp)) | (go_at_call 33; refine (reported_any t.out _).mono ?_; rintro e w2 ⟨rfl, rfl⟩))
        · go_ret
          exact ⟨ret_bool (ok_take HG.out (by simpa using ‹(!tkOk t) = true›)).symm, ((((Below.refl _ _).alloc (Nat.le_refl _) _).trans (hbr.mono (by simp))).alloc (by omega) _).trans (hb1.mono (by simp; omega))⟩
        · have ht : tkOk t = true := by simpa using ‹(!tkOk t) = false›
          have hrep : repB t.out = true := by assumption
          have ha := acc_take HG.out
          refine ⟨⟨k + 1, by omega, by go_num, ?_, all_take HG.out HALL.out ht, ?_⟩, by simp [intOf]; omega⟩
          · rw [ha, hrep]; rfl
          · exact (hbr.alloc (by simp; omega) _).trans (hb1.mono (by simp; omega))
        · have ht : tkOk t = true := by simpa using ‹(!tkOk t) = false›
          have hrep : repB t.out = false := by assumption
          have ha := acc_take HG.out
          refine ⟨⟨k + 1, by omega, by go_num, ?_, all_take HG.out HALL.out ht, ?_⟩, by simp [intOf]; omega⟩
          · rw [ha, hrep]; rfl
          · exact (hbr.alloc (by simp; omega) _).trans (hb1.mono (by simp; omega))
      · have HL := hide (show L.ok = (L.r1 == accOf (L.tks.take k)) by
          have : k = L.tks.length := by have := hN.out; omega
          have hall := HALL.out
          rw [this, List.take_length] at *
          have hlen := hN.out
          simp [Ld.ok, HREP.out, hall]
          omega)
        go_wp2
        go_ret
        exact ⟨ret_bool HL.out.symm, ((Below.refl _ _).alloc (Nat.le_refl _) _).trans (hbr.mono (by simp))⟩

end Go.Proofs.Ytjhkgoengoiljaa

/- Contracts: change. -/
namespace Go.Proofs.Ytjhkgoengoiljaa
open Go.RowKit

theorem get?_some {L : Ld} {k : Int} {t : Tk} (h : L.get? k = some t) : ∃ i : Nat, k = i ∧ i < L.tks.length ∧ L.tks[i]? = some t := by
  unfold Ld.get? at h
  split at h
  · rename_i hk
    refine ⟨k.toNat, by omega, by omega, h⟩
  · cases h
theorem get?_none {L : Ld} {k : Int} (h : L.get? k = none) : (decide (0 ≤ k) && decide (k < L.tks.length)) = false := by
  unfold Ld.get? at h
  split at h
  · rename_i hk
    rw [List.getElem?_eq_none_iff] at h
    omega
  · simp; omega
theorem ok_len {L : Ld} (h : L.ok = true) : L.tks.length ≤ 128 := by
  simp [Ld.ok] at h
  omega


set_option maxRecDepth 100000 in
set_option maxHeartbeats 1000000 in
theorem change_bad (A : Option Addr) (c n : Nat) (L : Ld) (k : Int) (fv : Value) (w : World) (av : Option Nat) (hR : Rs w av 10 Tk.vals A L.tks) (hn : L.tks.length = n) (hc63 : n ≤ 4294967296) (hok : L.ok = false) :
    Calls Try.prog 42 #[.agg #[.slice A n c, .int .i64 L.r0, .int .i64 L.r1, .int .i64 L.r2, .int .i64 L.r3, .int .i64 L.r4, .int .i64 L.r5], .int .i64 k, fv] w fun e w' => e = .returned (.tuple #[.agg #[.slice none 0 0, .int .i64 0, .int .i64 0, .int .i64 0, .int .i64 0, .int .i64 0, .int .i64 0], .int .i64 1]) ∧ Below w.heap.size w w' := by
  have hN := hide hn; clear hn
  go_enter Try.func42, Try.ntmps42
  go_wp2_with (go_at_call 11; refine (check_any A c n L _ av ((hR.alloc _).alloc _) hN.out hc63).mono ?_; rintro e w1 ⟨rfl, hb1⟩; obtain ⟨hc1, hf1, hz1⟩ := gcell (grown_of_below hb1 none) (w.heap.size + 2) (by first | (simp; done) | (simp; omega)); have : w.heap.size < w1.heap.size := (by omega); have : w.heap.size + 1 < w1.heap.size := (by omega))
  refine bodyPost_ret (by simp [results, Try.results42, go_sem, hc1]) rfl ⟨rfl, ?_⟩
  (repeat' refine Below.setCell ?_ (by simp) _)
  exact (((Below.refl _ _).alloc (Nat.le_refl _) _).alloc (by simp) _).trans (hb1.mono (by simp; omega))

set_option maxRecDepth 100000 in
set_option maxHeartbeats 1000000 in
theorem change_none (A : Option Addr) (c n : Nat) (L : Ld) (k : Int) (fv : Value) (w : World) (av : Option Nat) (hR : Rs w av 10 Tk.vals A L.tks) (hn : L.tks.length = n) (hc63 : n ≤ 4294967296) (hok : L.ok = true) (hk : L.get? k = none) :
    Calls Try.prog 42 #[.agg #[.slice A n c, .int .i64 L.r0, .int .i64 L.r1, .int .i64 L.r2, .int .i64 L.r3, .int .i64 L.r4, .int .i64 L.r5], .int .i64 k, fv] w fun e w' => e = .returned (.tuple #[.agg #[.slice none 0 0, .int .i64 0, .int .i64 0, .int .i64 0, .int .i64 0, .int .i64 0, .int .i64 0], .int .i64 18]) ∧ Below w.heap.size w w' := by
  have hkk := hide (get?_none hk)
  have hN := hide hn; clear hn hk
  go_enter Try.func42, Try.ntmps42
  go_wp2_with (first | (go_at_call 11; refine (check_any A c n L _ av ((hR.alloc _).alloc _) hN.out hc63).mono ?_; rintro e w1 ⟨rfl, hb1⟩; obtain ⟨hc1, hf1, hz1⟩ := gcell (grown_of_below hb1 none) (w.heap.size + 2) (by first | (simp; done) | (simp; omega)); have : w.heap.size < w1.heap.size := (by omega); have : w.heap.size + 1 < w1.heap.size := (by omega)) | (go_at_call 62; refine (has_any A n c L k _).mono ?_; rintro e w2 ⟨rfl, hb2⟩; rw [← hN.out, hkk.out]; obtain ⟨hc2, hf2, hz2⟩ := gcell (grown_of_below hb2 none) (w.heap.size + 2) (by omega)))
  refine bodyPost_ret (by simp [results, Try.results42, go_sem, hc1, hc2]) rfl ⟨rfl, ?_⟩
  (repeat' refine Below.setCell ?_ (by simp) _)
  exact ((((Below.refl _ _).alloc (Nat.le_refl _) _).alloc (by simp) _).trans (hb1.mono (by simp; omega))).trans (hb2.mono (by omega))

end Go.Proofs.Ytjhkgoengoiljaa

/- Contracts: change with a closure. -/
namespace Go.Proofs.Ytjhkgoengoiljaa
open Go.RowKit


set_option maxRecDepth 100000 in
set_option maxHeartbeats 800000 in
theorem change_fail_ok (A : Option Addr) (c n : Nat) (L : Ld) (k : Int) (t : Tk) (b1 : Nat) (o : Int) (w : World) (av : Option Nat) (hR : Rs w av 10 Tk.vals A L.tks) (hn : L.tks.length = n) (hc63 : n ≤ 4294967296) (hok : L.ok = true) (hk : L.get? k = some t) (h1 : w.cell? ⟨b1, 0, none⟩ = some (.int .i64 o)) (hb : b1 < w.heap.size) (ho : o = 4 ∨ o = 5) (hst : t.st = 1) :
    Calls Try.prog 42 #[.agg #[.slice A n c, .int .i64 L.r0, .int .i64 L.r1, .int .i64 L.r2, .int .i64 L.r3, .int .i64 L.r4, .int .i64 L.r5], .int .i64 k, .func (.func 47) #[] #[.pointer (some ⟨b1, 0, none⟩)]] w fun e w' => ∃ g, e = .returned (.tuple #[.agg #[.slice (some ⟨g, 0, none⟩) n (n + 1), .int .i64 L.r0, .int .i64 L.r1, .int .i64 L.r2, .int .i64 L.r3, .int .i64 L.r4, .int .i64 L.r5], .int .i64 0]) ∧
      w'.ownsRow w.heap.size 43 10 (.slice (some ⟨g, 0, none⟩) n (n + 1)) n ((L.put k (t.failed o)).tks.flatMap Tk.vals) ∧ Fr w w' (fun j => False) := by
  obtain ⟨i, rfl, hil, hi⟩ := get?_some hk
  have h128 := ok_len hok
  rw [hn] at hil h128
  have hN := hide hn
  have HI := hide hi
  have hkk := hide (show (decide (0 ≤ (i : Int)) && decide ((i : Int) < (n : Int))) = true by simp; omega)
  clear hn hk hi
  have hb'b1 : b1 < w.heap.size + 2 := by omega
  have hmb1 : ¬ w.heap.size = b1 := by omega
  have hqb1 : ¬ w.heap.size + 1 = b1 := by omega
  go_enter Try.func42, Try.ntmps42
  go_wp2_with (first
    | (go_at_call 11; refine (check_any A c n L _ av ((hR.alloc _).alloc _) hN.out hc63).mono ?_; rintro e w1 ⟨rfl, hb1⟩; obtain ⟨hc1, hf1, hz1⟩ := gcell (grown_of_below hb1 none) (w.heap.size + 2) (by first | (simp; done) | (simp; omega)); have : w.heap.size < w1.heap.size := (by omega); have : w.heap.size + 1 < w1.heap.size := (by omega))
    | (go_at_call 62; refine (has_any A n c L i _).mono ?_; rintro e w2 ⟨rfl, hb2⟩; rw [hkk.out]; obtain ⟨hc2, hf2, hz2⟩ := gcell (grown_of_below hb2 none) (w.heap.size + 2) (by omega))
    | (go_at_call 41; refine (copied_any A c n L _ av ((((hR.alloc _).alloc _).below hb1).below hb2) hN.out (by omega)).mono ?_; rintro e w3 ⟨g, rfl, hown3, hb3⟩; obtain ⟨hc3, hf3, hz3⟩ := gcell (grown_of_below hb3 none) (w.heap.size + 2) (by omega); have hge : w2.heap.size ≤ g := (hown3.lt g rfl).1; have hlt : g < w3.heap.size := (hown3.lt g rfl).2; have hn0 : ¬ w.heap.size = g := (by omega); have hn1 : ¬ w.heap.size + 1 = g := (by omega); have HOWN := hide (show ∀ v1 v2 v3 v4 v5 v6 v7, World.ownsRow (((((((w3.setCell ⟨w.heap.size, 0, none⟩ v1).setCell ⟨w.heap.size, 1, none⟩ v2).setCell ⟨w.heap.size, 2, none⟩ v3).setCell ⟨w.heap.size, 3, none⟩ v4).setCell ⟨w.heap.size, 4, none⟩ v5).setCell ⟨w.heap.size, 5, none⟩ v6).setCell ⟨w.heap.size, 6, none⟩ v7) w2.heap.size 43 10 (.slice (some ⟨g, 0, none⟩) n (n + 1)) n (L.tks.flatMap Tk.vals) from fun v1 v2 v3 v4 v5 v6 v7 => by (repeat' refine own_far ?_ (by simp [Value.ownBlock]; omega) _); exact hown3); clear hown3; have HFR := hide (show ∀ v1 v2 v3 v4 v5 v6 v7 (S : Nat → Prop), Fr w (((((((w3.setCell ⟨w.heap.size, 0, none⟩ v1).setCell ⟨w.heap.size, 1, none⟩ v2).setCell ⟨w.heap.size, 2, none⟩ v3).setCell ⟨w.heap.size, 3, none⟩ v4).setCell ⟨w.heap.size, 4, none⟩ v5).setCell ⟨w.heap.size, 5, none⟩ v6).setCell ⟨w.heap.size, 6, none⟩ v7) S from fun v1 v2 v3 v4 v5 v6 v7 S => by (repeat' refine Fr.setCell ?_ (by simp) _); exact (((((Fr.refl _ _).alloc _).alloc _).below_ hb1).below_ hb2).below_ hb3))
    | (go_at_call 47; refine (fail1_ok g i n (n + 1) w2.heap.size b1 o L.tks t _ (HOWN.out _ _ _ _ _ _ _) HI.out (by go_simp) ho hst).mono ?_; rintro e w4 ⟨rfl, hown4, hfr4⟩; obtain ⟨hc4, hf4, hz4⟩ := fcell hfr4 (w.heap.size + 2) (by simp; omega)))
  refine bodyPost_ret (v := .tuple #[.agg #[.slice (some ⟨g, 0, none⟩) n (n + 1), .int .i64 L.r0, .int .i64 L.r1, .int .i64 L.r2, .int .i64 L.r3, .int .i64 L.r4, .int .i64 L.r5], .int .i64 0]) (by simp [results, Try.results42, go_sem, hc1, hc2, hc3, hc4, hn1]) rfl ⟨g, rfl, ?_, ?_⟩
  · (repeat' refine own_far ?_ (by simp [Value.ownBlock]; omega) _)
    exact own_base hown4 (by omega)
  · (repeat' refine Fr.setCell ?_ (by simp) _)
    exact (HFR.out _ _ _ _ _ _ _ _).step hfr4 (fun j hj hs => by have hs2 : j = g := hs; omega)

set_option maxRecDepth 100000 in
set_option maxHeartbeats 800000 in
theorem change_fail_err (A : Option Addr) (c n : Nat) (L : Ld) (k : Int) (t : Tk) (b1 : Nat) (o : Int) (w : World) (av : Option Nat) (hR : Rs w av 10 Tk.vals A L.tks) (hn : L.tks.length = n) (hc63 : n ≤ 4294967296) (hok : L.ok = true) (hk : L.get? k = some t) (er : Int) (her : (er != 0) = true) (h1 : w.cell? ⟨b1, 0, none⟩ = some (.int .i64 o)) (hb : b1 < w.heap.size) (hh : (o ≠ 4 ∧ o ≠ 5 ∧ er = 3) ∨ ((o = 4 ∨ o = 5) ∧ t.st ≠ 1 ∧ er = 45)) :
    Calls Try.prog 42 #[.agg #[.slice A n c, .int .i64 L.r0, .int .i64 L.r1, .int .i64 L.r2, .int .i64 L.r3, .int .i64 L.r4, .int .i64 L.r5], .int .i64 k, .func (.func 47) #[] #[.pointer (some ⟨b1, 0, none⟩)]] w fun e w' => e = .returned (.tuple #[.agg #[.slice none 0 0, .int .i64 0, .int .i64 0, .int .i64 0, .int .i64 0, .int .i64 0, .int .i64 0], .int .i64 er]) ∧ Below w.heap.size w w' := by
  obtain ⟨i, rfl, hil, hi⟩ := get?_some hk
  have h128 := ok_len hok
  rw [hn] at hil h128
  have hN := hide hn
  have HI := hide hi
  have hkk := hide (show (decide (0 ≤ (i : Int)) && decide ((i : Int) < (n : Int))) = true by simp; omega)
  clear hn hk hi
  have hb'b1 : b1 < w.heap.size + 2 := by omega
  have hmb1 : ¬ w.heap.size = b1 := by omega
  have hqb1 : ¬ w.heap.size + 1 = b1 := by omega
  go_enter Try.func42, Try.ntmps42
  go_wp2_with (first
    | (go_at_call 11; refine (check_any A c n L _ av ((hR.alloc _).alloc _) hN.out hc63).mono ?_; rintro e w1 ⟨rfl, hb1⟩; obtain ⟨hc1, hf1, hz1⟩ := gcell (grown_of_below hb1 none) (w.heap.size + 2) (by first | (simp; done) | (simp; omega)); have : w.heap.size < w1.heap.size := (by omega); have : w.heap.size + 1 < w1.heap.size := (by omega))
    | (go_at_call 62; refine (has_any A n c L i _).mono ?_; rintro e w2 ⟨rfl, hb2⟩; rw [hkk.out]; obtain ⟨hc2, hf2, hz2⟩ := gcell (grown_of_below hb2 none) (w.heap.size + 2) (by omega))
    | (go_at_call 41; refine (copied_any A c n L _ av ((((hR.alloc _).alloc _).below hb1).below hb2) hN.out (by omega)).mono ?_; rintro e w3 ⟨g, rfl, hown3, hb3⟩; obtain ⟨hc3, hf3, hz3⟩ := gcell (grown_of_below hb3 none) (w.heap.size + 2) (by omega); have hge : w2.heap.size ≤ g := (hown3.lt g rfl).1; have hlt : g < w3.heap.size := (hown3.lt g rfl).2; have hn0 : ¬ w.heap.size = g := (by omega); have hn1 : ¬ w.heap.size + 1 = g := (by omega); have HOWN := hide (show ∀ v1 v2 v3 v4 v5 v6 v7, World.ownsRow (((((((w3.setCell ⟨w.heap.size, 0, none⟩ v1).setCell ⟨w.heap.size, 1, none⟩ v2).setCell ⟨w.heap.size, 2, none⟩ v3).setCell ⟨w.heap.size, 3, none⟩ v4).setCell ⟨w.heap.size, 4, none⟩ v5).setCell ⟨w.heap.size, 5, none⟩ v6).setCell ⟨w.heap.size, 6, none⟩ v7) w2.heap.size 43 10 (.slice (some ⟨g, 0, none⟩) n (n + 1)) n (L.tks.flatMap Tk.vals) from fun v1 v2 v3 v4 v5 v6 v7 => by (repeat' refine own_far ?_ (by simp [Value.ownBlock]; omega) _); exact hown3); clear hown3; have HFR := hide (show ∀ v1 v2 v3 v4 v5 v6 v7 (S : Nat → Prop), Fr w (((((((w3.setCell ⟨w.heap.size, 0, none⟩ v1).setCell ⟨w.heap.size, 1, none⟩ v2).setCell ⟨w.heap.size, 2, none⟩ v3).setCell ⟨w.heap.size, 3, none⟩ v4).setCell ⟨w.heap.size, 4, none⟩ v5).setCell ⟨w.heap.size, 5, none⟩ v6).setCell ⟨w.heap.size, 6, none⟩ v7) S from fun v1 v2 v3 v4 v5 v6 v7 S => by (repeat' refine Fr.setCell ?_ (by simp) _); exact (((((Fr.refl _ _).alloc _).alloc _).below_ hb1).below_ hb2).below_ hb3))
    | (go_at_call 47; refine (fail1_err g i n (n + 1) w2.heap.size b1 o L.tks t _ er (HOWN.out _ _ _ _ _ _ _) HI.out (by go_simp) hh).mono ?_; rintro e w4 ⟨rfl, rfl⟩))
  refine bodyPost_ret (by simp [results, Try.results42, go_sem, hc1, hc2, hc3]) rfl ⟨rfl, ?_⟩
  (repeat' refine Below.setCell ?_ (by simp) _)
  exact (((((((Fr.refl _ _).alloc _).alloc _).below_ hb1).below_ hb2).below_ hb3 : Fr w w3 _)).below (S := fun _ => False) (Nat.le_refl _) (fun _ _ h => h)

end Go.Proofs.Ytjhkgoengoiljaa
