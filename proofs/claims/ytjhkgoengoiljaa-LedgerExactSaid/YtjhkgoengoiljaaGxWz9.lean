/- The walk of the law that the planned tickets are the waiting, the running and the done ones. -/
import Derived.Test.YtjhkgoengoiljaaG23
import Derived.Test.YtjhkgoengoiljaaG22
import Derived.Test.YtjhkgoengoiljaaG25
import Derived.Test.YtjhkgoengoiljaaG24
import Derived.Test.YtjhkgoengoiljaaG7
set_option linter.unusedVariables false
set_option linter.unusedSimpArgs false

/- The walk of the law that the planned tickets are the waiting, the running and the done ones. -/
namespace Go.Proofs.Ytjhkgoengoiljaa
open Go.RowKit

/-- The ten cells of totals at block b. -/
def T10 (w : World) (b : Nat) (n : Nat) (l : List Tk) : Prop := b < w.heap.size ∧ (w.cell? ⟨b, 0, none⟩ = some (.int .i64 n) ∧ w.cell? ⟨b, 1, none⟩ = some (.int .i64 (cnt 0 (l) : Nat)) ∧ w.cell? ⟨b, 2, none⟩ = some (.int .i64 (cnt 1 (l) : Nat)) ∧ w.cell? ⟨b, 3, none⟩ = some (.int .i64 (cnt 2 (l) : Nat)) ∧ w.cell? ⟨b, 4, none⟩ = some (.int .i64 (cnt 3 (l) : Nat)) ∧ w.cell? ⟨b, 5, none⟩ = some (.int .i64 (cnt 4 (l) : Nat)) ∧ w.cell? ⟨b, 6, none⟩ = some (.int .i64 (cnt 5 (l) : Nat)) ∧ w.cell? ⟨b, 7, none⟩ = some (.int .i64 (cnt 6 (l) : Nat)) ∧ w.cell? ⟨b, 8, none⟩ = some (.int .i64 (cnt 7 (l) : Nat)) ∧ w.cell? ⟨b, 9, none⟩ = some (.int .i64 (cnt 8 (l) : Nat)))
theorem T10.fr {w w' : World} {b n : Nat} {l : List Tk} {S : Nat → Prop} (h : T10 w b n l) (hf : Fr w w' S) (hS : ¬ S b) : T10 w' b n l := by
  obtain ⟨h0, h1, h2, h3, h4, h5, h6, h7, h8, h9, h10⟩ := h
  have hk := hf.block b h0 hS
  have tr : ∀ {o : Nat} {u : Value}, w.cell? ⟨b, o, none⟩ = some u → w'.cell? ⟨b, o, none⟩ = some u := fun hu => (World.cell?_of_block (w := w) hk).trans hu
  exact ⟨Nat.lt_of_lt_of_le h0 hf.size, tr h1, tr h2, tr h3, tr h4, tr h5, tr h6, tr h7, tr h8, tr h9, tr h10⟩

theorem put_two {w : World} {H : Nat} {x y : V7} (u v : V7) (h1 : B7 w (H + 1) x) (h2 : B7 w (H + 2) y) :
    (B7 (put7 (put7 w (H + 1) u.v0 u.v1 u.v2 u.v3 u.v4 u.v5 u.v6) (H + 2) v.v0 v.v1 v.v2 v.v3 v.v4 v.v5 v.v6) (H + 1) u ∧ B7 (put7 (put7 w (H + 1) u.v0 u.v1 u.v2 u.v3 u.v4 u.v5 u.v6) (H + 2) v.v0 v.v1 v.v2 v.v3 v.v4 v.v5 v.v6) (H + 2) v) ∧
    Fr w (put7 (put7 w (H + 1) u.v0 u.v1 u.v2 u.v3 u.v4 u.v5 u.v6) (H + 2) v.v0 v.v1 v.v2 v.v3 v.v4 v.v5 v.v6) (fun i => i = H + 1 ∨ i = H + 2) :=
  ⟨⟨(h1.put u).fr fr_put7 (by omega), (h2.fr fr_put7 (by omega)).put v⟩, (fr_put7.mono (fun _ _ h => Or.inl h)).step fr_put7 (fun _ _ h => Or.inr h)⟩

/-- Every ticket is waiting, running or done with an outcome. -/
theorem tot_all : ∀ l : List Tk, (∀ t ∈ l, tkOk t = true) → cnt 0 l + cnt 1 l + (cnt 2 l + cnt 3 l + cnt 4 l + cnt 5 l + cnt 6 l + cnt 7 l + cnt 8 l) = l.length ∧ cnt 2 l = 0 ∧ ∀ k, (idxs notDone l k).length = cnt 0 l + cnt 1 l
  | [], _ => ⟨rfl, rfl, fun _ => rfl⟩
  | t :: l, h => by
    obtain ⟨h1, h2, h3⟩ := tot_all l (fun t ht => h t (List.mem_cons_of_mem _ ht))
    simp only [cnt] at h1 h2 h3 ⊢
    rcases tk_cases (h t List.mem_cons_self) with hs | hs | ⟨hs, ho⟩
    · refine ⟨?_, ?_, fun k => ?_⟩
      · simp [countOf, stIs, doneIs, hs] at h1 h2 h3 ⊢; omega
      · simp [countOf, stIs, doneIs, hs] at h1 h2 h3 ⊢; omega
      · have := h3 (k + 1)
        simp [countOf, idxs, notDone, stIs, doneIs, hs] at h1 h2 h3 this ⊢; omega
    · refine ⟨?_, ?_, fun k => ?_⟩
      · simp [countOf, stIs, doneIs, hs] at h1 h2 h3 ⊢; omega
      · simp [countOf, stIs, doneIs, hs] at h1 h2 h3 ⊢; omega
      · have := h3 (k + 1)
        simp [countOf, idxs, notDone, stIs, doneIs, hs] at h1 h2 h3 this ⊢; omega
    · refine ⟨?_, ?_, fun k => ?_⟩
      · rcases ho with ho | ho | ho | ho | ho | ho <;> simp [countOf, stIs, doneIs, hs, ho] at h1 h2 h3 ⊢ <;> omega
      · rcases ho with ho | ho | ho | ho | ho | ho <;> simp [countOf, stIs, doneIs, hs, ho] at h1 h2 h3 ⊢ <;> omega
      · have := h3 (k + 1)
        simp [countOf, idxs, notDone, stIs, doneIs, hs] at h1 h2 h3 this ⊢; omega

/-- The reports of the first k kinds. -/
def psum (L : Ld) : Nat → Int
  | 0 => 0
  | k + 1 => psum L k + L.rep k
theorem psum_six (L : Ld) : psum L 6 = L.sum := by
  simp only [psum, Ld.rep, Ld.sum]
  simp
theorem rep_range {L : Ld} (h : L.ok = true) (k : Nat) (hk : k < 6) : 0 ≤ L.rep k ∧ L.rep k ≤ 1073741824 := by
  have := (reps_iff L).1 ((ok_iff L).1 h).2.1
  match k, hk with
  | 0, _ | 1, _ | 2, _ | 3, _ | 4, _ | 5, _ => simp only [Ld.rep]; simp; omega
theorem psum_range {L : Ld} (h : L.ok = true) : ∀ k, k ≤ 6 → 0 ≤ psum L k ∧ psum L k ≤ 1073741824 * k
  | 0, _ => ⟨Int.le_refl _, by simp [psum]⟩
  | k + 1, hk => by
    have h1 := psum_range h k (by omega)
    have h2 := rep_range h k (by omega)
    simp only [psum]
    omega
/-- The done ones of the first k outcomes. -/
def dsum (l : List Tk) : Nat → Nat
  | 0 => 0
  | k + 1 => dsum l k + cnt (k + 2) l
theorem dsum_le (l : List Tk) : ∀ k, dsum l k ≤ l.length * k
  | 0 => Nat.le_refl _
  | k + 1 => by
    have := dsum_le l k
    have := cnt_le (k + 2) l
    simp only [dsum, Nat.mul_add]
    omega

theorem t10_cnt {w : World} {b n : Nat} {l : List Tk} (h : T10 w b n l) (k : Nat) (hk : k < 7) : w.cell? ⟨b, 3 + k, none⟩ = some (.int .i64 (cnt (k + 2) l : Nat)) := by
  obtain ⟨-, -, -, -, h3, h4, h5, h6, h7, h8, h9⟩ := h
  match k, hk with
  | 0, _ => exact h3
  | 1, _ => exact h4
  | 2, _ => exact h5
  | 3, _ => exact h6
  | 4, _ => exact h7
  | 5, _ => exact h8
  | 6, _ => exact h9
theorem b7_rep {w : World} {b : Nat} {A : Option Addr} {n c : Nat} {L : Ld} (h : B7 w b (LDV A n c L)) (k : Nat) (hk : k < 6) : w.cell? ⟨b, 1 + k, none⟩ = some (.int .i64 (L.rep k)) := by
  obtain ⟨-, ⟨-, h1, h2, h3, h4, h5, h6⟩, -⟩ := h
  match k, hk with
  | 0, _ => exact h1
  | 1, _ => exact h2
  | 2, _ => exact h3
  | 3, _ => exact h4
  | 4, _ => exact h5
  | 5, _ => exact h6

/-- What the last statement of a round reads. -/
def CS (W : World) (H1 H2 : Nat) (B : Option Addr) (n d : Nat) (X : Ld) : Prop := (H1 < W.heap.size ∧ H2 < W.heap.size) ∧ (W.cell? ⟨H1, 0, none⟩ = some (.slice B n d) ∧ W.cell? ⟨H1, 1, none⟩ = some (.int .i64 X.r0) ∧ W.cell? ⟨H1, 2, none⟩ = some (.int .i64 X.r1) ∧ W.cell? ⟨H1, 3, none⟩ = some (.int .i64 X.r2) ∧ W.cell? ⟨H1, 4, none⟩ = some (.int .i64 X.r3) ∧ W.cell? ⟨H1, 5, none⟩ = some (.int .i64 X.r4) ∧ W.cell? ⟨H1, 6, none⟩ = some (.int .i64 X.r5)) ∧ (W.cell? ⟨H2, 0, none⟩ = some (.int .i64 n) ∧ W.cell? ⟨H2, 1, none⟩ = some (.int .i64 (cnt 0 (X.tks) : Nat)) ∧ W.cell? ⟨H2, 2, none⟩ = some (.int .i64 (cnt 1 (X.tks) : Nat)) ∧ W.cell? ⟨H2, 3, none⟩ = some (.int .i64 (cnt 2 (X.tks) : Nat)) ∧ W.cell? ⟨H2, 4, none⟩ = some (.int .i64 (cnt 3 (X.tks) : Nat)) ∧ W.cell? ⟨H2, 5, none⟩ = some (.int .i64 (cnt 4 (X.tks) : Nat)) ∧ W.cell? ⟨H2, 6, none⟩ = some (.int .i64 (cnt 5 (X.tks) : Nat)) ∧ W.cell? ⟨H2, 7, none⟩ = some (.int .i64 (cnt 6 (X.tks) : Nat)) ∧ W.cell? ⟨H2, 8, none⟩ = some (.int .i64 (cnt 7 (X.tks) : Nat)) ∧ W.cell? ⟨H2, 9, none⟩ = some (.int .i64 (cnt 8 (X.tks) : Nat)))
theorem CS.below {W W' : World} {H1 H2 : Nat} {B : Option Addr} {n d : Nat} {X : Ld} (h : CS W H1 H2 B n d X) (hb : Below W.heap.size W W') : CS W' H1 H2 B n d X := by
  obtain ⟨⟨a1, a2⟩, ⟨l0, l1, l2, l3, l4, l5, l6⟩, q⟩ := h
  have k1 := hb.block H1 a1
  have tr : ∀ {o : Nat} {u : Value}, W.cell? ⟨H1, o, none⟩ = some u → W'.cell? ⟨H1, o, none⟩ = some u := fun hu => (World.cell?_of_block (w := W) k1).trans hu
  have hf := Fr.of_below (fun _ => False) hb
  exact ⟨⟨Nat.lt_of_lt_of_le a1 hb.size, Nat.lt_of_lt_of_le a2 hb.size⟩, ⟨tr l0, tr l1, tr l2, tr l3, tr l4, tr l5, tr l6⟩, (T10.fr ⟨a2, q⟩ hf (fun h => h)).2⟩

set_option maxRecDepth 100000 in
set_option maxHeartbeats 8000000 in
theorem exact_walk (w : World) (A : Option Addr) (n c : Nat) (l : List Int) (hA : Rs w none 1 iv A l) (hl : l.length = n) :
    Calls Try.prog 9 #[.slice A n c] w fun e w' => e = .returned (.bool true) ∧ Below w.heap.size w w' := by
  have HT0 := hide (tape_new (w := w) (c := c) hA hl 31)
  have HOA := hide (show l ≠ [] → ∀ b o, A = some ⟨b, o, none⟩ → b < w.heap.size from old_of hA (Nat.le_refl _))
  clear hA hl
  go_enter Try.func9, Try.ntmps9
  go_upto_region 4 with (fail)
  generalize hW : World.alloc (World.alloc (World.alloc w _) _) _ = v0
  have HT1 := hide (show TapeAt v0 w.heap.size A n c l 0 from by rw [← hW]; exact (HT0.out.alloc _).alloc _)
  have HP := hide (show B7 v0 (w.heap.size + 1) (LDV none 0 0 Ld.nil) ∧ B7 v0 (w.heap.size + 2) (LDV none 0 0 Ld.nil) from by
    rw [← hW]
    clear hW
    simp only [B7, LDV, Ld.nil]
    refine ⟨?_, ?_⟩ <;> refine ⟨by first | (simp; done) | (simp; omega), ⟨?_, ?_, ?_, ?_, ?_, ?_, ?_⟩, ?_, ?_⟩ <;> first | (intro j; go_simp; done) | (go_simp; done))
  have HF := hide (show Fr w v0 (fun _ => False) from by rw [← hW]; exact (((Fr.refl w _).alloc _).alloc _).alloc _)
  clear hW
  go_wp2_with fail
  refine (next_any _ w.heap.size A n c l 0 70 HT1.out (by omega) (by omega)).mono ?_
  rintro e w1 ⟨rfl, ht1, hf1⟩
  have HT2 := hide ht1
  have HF1 := hide (HF.out.step hf1 (fun i hi h => by omega))
  have HP1 := hide (And.intro (HP.out.1.fr hf1 (by omega)) (HP.out.2.fr hf1 (by omega)))
  have hv := tapeV_lo l 0 70
  obtain ⟨v, hvv⟩ : ∃ v : Nat, tapeV l 0 70 = v := ⟨(tapeV l 0 70).toNat, by omega⟩
  rw [hvv] at hv ⊢
  have hv70 : v ≤ 70 := by omega
  clear ht1 hf1 hv hvv
  go_wp2_with fail
  go_loopw [6, 7] (fun sm x wr => ∃ (s : Int) (i j : Nat) (X : Ld) (B1 B2 : Option Addr) (d1 d2 m a' : Nat), 0 ≤ s ∧ sm = .int .i64 s ∧ i + j = v ∧ x = .int .i64 i ∧ Hid (Reach j X) ∧ Hid (X.tks.length = m) ∧ Hid (B7 wr (w.heap.size + 1) (LDV B1 m d1 X) ∧ B7 wr (w.heap.size + 2) (LDV B2 m d2 X)) ∧ Hid (Rs wr (some w.heap.size) 10 Tk.vals B1 X.tks) ∧ Hid (Rs wr (some w.heap.size) 10 Tk.vals B2 X.tks) ∧ Hid (TapeAt wr w.heap.size A n c l a') ∧ Hid (Fr w wr (fun _ => False)) ∧ a' ≤ 1 + 12 * j) (fun _ x _ => (intOf x).toNat)
  case atStart => exact ⟨0, v, 0, Ld.nil, none, none, 0, 0, 0, 1, by omega, rfl, by omega, rfl, hide .zero, hide rfl, HP1, hide Rs.nil, hide Rs.nil, HT2, HF1, by omega⟩
  case round =>
    obtain ⟨s, i, j, X, B1, B2, d1, d2, m, a', hs, rfl, hij, rfl, HR, HM, HS, HB1, HB2, HT, HF, ha'⟩ := hrel
    by_cases hi : i = 0
    · subst hi
      have hs' : decide (0 ≤ s) = true := by simpa using hs
      go_wp2_with fail
      refine (known_any _).mono ?_
      rintro e w3 ⟨rfl, hb3⟩
      go_wp2_with fail
      refine bodyPost_ret (v := .bool true) (by simp [results, Try.results9, go_sem, *]) rfl ⟨rfl, ?_⟩
      exact (HF.out.below_ hb3).below (Nat.le_refl _) (fun _ _ h => h)
    · obtain ⟨wo, hwo⟩ : ∃ wo, wo = wr := ⟨wr, rfl⟩
      subst hwo
      have hgt : decide ((0 : Int) < (i : Int)) = true := by simp; omega
      have h128 : m ≤ 128 := by have h1 := ((ok_iff X).1 HR.out.ok).1; have h2 := HM.out; omega
      have gw : w.heap.size + 3 ≤ wo.heap.size := by have := HS.out.2.1; omega
      obtain ⟨⟨l1, p, gp, -⟩, ⟨l2, q, gq, -⟩⟩ := HS.out
      simp only [LDV] at p q
      obtain ⟨p0, p1, p2, p3, p4, p5, p6⟩ := p
      go_upto_region 8 with (fail)
      generalize hW : World.alloc wo _ = v1
      have HB := hide (show B7 v1 wo.heap.size (LDV B1 m d1 X) from by
        rw [← hW]
        clear hW
        simp only [B7, LDV]
        refine ⟨by first | (simp; done) | (simp; omega), ⟨?_, ?_, ?_, ?_, ?_, ?_, ?_⟩, ?_, ?_⟩ <;> first | (intro j; go_simp; done) | (go_simp; done))
      have hf1 : Fr wo v1 (fun _ => False) := by rw [← hW]; exact (Fr.refl _ _).alloc _
      clear hW p0 p1 p2 p3 p4 p5 p6 gp gq q l1 l2
      have HSv := hide (And.intro (HS.out.1.fr hf1 (fun h => h)) (HS.out.2.fr hf1 (fun h => h)))
      have HBv1 := hide (HB1.out.fr hf1 (fun _ _ _ _ _ h => h))
      have HBv2 := hide (HB2.out.fr hf1 (fun _ _ _ _ _ h => h))
      have HTv := hide (HT.out.fr hf1 (fun h => h) (fun _ _ _ _ h => h))
      have HFv := hide (HF.out.step hf1 (fun _ _ h => h.elim))
      clear hf1
      obtain ⟨⟨l1, p, gp, -⟩, ⟨l2, q, gq, -⟩⟩ := HSv.out
      simp only [LDV] at p q
      obtain ⟨p0, p1, p2, p3, p4, p5, p6⟩ := p
      obtain ⟨q0, q1, q2, q3, q4, q5, q6⟩ := q
      go_wp2_with fail
      refine (step_any _ w.heap.size A n c l a' HTv.out (by omega) B1 B2 m d1 d2 X h128 HBv1.out HBv2.out HM.out).mono ?_
      rintro e w2 ⟨X2, C1, C2, e1, e2, a2, rfl, hst, hr1, hr2, ht2, hle, hf2⟩
      have HS2 := hide (And.intro (HSv.out.1.fr hf2 (by omega)) (HSv.out.2.fr hf2 (by omega)))
      have HBb := hide (HB.out.fr hf2 (by omega))
      have HF2 := hide (HFv.out.step hf2 (fun i hi h => by omega))
      have HT3 := hide ht2
      have HC1 := hide hr1
      have HC2 := hide hr2
      have HST := hide hst
      have HOK := hide (step_ok HR.out.ok hst)
      have HMO := hide (step_mono HR.out.ok hst)
      obtain ⟨n2, HN2⟩ : ∃ n2, Hid (X2.tks.length = n2) := ⟨_, hide rfl⟩
      rw [HN2.out]
      have h128b : n2 ≤ 128 := by have h1 := ((ok_iff X2).1 (step_ok HR.out.ok hst)).1; have h2 := HN2.out; omega
      have gw2 : wo.heap.size + 1 ≤ w2.heap.size := by have := HBb.out.1; omega
      clear hst hr1 hr2 ht2 hf2 p0 p1 p2 p3 p4 p5 p6 q0 q1 q2 q3 q4 q5 q6 gp gq l1 l2
      go_upto_region 9 with (fail)
      generalize hW : World.alloc (World.alloc w2 _) _ = v3
      have HS7 := hide (show B7 v3 w2.heap.size (LDV C1 n2 e1 X2) ∧ B7 v3 (w2.heap.size + 1) (LDV C2 n2 e2 X2) from by
        rw [← hW]
        clear hW
        simp only [B7, LDV]
        refine ⟨?_, ?_⟩ <;> refine ⟨by first | (simp; done) | (simp; omega), ⟨?_, ?_, ?_, ?_, ?_, ?_, ?_⟩, ?_, ?_⟩ <;> first | (intro j; go_simp; done) | (go_simp; done))
      have hf3 : Fr w2 v3 (fun _ => False) := by rw [← hW]; exact ((Fr.refl _ _).alloc _).alloc _
      clear hW
      have HS3 := hide (And.intro (HS2.out.1.fr hf3 (fun h => h)) (HS2.out.2.fr hf3 (fun h => h)))
      have HBc := hide (HBb.out.fr hf3 (fun h => h))
      have HD1 := hide (HC1.out.fr hf3 (fun _ _ _ _ _ h => h))
      have HD2 := hide (HC2.out.fr hf3 (fun _ _ _ _ _ h => h))
      have HT4 := hide (HT3.out.fr hf3 (fun h => h) (fun _ _ _ _ h => h))
      have HF3 := hide (HF2.out.step hf3 (fun _ _ h => h.elim))
      clear hf3
      obtain ⟨⟨l1, p, gp, -⟩, ⟨l2, q, gq, -⟩⟩ := HS3.out
      obtain ⟨⟨l3, r, gr, -⟩, ⟨l4, t, gt, -⟩⟩ := HS7.out
      simp only [LDV] at p q r t
      obtain ⟨p0, p1, p2, p3, p4, p5, p6⟩ := p
      obtain ⟨q0, q1, q2, q3, q4, q5, q6⟩ := q
      obtain ⟨r0, r1, r2, r3, r4, r5, r6⟩ := r
      obtain ⟨t0, t1, t2, t3, t4, t5, t6⟩ := t
      go_upto_region 11 with (fail)
      have y1 : ¬ w2.heap.size = w.heap.size + 1 := by omega
      have y2 : ¬ w.heap.size + 1 = w2.heap.size := by omega
      have y3 : ¬ w2.heap.size = w.heap.size + 2 := by omega
      have y4 : ¬ w.heap.size + 2 = w2.heap.size := by omega
      have y5 : ¬ w2.heap.size = w.heap.size + 1 + 1 := by omega
      have y6 : ¬ w.heap.size + 1 + 1 = w2.heap.size := by omega
      have y7 : ¬ w2.heap.size = w.heap.size := by omega
      have y8 : ¬ w.heap.size = w2.heap.size := by omega
      have y9 : ¬ w2.heap.size + 1 = w.heap.size + 1 := by omega
      have y10 : ¬ w.heap.size + 1 = w2.heap.size + 1 := by omega
      have y11 : ¬ w2.heap.size + 1 = w.heap.size + 2 := by omega
      have y12 : ¬ w.heap.size + 2 = w2.heap.size + 1 := by omega
      have y13 : ¬ w2.heap.size + 1 = w.heap.size + 1 + 1 := by omega
      have y14 : ¬ w.heap.size + 1 + 1 = w2.heap.size + 1 := by omega
      have y15 : ¬ w2.heap.size + 1 = w.heap.size := by omega
      have y16 : ¬ w.heap.size = w2.heap.size + 1 := by omega
      go_region_held3 (fun W => (W.cell? ⟨w2.heap.size, 0, none⟩ = some (.slice C1 n2 e1) ∧ W.cell? ⟨w2.heap.size, 1, none⟩ = some (.int .i64 X2.r0) ∧ W.cell? ⟨w2.heap.size, 2, none⟩ = some (.int .i64 X2.r1) ∧ W.cell? ⟨w2.heap.size, 3, none⟩ = some (.int .i64 X2.r2) ∧ W.cell? ⟨w2.heap.size, 4, none⟩ = some (.int .i64 X2.r3) ∧ W.cell? ⟨w2.heap.size, 5, none⟩ = some (.int .i64 X2.r4) ∧ W.cell? ⟨w2.heap.size, 6, none⟩ = some (.int .i64 X2.r5)) ∧ (W.cell? ⟨w2.heap.size + 1, 0, none⟩ = some (.slice C2 n2 e2) ∧ W.cell? ⟨w2.heap.size + 1, 1, none⟩ = some (.int .i64 X2.r0) ∧ W.cell? ⟨w2.heap.size + 1, 2, none⟩ = some (.int .i64 X2.r1) ∧ W.cell? ⟨w2.heap.size + 1, 3, none⟩ = some (.int .i64 X2.r2) ∧ W.cell? ⟨w2.heap.size + 1, 4, none⟩ = some (.int .i64 X2.r3) ∧ W.cell? ⟨w2.heap.size + 1, 5, none⟩ = some (.int .i64 X2.r4) ∧ W.cell? ⟨w2.heap.size + 1, 6, none⟩ = some (.int .i64 X2.r5))) (first | (go_keep; done) | ((try dsimp only); (repeat' apply And.intro) <;> first | (go_keep; done) | ((repeat rw [World.cell?_setCell_other _ _ _ _ (by intro h; injection h; omega)]); go_keep; done))) (fail)
      generalize hW : World.setCell (World.setCell (World.setCell (World.setCell (World.setCell (World.setCell (World.setCell (World.setCell (World.setCell (World.setCell (World.setCell (World.setCell (World.setCell (World.setCell v3 _ _) _ _) _ _) _ _) _ _) _ _) _ _) _ _) _ _) _ _) _ _) _ _) _ _) _ _ = w5
      obtain ⟨hs5, hf5⟩ : (B7 w5 (w.heap.size + 1) (LDV C1 n2 e1 X2) ∧ B7 w5 (w.heap.size + 2) (LDV C2 n2 e2 X2)) ∧ Fr v3 w5 (fun i => i = w.heap.size + 1 ∨ i = w.heap.size + 2) := by
        rw [← hW]
        have hh := put_two (LDV C1 n2 e1 X2) (LDV C2 n2 e2 X2) HS3.out.1 HS3.out.2
        simp only [put7, LDV, Nat.add_assoc, Nat.reduceAdd] at hh ⊢
        exact hh
      have HS5 := hide hs5
      have HB5 := hide (HBc.out.fr hf5 (by omega))
      have HG5 := hide (HD1.out.fr hf5 (by intro hl b o hA _ hs; have h2 := rs_not_b7 HD1.out tk_str HS3.out.1 (ldv_no _ _ _ _) hl b o hA; have h3 := rs_not_b7 HD1.out tk_str HS3.out.2 (ldv_no _ _ _ _) hl b o hA; omega))
      have HG6 := hide (HD2.out.fr hf5 (by intro hl b o hA _ hs; have h2 := rs_not_b7 HD2.out tk_str HS3.out.1 (ldv_no _ _ _ _) hl b o hA; have h3 := rs_not_b7 HD2.out tk_str HS3.out.2 (ldv_no _ _ _ _) hl b o hA; omega))
      have HT6 := hide (HT4.out.fr hf5 (by omega) (fun b o hA hl h => by have := HOA.out hl b o hA; omega))
      have HF6 := hide (HF3.out.step hf5 (fun i hi h => by omega))
      clear hW hs5 hf5 p0 p1 p2 p3 p4 p5 p6 q0 q1 q2 q3 q4 q5 q6 r0 r1 r2 r3 r4 r5 r6 t0 t1 t2 t3 t4 t5 t6 gp gq gr gt l1 l2 l3 l4 y1 y2 y3 y4 y5 y6 y7 y8 y9 y10 y11 y12 y13 y14 y15 y16
      go_wp2_with fail
      try clear hHeld
      go_loopw [12, 13, 14] (fun al ws x wr => ∃ (k : Nat), k ≤ 6 ∧ al = .int .i64 (psum X2 k) ∧ ws = .int .i64 (psum X k) ∧ x = .int .i64 k ∧ Hid (Fr w5 wr (fun _ => False))) (fun _ _ x _ => 6 - (intOf x).toNat)
      case atStart => exact ⟨0, by omega, rfl, rfl, rfl, hide (Fr.refl _ _).drew⟩
      case round =>
        obtain ⟨k, hk, rfl, rfl, rfl, HG⟩ := hrel
        by_cases hk6 : k < 6
        · have c1 := b7_rep (HS5.out.1.fr HG.out (fun h => h)) k hk6
          have c2 := b7_rep (HB5.out.fr HG.out (fun h => h)) k hk6
          have r1 := psum_range HOK.out k hk
          have r2 := psum_range HR.out.ok k hk
          have r3 := rep_range HOK.out k hk6
          have r4 := rep_range HR.out.ok k hk6
          have w1' : IntKind.i64.wrap (psum X2 k + X2.rep k) = psum X2 k + X2.rep k := IntWalk.i64_in _ (by omega)
          have w2' : IntKind.i64.wrap (psum X k + X.rep k) = psum X k + X.rep k := IntWalk.i64_in _ (by omega)
          have hi1 : (0 : Int) ≤ (k : Int) := by omega
          have hi2 : (k : Int) < 6 := by omega
          clear r1 r2 r3 r4
          go_wp2_with fail
          go_region_held3 (fun W => W.cell? ⟨w.heap.size + 1, 1 + k, none⟩ = some (.int .i64 (X2.rep k)) ∧ W.cell? ⟨wo.heap.size, 1 + k, none⟩ = some (.int .i64 (X.rep k))) (first | (go_keep; done) | ((try dsimp only); (repeat' apply And.intro) <;> first | (go_keep; done) | ((repeat rw [World.cell?_setCell_other _ _ _ _ (by intro h; injection h; omega)]); go_keep; done))) (fail)
          go_wp2_with fail
          go_roundw
          case rel => exact ⟨k + 1, by omega, rfl, rfl, by go_num, hide HG.out.drew⟩
          case measure => simp [intOf]; omega
        · have hk6' : k = 6 := by omega
          subst hk6'
          rw [psum_six, psum_six]
          have m1 := HMO.out.2.2.1
          have m2 := HMO.out.2.2.2
          have r2 := psum_range HR.out.ok 6 (by omega)
          have r3 := psum_range HOK.out 6 (by omega)
          rw [psum_six] at r2 r3
          obtain ⟨s1, hs1⟩ : ∃ s1, X.sum = s1 := ⟨_, rfl⟩
          obtain ⟨s2, hs2⟩ : ∃ s2, X2.sum = s2 := ⟨_, rfl⟩
          rw [hs1] at r2 m1 m2 ⊢
          rw [hs2] at r3 m1 m2 ⊢
          have hw1 : IntKind.i64.wrap (s1 + 1) = s1 + 1 := IntWalk.i64_in _ (by omega)
          have hd1 : decide (s2 < s1) = false := by simp; omega
          have hd2 : decide (s1 + 1 < s2) = false := by simp; omega
          have hs2' : 0 ≤ s2 := by omega
          clear m1 m2 r2 r3 hs1 hs2
          have HS6 := hide (And.intro (HS5.out.1.fr HG.out (fun h => h)) (HS5.out.2.fr HG.out (fun h => h)))
          have HG7 := hide (HG5.out.fr HG.out (fun _ _ _ _ _ h => h))
          have HG8 := hide (HG6.out.fr HG.out (fun _ _ _ _ _ h => h))
          have HT7 := hide (HT6.out.fr HG.out (fun h => h) (fun _ _ _ _ h => h))
          have HF7 := hide (HF6.out.step HG.out (fun _ _ h => h.elim))
          obtain ⟨⟨l1, p, gp, -⟩, -⟩ := HS6.out
          simp only [LDV] at p
          obtain ⟨p0, p1, p2, p3, p4, p5, p6⟩ := p
          go_wp2_with fail
          refine (totals_ok wr (some w.heap.size) C1 e1 n2 X2 HG7.out HN2.out (by omega) HOK.out).mono ?_
          rintro e w6 ⟨rfl, hb6⟩
          have hf6 := Fr.of_below (fun _ => False) hb6
          have HS7' := hide (And.intro (HS6.out.1.fr hf6 (fun h => h)) (HS6.out.2.fr hf6 (fun h => h)))
          have HH1 := hide (HG7.out.below hb6)
          have HH2 := hide (HG8.out.below hb6)
          have HT8 := hide (HT7.out.below hb6)
          have HF8 := hide (HF7.out.below_ hb6)
          clear hb6 hf6 p0 p1 p2 p3 p4 p5 p6 gp l1 hw1 hd1 hd2
          go_upto_region 21 with (fail)
          generalize hW : World.alloc w6 _ = v6
          have HQ := hide (show T10 v6 w6.heap.size n2 X2.tks from by
            rw [← hW]
            clear hW
            unfold T10
            refine ⟨by simp, ?_, ?_, ?_, ?_, ?_, ?_, ?_, ?_, ?_, ?_⟩ <;> (go_simp; done))
          have hf1 : Fr w6 v6 (fun _ => False) := by rw [← hW]; exact (Fr.refl _ _).alloc _
          have HS8 := hide (And.intro (HS7'.out.1.fr hf1 (fun h => h)) (HS7'.out.2.fr hf1 (fun h => h)))
          have HI1 := hide (HH1.out.fr hf1 (fun _ _ _ _ _ h => h))
          have HI2 := hide (HH2.out.fr hf1 (fun _ _ _ _ _ h => h))
          have HT9 := hide (HT8.out.fr hf1 (fun h => h) (fun _ _ _ _ h => h))
          have HF9 := hide (HF8.out.step hf1 (fun _ _ h => h.elim))
          clear hW hf1
          go_wp2_with fail
          go_loopw [17, 18] (fun dn x wr => ∃ (k : Nat), k ≤ 7 ∧ dn = .int .i64 (dsum X2.tks k : Nat) ∧ x = .int .i64 k ∧ Hid (Fr v6 wr (fun _ => False))) (fun _ x _ => 7 - (intOf x).toNat)
          case atStart => exact ⟨0, by omega, rfl, rfl, hide (Fr.refl _ _)⟩
          case round =>
            obtain ⟨k, hk, rfl, rfl, HK⟩ := hrel
            by_cases hk7 : k < 7
            · have c1 := t10_cnt (HQ.out.fr HK.out (fun h => h)) k hk7
              have gq := (HQ.out.fr HK.out (fun h => h)).1
              have d1 := dsum_le X2.tks k
              rw [HN2.out] at d1
              have d2 := cnt_le (k + 2) X2.tks
              rw [HN2.out] at d2
              have d3 : n2 * k ≤ 128 * 7 := Nat.mul_le_mul h128b (by omega)
              have hi1 : (0 : Int) ≤ (k : Int) := by omega
              have hi2 : (k : Int) < 7 := by omega
              have HDD := hide (show dsum X2.tks (k + 1) = dsum X2.tks k + cnt (k + 2) X2.tks from rfl)
              obtain ⟨ck, hck⟩ : ∃ ck, cnt (k + 2) X2.tks = ck := ⟨_, rfl⟩
              obtain ⟨dk, hdk⟩ : ∃ dk, dsum X2.tks k = dk := ⟨_, rfl⟩
              rw [hck] at d2 c1
              rw [hdk] at d1 ⊢
              have HDE := hide (show dsum X2.tks (k + 1) = dk + ck from by rw [HDD.out, hdk, hck])
              have hw1 : IntKind.i64.wrap ((dk : Int) + ck) = (dk : Int) + ck := IntWalk.i64_in _ (by omega)
              clear hck hdk d1 d2 d3 HDD
              go_wp2_with fail
              go_roundw
              case rel => exact ⟨k + 1, by omega, by rw [HDE.out]; go_num, by go_num, HK⟩
              case measure => simp [intOf]; omega
            · have hk7' : k = 7 := by omega
              subst hk7'
              obtain ⟨t1, t2, t3⟩ := tot_all X2.tks ((ok_iff X2).1 HOK.out).2.2.1
              have t3' := t3 0
              rw [HN2.out] at t1
              have hD : dsum X2.tks 7 = cnt 2 X2.tks + cnt 3 X2.tks + cnt 4 X2.tks + cnt 5 X2.tks + cnt 6 X2.tks + cnt 7 X2.tks + cnt 8 X2.tks := by simp [dsum]
              have hw1 : IntKind.i64.wrap ((cnt 0 X2.tks : Int) + (cnt 1 X2.tks : Int)) = (cnt 0 X2.tks : Int) + (cnt 1 X2.tks : Int) := IntWalk.i64_in _ (by omega)
              have hw2 : IntKind.i64.wrap ((cnt 0 X2.tks : Int) + (cnt 1 X2.tks : Int) + (dsum X2.tks 7 : Int)) = (cnt 0 X2.tks : Int) + (cnt 1 X2.tks : Int) + (dsum X2.tks 7 : Int) := IntWalk.i64_in _ (by omega)
              have hq1 : ((n2 : Int) != (cnt 0 X2.tks : Int) + (cnt 1 X2.tks : Int) + (dsum X2.tks 7 : Int)) = false := by simp; omega
              have hq2 : ((cnt 2 X2.tks : Int) != 0) = false := by simp; omega
              have hq3 : (((idxs notDone X2.tks 0).length : Int) != (cnt 0 X2.tks : Int) + (cnt 1 X2.tks : Int)) = false := by simp; omega
              clear t1 t2 t3 t3' hD
              have cs0 : CS wr (w.heap.size + 1) w6.heap.size C1 n2 e1 X2 := ⟨⟨(HS8.out.1.fr HK.out (fun h => h)).1, (HQ.out.fr HK.out (fun h => h)).1⟩, (HS8.out.1.fr HK.out (fun h => h)).2.1, (HQ.out.fr HK.out (fun h => h)).2⟩
              have cs0d : CS wr.drew (w.heap.size + 1) w6.heap.size C1 n2 e1 X2 := cs0
              have HJ1 := hide (HI1.out.fr HK.out (fun _ _ _ _ _ h => h))
              have HJ2 := hide (HI2.out.fr HK.out (fun _ _ _ _ _ h => h))
              have HT10 := hide (HT9.out.fr HK.out (fun h => h) (fun _ _ _ _ h => h))
              have HF10 := hide (HF9.out.step HK.out (fun _ _ h => h.elim))
              have HS10 := hide (And.intro (HS8.out.1.fr HK.out (fun h => h)) (HS8.out.2.fr HK.out (fun h => h)))
              have gT3 : w.heap.size < wr.heap.size := HT10.out.1
              go_upto_region 26 with (fail)
              go_region_held3 (fun W => (W.cell? ⟨w.heap.size + 1, 0, none⟩ = some (.slice C1 n2 e1) ∧ W.cell? ⟨w.heap.size + 1, 1, none⟩ = some (.int .i64 X2.r0) ∧ W.cell? ⟨w.heap.size + 1, 2, none⟩ = some (.int .i64 X2.r1) ∧ W.cell? ⟨w.heap.size + 1, 3, none⟩ = some (.int .i64 X2.r2) ∧ W.cell? ⟨w.heap.size + 1, 4, none⟩ = some (.int .i64 X2.r3) ∧ W.cell? ⟨w.heap.size + 1, 5, none⟩ = some (.int .i64 X2.r4) ∧ W.cell? ⟨w.heap.size + 1, 6, none⟩ = some (.int .i64 X2.r5)) ∧ (W.cell? ⟨w6.heap.size, 0, none⟩ = some (.int .i64 n2) ∧ W.cell? ⟨w6.heap.size, 1, none⟩ = some (.int .i64 (cnt 0 (X2.tks) : Nat)) ∧ W.cell? ⟨w6.heap.size, 2, none⟩ = some (.int .i64 (cnt 1 (X2.tks) : Nat)) ∧ W.cell? ⟨w6.heap.size, 3, none⟩ = some (.int .i64 (cnt 2 (X2.tks) : Nat)) ∧ W.cell? ⟨w6.heap.size, 4, none⟩ = some (.int .i64 (cnt 3 (X2.tks) : Nat)) ∧ W.cell? ⟨w6.heap.size, 5, none⟩ = some (.int .i64 (cnt 4 (X2.tks) : Nat)) ∧ W.cell? ⟨w6.heap.size, 6, none⟩ = some (.int .i64 (cnt 5 (X2.tks) : Nat)) ∧ W.cell? ⟨w6.heap.size, 7, none⟩ = some (.int .i64 (cnt 6 (X2.tks) : Nat)) ∧ W.cell? ⟨w6.heap.size, 8, none⟩ = some (.int .i64 (cnt 7 (X2.tks) : Nat)) ∧ W.cell? ⟨w6.heap.size, 9, none⟩ = some (.int .i64 (cnt 8 (X2.tks) : Nat)))) (first | exact cs0.2 | exact cs0d.2 | exact csO.2) ((go_at_call 25; refine (open_ok _ (some w.heap.size) C1 e1 n2 X2 (by first | exact HJ1.out | exact HJ1.out.drew) HN2.out (by omega) HOK.out (by intro x hx; injection hx with hx; rw [← hx]; exact gT3)).mono ?_; rintro e wo2 ⟨⟨Ao, co, rfl, HO⟩, hbO⟩; have csO := CS.below (by first | exact cs0 | exact cs0d) hbO))
              have hfO : Fr wr wo2 (fun _ => False) := (Fr.refl wr _).drew.below_ hbO
              go_wp2_with fail
              go_roundw
              case rel => exact ⟨s2, i - 1, j + 1, X2, C1, C2, e1, e2, n2, a2, hs2', rfl, by omega, by congr 1; omega, hide (.step HR.out HST.out), HN2, hide ⟨HS10.out.1.fr hfO (fun h => h), HS10.out.2.fr hfO (fun h => h)⟩, hide (HJ1.out.fr hfO (fun _ _ _ _ _ h => h)), hide (HJ2.out.fr hfO (fun _ _ _ _ _ h => h)), hide (HT10.out.fr hfO (fun h => h) (fun _ _ _ _ h => h)), hide (HF10.out.step hfO (fun _ _ h => h.elim)), by omega⟩
              case measure => simp [intOf]; omega

end Go.Proofs.Ytjhkgoengoiljaa
