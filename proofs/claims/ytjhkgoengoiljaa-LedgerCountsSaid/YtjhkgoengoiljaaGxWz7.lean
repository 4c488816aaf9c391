/- The walk of the law on totals and open tickets. -/
import Derived.Test.YtjhkgoengoiljaaProg
import Derived.Test.YtjhkgoengoiljaaG1
import Derived.Test.YtjhkgoengoiljaaG23
import Derived.Test.YtjhkgoengoiljaaG22
import Derived.Test.YtjhkgoengoiljaaG3
import Derived.Test.YtjhkgoengoiljaaG7
import Derived.Test.YtjhkgoengoiljaaG24
import Derived.Test.YtjhkgoengoiljaaG25
set_option linter.unusedVariables false
set_option linter.unusedSimpArgs false

/- Two equal totals are the same. -/
namespace Go.Proofs.Ytjhkgoengoiljaa
open Go.RowKit

theorem eq7 (w : World) (a0 a1 a2 a3 a4 a5 a6 : Int) :
    (Op.equalIn 9999 63 (.agg #[.int .i64 a0, .int .i64 a1, .int .i64 a2, .int .i64 a3, .int .i64 a4, .int .i64 a5, .int .i64 a6]) (.agg #[.int .i64 a0, .int .i64 a1, .int .i64 a2, .int .i64 a3, .int .i64 a4, .int .i64 a5, .int .i64 a6])).run Try.prog w = .ok true w := by
  have u3 := Try.underlying3
  have a3 := Try.isAgg3
  have z3 := Try.sizeOf3
  rw [show (9999 : Nat) = 9998 + 1 from rfl, Op.equalIn]
  simp only [Sem.run_bind, run_underlying Try.underlying63, Result.andThen_ok]
  simp only [Std.Legacy.Range.forIn_eq_forIn_range', Std.Legacy.Range.size, Nat.sub_zero, Nat.add_sub_cancel, Nat.div_one, List.range'_succ, List.range'_zero, List.forIn_cons, List.forIn_nil]
  go_simp

theorem eq10 (w : World) (p q r a0 a1 a2 a3 a4 a5 a6 : Int) :
    (Op.equalIn 10000 65 (.agg #[.int .i64 p, .int .i64 q, .int .i64 r, .int .i64 a0, .int .i64 a1, .int .i64 a2, .int .i64 a3, .int .i64 a4, .int .i64 a5, .int .i64 a6]) (.agg #[.int .i64 p, .int .i64 q, .int .i64 r, .int .i64 a0, .int .i64 a1, .int .i64 a2, .int .i64 a3, .int .i64 a4, .int .i64 a5, .int .i64 a6])).run Try.prog w = .ok true w := by
  have k7 := fun w => eq7 w a0 a1 a2 a3 a4 a5 a6
  have u3 := Try.underlying3
  have a3 := Try.isAgg3
  have z3 := Try.sizeOf3
  rw [show (10000 : Nat) = 9999 + 1 from rfl, Op.equalIn]
  simp only [Sem.run_bind, run_underlying Try.underlying65, Result.andThen_ok]
  go_simp

end Go.Proofs.Ytjhkgoengoiljaa

/- The walk of the law on totals and open tickets. -/
namespace Go.Proofs.Ytjhkgoengoiljaa
open Go.RowKit

/-- The ten cells of totals at block b. -/
def T10 (w : World) (b : Nat) (n : Nat) (l : List Tk) : Prop := b < w.heap.size ∧ (w.cell? ⟨b, 0, none⟩ = some (.int .i64 n) ∧ w.cell? ⟨b, 1, none⟩ = some (.int .i64 (cnt 0 (l) : Nat)) ∧ w.cell? ⟨b, 2, none⟩ = some (.int .i64 (cnt 1 (l) : Nat)) ∧ w.cell? ⟨b, 3, none⟩ = some (.int .i64 (cnt 2 (l) : Nat)) ∧ w.cell? ⟨b, 4, none⟩ = some (.int .i64 (cnt 3 (l) : Nat)) ∧ w.cell? ⟨b, 5, none⟩ = some (.int .i64 (cnt 4 (l) : Nat)) ∧ w.cell? ⟨b, 6, none⟩ = some (.int .i64 (cnt 5 (l) : Nat)) ∧ w.cell? ⟨b, 7, none⟩ = some (.int .i64 (cnt 6 (l) : Nat)) ∧ w.cell? ⟨b, 8, none⟩ = some (.int .i64 (cnt 7 (l) : Nat)) ∧ w.cell? ⟨b, 9, none⟩ = some (.int .i64 (cnt 8 (l) : Nat)))
theorem T10.fr {w w' : World} {b n : Nat} {l : List Tk} {S : Nat → Prop} (h : T10 w b n l) (hf : Fr w w' S) (hS : ¬ S b) : T10 w' b n l := by
  obtain ⟨h0, h1, h2, h3, h4, h5, h6, h7, h8, h9, h10⟩ := h
  have hk := hf.block b h0 hS
  have tr : ∀ {o : Nat} {u : Value}, w.cell? ⟨b, o, none⟩ = some u → w'.cell? ⟨b, o, none⟩ = some u := fun hu => (World.cell?_of_block (w := w) hk).trans hu
  exact ⟨Nat.lt_of_lt_of_le h0 hf.size, tr h1, tr h2, tr h3, tr h4, tr h5, tr h6, tr h7, tr h8, tr h9, tr h10⟩

/-- What the last statement reads. -/
def CS (W : World) (H1 H2 H3 : Nat) (B : Option Addr) (n d : Nat) (X : Ld) : Prop := (H1 < W.heap.size ∧ H2 < W.heap.size ∧ H3 < W.heap.size) ∧ (W.cell? ⟨H1, 0, none⟩ = some (.slice B n d) ∧ W.cell? ⟨H1, 1, none⟩ = some (.int .i64 X.r0) ∧ W.cell? ⟨H1, 2, none⟩ = some (.int .i64 X.r1) ∧ W.cell? ⟨H1, 3, none⟩ = some (.int .i64 X.r2) ∧ W.cell? ⟨H1, 4, none⟩ = some (.int .i64 X.r3) ∧ W.cell? ⟨H1, 5, none⟩ = some (.int .i64 X.r4) ∧ W.cell? ⟨H1, 6, none⟩ = some (.int .i64 X.r5)) ∧ (W.cell? ⟨H2, 0, none⟩ = some (.int .i64 n) ∧ W.cell? ⟨H2, 1, none⟩ = some (.int .i64 (cnt 0 (X.tks) : Nat)) ∧ W.cell? ⟨H2, 2, none⟩ = some (.int .i64 (cnt 1 (X.tks) : Nat)) ∧ W.cell? ⟨H2, 3, none⟩ = some (.int .i64 (cnt 2 (X.tks) : Nat)) ∧ W.cell? ⟨H2, 4, none⟩ = some (.int .i64 (cnt 3 (X.tks) : Nat)) ∧ W.cell? ⟨H2, 5, none⟩ = some (.int .i64 (cnt 4 (X.tks) : Nat)) ∧ W.cell? ⟨H2, 6, none⟩ = some (.int .i64 (cnt 5 (X.tks) : Nat)) ∧ W.cell? ⟨H2, 7, none⟩ = some (.int .i64 (cnt 6 (X.tks) : Nat)) ∧ W.cell? ⟨H2, 8, none⟩ = some (.int .i64 (cnt 7 (X.tks) : Nat)) ∧ W.cell? ⟨H2, 9, none⟩ = some (.int .i64 (cnt 8 (X.tks) : Nat))) ∧ (W.cell? ⟨H3, 0, none⟩ = some (.int .i64 n) ∧ W.cell? ⟨H3, 1, none⟩ = some (.int .i64 (cnt 0 (X.tks) : Nat)) ∧ W.cell? ⟨H3, 2, none⟩ = some (.int .i64 (cnt 1 (X.tks) : Nat)) ∧ W.cell? ⟨H3, 3, none⟩ = some (.int .i64 (cnt 2 (X.tks) : Nat)) ∧ W.cell? ⟨H3, 4, none⟩ = some (.int .i64 (cnt 3 (X.tks) : Nat)) ∧ W.cell? ⟨H3, 5, none⟩ = some (.int .i64 (cnt 4 (X.tks) : Nat)) ∧ W.cell? ⟨H3, 6, none⟩ = some (.int .i64 (cnt 5 (X.tks) : Nat)) ∧ W.cell? ⟨H3, 7, none⟩ = some (.int .i64 (cnt 6 (X.tks) : Nat)) ∧ W.cell? ⟨H3, 8, none⟩ = some (.int .i64 (cnt 7 (X.tks) : Nat)) ∧ W.cell? ⟨H3, 9, none⟩ = some (.int .i64 (cnt 8 (X.tks) : Nat)))
theorem CS.below {W W' : World} {H1 H2 H3 : Nat} {B : Option Addr} {n d : Nat} {X : Ld} (h : CS W H1 H2 H3 B n d X) (hb : Below W.heap.size W W') : CS W' H1 H2 H3 B n d X := by
  obtain ⟨⟨a1, a2, a3⟩, ⟨l0, l1, l2, l3, l4, l5, l6⟩, q, r⟩ := h
  have k1 := hb.block H1 a1
  have tr : ∀ {o : Nat} {u : Value}, W.cell? ⟨H1, o, none⟩ = some u → W'.cell? ⟨H1, o, none⟩ = some u := fun hu => (World.cell?_of_block (w := W) k1).trans hu
  have hf := Fr.of_below (fun _ => False) hb
  exact ⟨⟨Nat.lt_of_lt_of_le a1 hb.size, Nat.lt_of_lt_of_le a2 hb.size, Nat.lt_of_lt_of_le a3 hb.size⟩, ⟨tr l0, tr l1, tr l2, tr l3, tr l4, tr l5, tr l6⟩, (T10.fr ⟨a2, q⟩ hf (fun h => h)).2, (T10.fr ⟨a3, r⟩ hf (fun h => h)).2⟩

set_option maxRecDepth 100000 in
set_option maxHeartbeats 4000000 in
theorem counts_walk (w : World) (A : Option Addr) (n c : Nat) (l : List Int) (hA : Rs w none 1 iv A l) (hl : l.length = n) :
    Calls Try.prog 7 #[.slice A n c] w fun e w' => e = .returned (.bool true) ∧ Below w.heap.size w w' := by
  have HT := hide (tape_new (w := w) (c := c) hA hl 31)
  clear hA hl
  go_enter Try.func7, Try.ntmps7
  go_wp2_with fail
  refine (lived_any _ w.heap.size A n c l 0 70 HT.out (by omega) (by omega)).mono ?_
  rintro e w1 ⟨j, X, B, d, a', rfl, hr, hj, hR, ht, -, hf⟩
  have HF1 := hide (((Fr.refl w (fun i => i = w.heap.size)).alloc _).trans hf)
  have HR := hide hR
  have HOK := hide hr.ok
  have hn : X.tks.length ≤ 128 := ((ok_iff X).1 hr.ok).1
  have gT : w.heap.size < w1.heap.size := ht.1
  clear hr hR ht hf
  obtain ⟨n, HN⟩ : ∃ n, Hid (X.tks.length = n) := ⟨_, rfl⟩
  rw [HN.out] at hn ⊢
  go_upto_region 2 with (fail)
  generalize hW : World.alloc w1 _ = v1
  have HS1 := hide (show B7 v1 w1.heap.size (LDV B n d X) from by
    rw [← hW]
    clear hW
    simp only [B7, LDV]
    refine ⟨by simp, ⟨?_, ?_, ?_, ?_, ?_, ?_, ?_⟩, ?_, ?_⟩ <;> first | (intro j; go_simp; done) | (go_simp; done))
  have hf1 : Fr w1 v1 (fun _ => False) := by rw [← hW]; exact (Fr.refl _ _).alloc _
  have HR1 := hide (HR.out.fr hf1 (fun _ _ _ _ _ h => h))
  have HFv1 := hide (HF1.out.step hf1 (fun _ _ h => h.elim))
  clear hW hf1
  obtain ⟨gl, p, gp, -⟩ := HS1.out
  simp only [LDV] at p
  obtain ⟨p0, p1, p2, p3, p4, p5, p6⟩ := p
  go_wp2_with fail
  refine (totals_ok v1 (some w.heap.size) B d n X HR1.out HN.out (by omega) HOK.out).mono ?_
  rintro e w2 ⟨rfl, hb2⟩
  have HS2 := hide (HS1.out.fr (Fr.of_below (fun _ => False) hb2) (fun h => h))
  have HR2 := hide (HR1.out.below hb2)
  have HF2 := hide (HFv1.out.below_ hb2)
  have g2 := hb2.size
  clear hb2 p0 p1 p2 p3 p4 p5 p6 gp gl
  obtain ⟨gl, p, gp, -⟩ := HS2.out
  simp only [LDV] at p
  obtain ⟨p0, p1, p2, p3, p4, p5, p6⟩ := p
  go_upto_region 3 with (fail)
  generalize hW : World.alloc w2 _ = v2
  have HQ := hide (show T10 v2 w2.heap.size n X.tks from by
    rw [← hW]
    clear hW
    unfold T10
    refine ⟨by simp, ?_, ?_, ?_, ?_, ?_, ?_, ?_, ?_, ?_, ?_⟩ <;> (go_simp; done))
  have hf1 : Fr w2 v2 (fun _ => False) := by rw [← hW]; exact (Fr.refl _ _).alloc _
  have HSv2 := hide (HS2.out.fr hf1 (fun h => h))
  have HRv2 := hide (HR2.out.fr hf1 (fun _ _ _ _ _ h => h))
  have HFv2 := hide (HF2.out.step hf1 (fun _ _ h => h.elim))
  clear hW hf1 p0 p1 p2 p3 p4 p5 p6 gp gl
  obtain ⟨gl, p, gp, -⟩ := HSv2.out
  simp only [LDV] at p
  obtain ⟨p0, p1, p2, p3, p4, p5, p6⟩ := p
  go_wp2_with fail
  refine (rtotals_ok v2 (some w.heap.size) B d n X HRv2.out HN.out (by omega) HOK.out).mono ?_
  rintro e w3 ⟨rfl, hb3⟩
  have HS3 := hide (HSv2.out.fr (Fr.of_below (fun _ => False) hb3) (fun h => h))
  have HQ3 := hide (HQ.out.fr (Fr.of_below (fun _ => False) hb3) (fun h => h))
  have HR3 := hide (HRv2.out.below hb3)
  have HF3 := hide (HFv2.out.below_ hb3)
  clear hb3 p0 p1 p2 p3 p4 p5 p6 gp gl
  obtain ⟨gl, p, gp, -⟩ := HS3.out
  simp only [LDV] at p
  obtain ⟨p0, p1, p2, p3, p4, p5, p6⟩ := p
  go_upto_region 4 with (fail)
  generalize hW : World.alloc w3 _ = v3
  have hq := show T10 v3 w3.heap.size n X.tks from by
    rw [← hW]
    clear hW
    unfold T10
    refine ⟨by simp, ?_, ?_, ?_, ?_, ?_, ?_, ?_, ?_, ?_, ?_⟩ <;> (go_simp; done)
  have hf1 : Fr w3 v3 (fun _ => False) := by rw [← hW]; exact (Fr.refl _ _).alloc _
  have hs := HS3.out.fr hf1 (fun h => h)
  have ht := HQ3.out.fr hf1 (fun h => h)
  have HRv3 := hide (HR3.out.fr hf1 (fun _ _ _ _ _ h => h))
  have HFv3 := hide (HF3.out.step hf1 (fun _ _ h => h.elim))
  clear hW hf1 p0 p1 p2 p3 p4 p5 p6 gp gl
  have gT3 : w.heap.size < v3.heap.size := by have := hs.1; omega
  have cs0 : CS v3 w1.heap.size w2.heap.size w3.heap.size B n d X := ⟨⟨hs.1, ht.1, hq.1⟩, hs.2.1, ht.2, hq.2⟩
  clear hs hq ht
  have cs0d : CS v3.drew w1.heap.size w2.heap.size w3.heap.size B n d X := cs0
  have k10 := fun w => eq10 w n (cnt 0 X.tks : Nat) (cnt 1 X.tks : Nat) (cnt 2 X.tks : Nat) (cnt 3 X.tks : Nat) (cnt 4 X.tks : Nat) (cnt 5 X.tks : Nat) (cnt 6 X.tks : Nat) (cnt 7 X.tks : Nat) (cnt 8 X.tks : Nat)
  go_region_held3 (fun W => (W.cell? ⟨w1.heap.size, 0, none⟩ = some (.slice B n d) ∧ W.cell? ⟨w1.heap.size, 1, none⟩ = some (.int .i64 X.r0) ∧ W.cell? ⟨w1.heap.size, 2, none⟩ = some (.int .i64 X.r1) ∧ W.cell? ⟨w1.heap.size, 3, none⟩ = some (.int .i64 X.r2) ∧ W.cell? ⟨w1.heap.size, 4, none⟩ = some (.int .i64 X.r3) ∧ W.cell? ⟨w1.heap.size, 5, none⟩ = some (.int .i64 X.r4) ∧ W.cell? ⟨w1.heap.size, 6, none⟩ = some (.int .i64 X.r5)) ∧ (W.cell? ⟨w2.heap.size, 0, none⟩ = some (.int .i64 n) ∧ W.cell? ⟨w2.heap.size, 1, none⟩ = some (.int .i64 (cnt 0 (X.tks) : Nat)) ∧ W.cell? ⟨w2.heap.size, 2, none⟩ = some (.int .i64 (cnt 1 (X.tks) : Nat)) ∧ W.cell? ⟨w2.heap.size, 3, none⟩ = some (.int .i64 (cnt 2 (X.tks) : Nat)) ∧ W.cell? ⟨w2.heap.size, 4, none⟩ = some (.int .i64 (cnt 3 (X.tks) : Nat)) ∧ W.cell? ⟨w2.heap.size, 5, none⟩ = some (.int .i64 (cnt 4 (X.tks) : Nat)) ∧ W.cell? ⟨w2.heap.size, 6, none⟩ = some (.int .i64 (cnt 5 (X.tks) : Nat)) ∧ W.cell? ⟨w2.heap.size, 7, none⟩ = some (.int .i64 (cnt 6 (X.tks) : Nat)) ∧ W.cell? ⟨w2.heap.size, 8, none⟩ = some (.int .i64 (cnt 7 (X.tks) : Nat)) ∧ W.cell? ⟨w2.heap.size, 9, none⟩ = some (.int .i64 (cnt 8 (X.tks) : Nat))) ∧ (W.cell? ⟨w3.heap.size, 0, none⟩ = some (.int .i64 n) ∧ W.cell? ⟨w3.heap.size, 1, none⟩ = some (.int .i64 (cnt 0 (X.tks) : Nat)) ∧ W.cell? ⟨w3.heap.size, 2, none⟩ = some (.int .i64 (cnt 1 (X.tks) : Nat)) ∧ W.cell? ⟨w3.heap.size, 3, none⟩ = some (.int .i64 (cnt 2 (X.tks) : Nat)) ∧ W.cell? ⟨w3.heap.size, 4, none⟩ = some (.int .i64 (cnt 3 (X.tks) : Nat)) ∧ W.cell? ⟨w3.heap.size, 5, none⟩ = some (.int .i64 (cnt 4 (X.tks) : Nat)) ∧ W.cell? ⟨w3.heap.size, 6, none⟩ = some (.int .i64 (cnt 5 (X.tks) : Nat)) ∧ W.cell? ⟨w3.heap.size, 7, none⟩ = some (.int .i64 (cnt 6 (X.tks) : Nat)) ∧ W.cell? ⟨w3.heap.size, 8, none⟩ = some (.int .i64 (cnt 7 (X.tks) : Nat)) ∧ W.cell? ⟨w3.heap.size, 9, none⟩ = some (.int .i64 (cnt 8 (X.tks) : Nat)))) (first | exact cs0.2 | exact cs0d.2 | exact csO.2 | exact csR.2 | exact csS.2 | exact csK.2) (first
    | (go_at_call 25; refine (open_ok _ (some w.heap.size) B d n X (by first | exact HRv3.out | exact HRv3.out.below hbR | exact HRv3.out.drew.below hbR) HN.out (by omega) HOK.out (by intro x hx; injection hx with hx; rw [← hx]; first | exact gT3 | exact Nat.lt_of_lt_of_le gT3 hbR.size)).mono ?_; rintro e wo ⟨⟨Ao, co, rfl, HO⟩, hbO⟩; have HO := hide HO; have csO := CS.below (by first | exact cs0 | exact cs0d | exact csR) hbO)
    | (go_at_call 28; refine (sameints_eq _ (some w.heap.size) Ao Ap _ co cp _ (by first | exact HO.out | exact HO.out.below hbR) (by first | exact HP.out | exact HP.out.below hbO) rfl (by have := idxs_len notDone X.tks 0; have := HN.out; omega)).mono ?_; rintro e wq ⟨rfl, hbS⟩; have csS := CS.below (by first | exact csO | exact csR) hbS)
    | (go_at_call 12; refine (known_any _).mono ?_; rintro e wk ⟨rfl, hbK⟩; have csK := csS.below hbK)
    | (go_at_call 29; refine (ropen_ok _ (some w.heap.size) B d n X (by first | exact HRv3.out | exact HRv3.out.below hbO | exact HRv3.out.drew.below hbO) HN.out (by omega) HOK.out (by intro x hx; injection hx with hx; rw [← hx]; first | exact gT3 | exact Nat.lt_of_lt_of_le gT3 hbO.size)).mono ?_; rintro e wp ⟨⟨Ap, cp, rfl, HP⟩, hbR⟩; have HP := hide HP; have csR := CS.below (by first | exact cs0 | exact cs0d | exact csO) hbR))
  all_goals
    go_wp2_with fail
    refine bodyPost_ret (v := .bool true) (by simp [results, Try.results7, go_sem, *]) rfl ⟨rfl, ?_⟩
    first
      | exact ((((HFv3.out.drew.below_ hbO).below_ hbR).below_ hbS).below_ hbK).below (Nat.le_refl _) (fun k h h2 => by omega)
      | exact ((((HFv3.out.drew.below_ hbR).below_ hbO).below_ hbS).below_ hbK).below (Nat.le_refl _) (fun k h h2 => by omega)

end Go.Proofs.Ytjhkgoengoiljaa
