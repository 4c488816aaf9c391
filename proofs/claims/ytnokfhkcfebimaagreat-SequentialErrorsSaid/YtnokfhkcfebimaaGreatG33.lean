/- Contracts of the functions that these laws reach: part 33: Contracts: Errors, Expected of the program and of the reference, for all arguments. -/
import Derived.Test.YtnokfhkcfebimaaGreatG32
import Derived.Test.YtnokfhkcfebimaaGreatG19
set_option linter.unusedVariables false
set_option linter.unusedSimpArgs false

/- Contracts: Errors, Expected of the program and of the reference, for all arguments. -/
namespace Go.Proofs.YtnokfhkcfebimaaGreat
open Go.RowKit

/-- The first error of a specification and a chance. -/
def errE (s : Sv) (o : Option Rat) : Int := if s.ok = false then 1 else if chO o = false then 41 else 0
theorem chO_chnE {o : Option Rat} (h : chO o = true) (hk : okR o) : ∃ x, o = some x ∧ Chn x := by
  cases o with
  | none => simp [chO] at h
  | some x =>
    simp [chO] at h
    exact ⟨x, rfl, hk.1, h.1, h.2⟩
theorem put6z {v : World} {g : Nat} (h : Cb v g z6) : Cb ((((((v.setCell ⟨g, 0, none⟩ (.slice none 0 0)).setCell ⟨g, 1, none⟩ (.slice none 0 0)).setCell ⟨g, 2, none⟩ (.slice none 0 0)).setCell ⟨g, 3, none⟩ (.slice none 0 0)).setCell ⟨g, 4, none⟩ (.slice none 0 0)).setCell ⟨g, 5, none⟩ (.slice none 0 0)) g z6 :=
  ((((((h.put 0 (.slice none 0 0) (by simp [z6]) (by simp)).put 1 (.slice none 0 0) (by simp [z6]) (by simp)).put 2 (.slice none 0 0) (by simp [z6]) (by simp)).put 3 (.slice none 0 0) (by simp [z6]) (by simp)).put 4 (.slice none 0 0) (by simp [z6]) (by simp)).put 5 (.slice none 0 0) (by simp [z6]) (by simp))
set_option maxRecDepth 100000 in
set_option maxHeartbeats 8000000 in
theorem serrors_bad (w : World) (s : Sv) (fp : Fa) (l k : List Nat) (hq : SQ w s) (hp : Fq w fp l k) (hbad : s.ok = false ∨ chO (fracOf l k) = false) : Calls Tryz.prog 11 #[.agg #[.slice s.l.A s.l.n s.l.c, .slice s.l.B s.l.m s.l.d, .slice s.h.A s.h.n s.h.c, .slice s.h.B s.h.m s.h.d, .slice s.a.A s.a.n s.a.c, .slice s.a.B s.a.m s.a.d, .slice s.b.A s.b.n s.b.c, .slice s.b.B s.b.m s.b.d, .int .i64 s.m], .agg #[.slice fp.A fp.n fp.c, .slice fp.B fp.m fp.d]] w fun e w' => e = .returned (.tuple #[.agg #[.slice none 0 0, .slice none 0 0, .slice none 0 0, .slice none 0 0, .slice none 0 0, .slice none 0 0], .int .i64 (errE s (fracOf l k))]) ∧ Below w.heap.size w w' := by
  have HQ := hide hq
  have HP := hide hp
  clear hq hp
  by_cases hs : s.ok = false
  · have HOK := hide hs
    have HE := hide (show errE s (fracOf l k) = 1 from if_pos hs)
    clear hs hbad
    go_enter Tryz.func11, Tryz.ntmps11
    go_upto_region 1 with (fail)
    generalize hW : World.alloc (World.alloc (World.alloc w _) _) _ = v
    have HF := hide (show FS w v w.heap.size s by rw [← hW]; exact ((FS.mk0 HQ.out _).alloc _).alloc _)
    have HB := hide (show Bq v (w.heap.size + 1) fp by rw [← hW]; exact ((Bq.mk0 (w := w.alloc _) _ fp (by simp)).alloc _))
    have HP2 := hide (show Fq v fp l k by rw [← hW]; exact ((HP.out.alloc _).alloc _).alloc _)
    have HC := hide (show Cb v (w.heap.size + 2) z6 by rw [← hW]; first | exact Cb.mk0 z6 (by simp [z6]) _ (by simp) | exact Rb.mk0 _ (by simp))
    obtain ⟨a0, a1, a2, a3, a4, a5, a6, a7, a8, a9⟩ := HF.out.ca
    have p0 := HB.out.c0
    have p1 := HB.out.c1
    have pz := HB.out.sz
    clear hW
    go_upto_region 2 with ((go_at_call 42; (with_reducible refine (scheckv_any _ s HF.out.q).mono ?_); rintro e w1 ⟨rfl, hb⟩; rw [HOK.out]; have HF1 := hide (HF.out.below hb); have HB1 := hide (HB.out.below hb); have HP3 := hide (HP2.out.below hb); have HC1 := hide (HC.out.below hb); have r0 := HB1.out.c0; have r1 := HB1.out.c1; have rz := HB1.out.sz; clear hb))
    have HBX := hide HF1.out.bw
    have t0 := HC1.out.cell 0 _ rfl; have t1 := HC1.out.cell 1 _ rfl; have t2 := HC1.out.cell 2 _ rfl; have t3 := HC1.out.cell 3 _ rfl; have t4 := HC1.out.cell 4 _ rfl; have t5 := HC1.out.cell 5 _ rfl; have tf := HC1.out.fz; have tz := HC1.out.sz
    go_wp2_with fail
    generalize hW : World.setCell (World.setCell (World.setCell (World.setCell (World.setCell (World.setCell _ _ _) _ _) _ _) _ _) _ _) _ _ = v5
    have HC5 := hide (show Cb v5 (w.heap.size + 2) z6 by rw [← hW]; exact put6z HC1.out)
    have HB5 := hide (show Below w.heap.size w v5 by rw [← hW]; exact ((Fr.of_below (fun b => b = w.heap.size + 2) HBX.out).trans (fr6 _ _ _ _ _ _)).below (Nat.le_refl _) (fun k hk e => by omega))
    clear hW t0 t1 t2 t3 t4 t5 tf tz
    have k0 := HC5.out.cell 0 _ rfl
    have k1 := HC5.out.cell 1 _ rfl
    have k2 := HC5.out.cell 2 _ rfl
    have k3 := HC5.out.cell 3 _ rfl
    have k4 := HC5.out.cell 4 _ rfl
    have k5 := HC5.out.cell 5 _ rfl
    refine bodyPost_ret (v := .tuple #[.agg #[.slice none 0 0, .slice none 0 0, .slice none 0 0, .slice none 0 0, .slice none 0 0, .slice none 0 0], .int .i64 1]) (by simp [results, Tryz.results11, go_sem, *]) rfl ⟨by rw [HE.out], HB5.out⟩
  · have hs2 : s.ok = true := by simpa using hs
    have hc : chO (fracOf l k) = false := by rcases hbad with h | h; exact absurd h hs; exact h
    have HOK := hide hs2
    have HCH := hide hc
    have HE := hide (show errE s (fracOf l k) = 41 by unfold errE; rw [if_neg hs, if_pos hc])
    clear hs hs2 hc hbad
    go_enter Tryz.func11, Tryz.ntmps11
    go_upto_region 1 with (fail)
    generalize hW : World.alloc (World.alloc (World.alloc w _) _) _ = v
    have HF := hide (show FS w v w.heap.size s by rw [← hW]; exact ((FS.mk0 HQ.out _).alloc _).alloc _)
    have HB := hide (show Bq v (w.heap.size + 1) fp by rw [← hW]; exact ((Bq.mk0 (w := w.alloc _) _ fp (by simp)).alloc _))
    have HP2 := hide (show Fq v fp l k by rw [← hW]; exact ((HP.out.alloc _).alloc _).alloc _)
    have HC := hide (show Cb v (w.heap.size + 2) z6 by rw [← hW]; first | exact Cb.mk0 z6 (by simp [z6]) _ (by simp) | exact Rb.mk0 _ (by simp))
    obtain ⟨a0, a1, a2, a3, a4, a5, a6, a7, a8, a9⟩ := HF.out.ca
    have p0 := HB.out.c0
    have p1 := HB.out.c1
    have pz := HB.out.sz
    clear hW
    go_upto_region 4 with (first
      | (go_at_call 43; (with_reducible refine (chance_any _ fp l k HP3.out).mono ?_); rintro e w2 ⟨rfl, hb⟩; rw [HCH.out]; have HF2 := hide (HF1.out.below hb); have HC2 := hide (HC1.out.below hb); clear hb)
      | (go_at_call 42; (with_reducible refine (scheckv_any _ s HF.out.q).mono ?_); rintro e w1 ⟨rfl, hb⟩; rw [HOK.out]; have HF1 := hide (HF.out.below hb); have HB1 := hide (HB.out.below hb); have HP3 := hide (HP2.out.below hb); have HC1 := hide (HC.out.below hb); have r0 := HB1.out.c0; have r1 := HB1.out.c1; have rz := HB1.out.sz; clear hb))
    have HBX := hide HF2.out.bw
    have t0 := HC2.out.cell 0 _ rfl; have t1 := HC2.out.cell 1 _ rfl; have t2 := HC2.out.cell 2 _ rfl; have t3 := HC2.out.cell 3 _ rfl; have t4 := HC2.out.cell 4 _ rfl; have t5 := HC2.out.cell 5 _ rfl; have tf := HC2.out.fz; have tz := HC2.out.sz
    go_wp2_with fail
    generalize hW : World.setCell (World.setCell (World.setCell (World.setCell (World.setCell (World.setCell _ _ _) _ _) _ _) _ _) _ _) _ _ = v5
    have HC5 := hide (show Cb v5 (w.heap.size + 2) z6 by rw [← hW]; exact put6z HC2.out)
    have HB5 := hide (show Below w.heap.size w v5 by rw [← hW]; exact ((Fr.of_below (fun b => b = w.heap.size + 2) HBX.out).trans (fr6 _ _ _ _ _ _)).below (Nat.le_refl _) (fun k hk e => by omega))
    clear hW t0 t1 t2 t3 t4 t5 tf tz
    have k0 := HC5.out.cell 0 _ rfl
    have k1 := HC5.out.cell 1 _ rfl
    have k2 := HC5.out.cell 2 _ rfl
    have k3 := HC5.out.cell 3 _ rfl
    have k4 := HC5.out.cell 4 _ rfl
    have k5 := HC5.out.cell 5 _ rfl
    refine bodyPost_ret (v := .tuple #[.agg #[.slice none 0 0, .slice none 0 0, .slice none 0 0, .slice none 0 0, .slice none 0 0, .slice none 0 0], .int .i64 41]) (by simp [results, Tryz.results11, go_sem, *]) rfl ⟨by rw [HE.out], HB5.out⟩
set_option maxRecDepth 100000 in
set_option maxHeartbeats 8000000 in
theorem qerrors_bad (w : World) (s : Sv) (fp : Fa) (l k : List Nat) (hq : SQ w s) (hp : Fq w fp l k) (hbad : s.ok = false ∨ chO (fracOf l k) = false) : Calls Tryz.prog 12 #[.agg #[.slice s.l.A s.l.n s.l.c, .slice s.l.B s.l.m s.l.d, .slice s.h.A s.h.n s.h.c, .slice s.h.B s.h.m s.h.d, .slice s.a.A s.a.n s.a.c, .slice s.a.B s.a.m s.a.d, .slice s.b.A s.b.n s.b.c, .slice s.b.B s.b.m s.b.d, .int .i64 s.m], .agg #[.slice fp.A fp.n fp.c, .slice fp.B fp.m fp.d]] w fun e w' => e = .returned (.tuple #[.agg #[.slice none 0 0, .slice none 0 0, .slice none 0 0, .slice none 0 0, .slice none 0 0, .slice none 0 0], .int .i64 (errE s (fracOf l k))]) ∧ Below w.heap.size w w' := by
  have HQ := hide hq
  have HP := hide hp
  clear hq hp
  by_cases hs : s.ok = false
  · have HOK := hide hs
    have HE := hide (show errE s (fracOf l k) = 1 from if_pos hs)
    clear hs hbad
    go_enter Tryz.func12, Tryz.ntmps12
    go_upto_region 1 with (fail)
    generalize hW : World.alloc (World.alloc (World.alloc w _) _) _ = v
    have HF := hide (show FS w v w.heap.size s by rw [← hW]; exact ((FS.mk0 HQ.out _).alloc _).alloc _)
    have HB := hide (show Bq v (w.heap.size + 1) fp by rw [← hW]; exact ((Bq.mk0 (w := w.alloc _) _ fp (by simp)).alloc _))
    have HP2 := hide (show Fq v fp l k by rw [← hW]; exact ((HP.out.alloc _).alloc _).alloc _)
    have HC := hide (show Cb v (w.heap.size + 2) z6 by rw [← hW]; first | exact Cb.mk0 z6 (by simp [z6]) _ (by simp) | exact Rb.mk0 _ (by simp))
    obtain ⟨a0, a1, a2, a3, a4, a5, a6, a7, a8, a9⟩ := HF.out.ca
    have p0 := HB.out.c0
    have p1 := HB.out.c1
    have pz := HB.out.sz
    clear hW
    go_upto_region 2 with ((go_at_call 45; (with_reducible refine (qcheckv_any _ s HF.out.q).mono ?_); rintro e w1 ⟨rfl, hb⟩; rw [HOK.out]; have HF1 := hide (HF.out.below hb); have HB1 := hide (HB.out.below hb); have HP3 := hide (HP2.out.below hb); have HC1 := hide (HC.out.below hb); have r0 := HB1.out.c0; have r1 := HB1.out.c1; have rz := HB1.out.sz; clear hb))
    have HBX := hide HF1.out.bw
    have t0 := HC1.out.cell 0 _ rfl; have t1 := HC1.out.cell 1 _ rfl; have t2 := HC1.out.cell 2 _ rfl; have t3 := HC1.out.cell 3 _ rfl; have t4 := HC1.out.cell 4 _ rfl; have t5 := HC1.out.cell 5 _ rfl; have tf := HC1.out.fz; have tz := HC1.out.sz
    go_wp2_with fail
    generalize hW : World.setCell (World.setCell (World.setCell (World.setCell (World.setCell (World.setCell _ _ _) _ _) _ _) _ _) _ _) _ _ = v5
    have HC5 := hide (show Cb v5 (w.heap.size + 2) z6 by rw [← hW]; exact put6z HC1.out)
    have HB5 := hide (show Below w.heap.size w v5 by rw [← hW]; exact ((Fr.of_below (fun b => b = w.heap.size + 2) HBX.out).trans (fr6 _ _ _ _ _ _)).below (Nat.le_refl _) (fun k hk e => by omega))
    clear hW t0 t1 t2 t3 t4 t5 tf tz
    have k0 := HC5.out.cell 0 _ rfl
    have k1 := HC5.out.cell 1 _ rfl
    have k2 := HC5.out.cell 2 _ rfl
    have k3 := HC5.out.cell 3 _ rfl
    have k4 := HC5.out.cell 4 _ rfl
    have k5 := HC5.out.cell 5 _ rfl
    refine bodyPost_ret (v := .tuple #[.agg #[.slice none 0 0, .slice none 0 0, .slice none 0 0, .slice none 0 0, .slice none 0 0, .slice none 0 0], .int .i64 1]) (by simp [results, Tryz.results12, go_sem, *]) rfl ⟨by rw [HE.out], HB5.out⟩
  · have hs2 : s.ok = true := by simpa using hs
    have hc : chO (fracOf l k) = false := by rcases hbad with h | h; exact absurd h hs; exact h
    have HOK := hide hs2
    have HCH := hide hc
    have HE := hide (show errE s (fracOf l k) = 41 by unfold errE; rw [if_neg hs, if_pos hc])
    clear hs hs2 hc hbad
    go_enter Tryz.func12, Tryz.ntmps12
    go_upto_region 1 with (fail)
    generalize hW : World.alloc (World.alloc (World.alloc w _) _) _ = v
    have HF := hide (show FS w v w.heap.size s by rw [← hW]; exact ((FS.mk0 HQ.out _).alloc _).alloc _)
    have HB := hide (show Bq v (w.heap.size + 1) fp by rw [← hW]; exact ((Bq.mk0 (w := w.alloc _) _ fp (by simp)).alloc _))
    have HP2 := hide (show Fq v fp l k by rw [← hW]; exact ((HP.out.alloc _).alloc _).alloc _)
    have HC := hide (show Cb v (w.heap.size + 2) z6 by rw [← hW]; first | exact Cb.mk0 z6 (by simp [z6]) _ (by simp) | exact Rb.mk0 _ (by simp))
    obtain ⟨a0, a1, a2, a3, a4, a5, a6, a7, a8, a9⟩ := HF.out.ca
    have p0 := HB.out.c0
    have p1 := HB.out.c1
    have pz := HB.out.sz
    clear hW
    go_upto_region 4 with (first
      | (go_at_call 46; (with_reducible refine (rzchance_any _ fp l k HP3.out).mono ?_); rintro e w2 ⟨rfl, hb⟩; rw [HCH.out]; have HF2 := hide (HF1.out.below hb); have HC2 := hide (HC1.out.below hb); clear hb)
      | (go_at_call 45; (with_reducible refine (qcheckv_any _ s HF.out.q).mono ?_); rintro e w1 ⟨rfl, hb⟩; rw [HOK.out]; have HF1 := hide (HF.out.below hb); have HB1 := hide (HB.out.below hb); have HP3 := hide (HP2.out.below hb); have HC1 := hide (HC.out.below hb); have r0 := HB1.out.c0; have r1 := HB1.out.c1; have rz := HB1.out.sz; clear hb))
    have HBX := hide HF2.out.bw
    have t0 := HC2.out.cell 0 _ rfl; have t1 := HC2.out.cell 1 _ rfl; have t2 := HC2.out.cell 2 _ rfl; have t3 := HC2.out.cell 3 _ rfl; have t4 := HC2.out.cell 4 _ rfl; have t5 := HC2.out.cell 5 _ rfl; have tf := HC2.out.fz; have tz := HC2.out.sz
    go_wp2_with fail
    generalize hW : World.setCell (World.setCell (World.setCell (World.setCell (World.setCell (World.setCell _ _ _) _ _) _ _) _ _) _ _) _ _ = v5
    have HC5 := hide (show Cb v5 (w.heap.size + 2) z6 by rw [← hW]; exact put6z HC2.out)
    have HB5 := hide (show Below w.heap.size w v5 by rw [← hW]; exact ((Fr.of_below (fun b => b = w.heap.size + 2) HBX.out).trans (fr6 _ _ _ _ _ _)).below (Nat.le_refl _) (fun k hk e => by omega))
    clear hW t0 t1 t2 t3 t4 t5 tf tz
    have k0 := HC5.out.cell 0 _ rfl
    have k1 := HC5.out.cell 1 _ rfl
    have k2 := HC5.out.cell 2 _ rfl
    have k3 := HC5.out.cell 3 _ rfl
    have k4 := HC5.out.cell 4 _ rfl
    have k5 := HC5.out.cell 5 _ rfl
    refine bodyPost_ret (v := .tuple #[.agg #[.slice none 0 0, .slice none 0 0, .slice none 0 0, .slice none 0 0, .slice none 0 0, .slice none 0 0], .int .i64 41]) (by simp [results, Tryz.results12, go_sem, *]) rfl ⟨by rw [HE.out], HB5.out⟩
set_option maxRecDepth 100000 in
set_option maxHeartbeats 8000000 in
theorem sexpected_bad (w : World) (s : Sv) (fp : Fa) (l k : List Nat) (hq : SQ w s) (hp : Fq w fp l k) (hbad : s.ok = false ∨ chO (fracOf l k) = false) : Calls Tryz.prog 13 #[.agg #[.slice s.l.A s.l.n s.l.c, .slice s.l.B s.l.m s.l.d, .slice s.h.A s.h.n s.h.c, .slice s.h.B s.h.m s.h.d, .slice s.a.A s.a.n s.a.c, .slice s.a.B s.a.m s.a.d, .slice s.b.A s.b.n s.b.c, .slice s.b.B s.b.m s.b.d, .int .i64 s.m], .agg #[.slice fp.A fp.n fp.c, .slice fp.B fp.m fp.d]] w fun e w' => e = .returned (.tuple #[.agg #[.slice none 0 0, .slice none 0 0], .int .i64 (errE s (fracOf l k))]) ∧ Below w.heap.size w w' := by
  have HQ := hide hq
  have HP := hide hp
  clear hq hp
  by_cases hs : s.ok = false
  · have HOK := hide hs
    have HE := hide (show errE s (fracOf l k) = 1 from if_pos hs)
    clear hs hbad
    go_enter Tryz.func13, Tryz.ntmps13
    go_upto_region 1 with (fail)
    generalize hW : World.alloc (World.alloc (World.alloc w _) _) _ = v
    have HF := hide (show FS w v w.heap.size s by rw [← hW]; exact ((FS.mk0 HQ.out _).alloc _).alloc _)
    have HB := hide (show Bq v (w.heap.size + 1) fp by rw [← hW]; exact ((Bq.mk0 (w := w.alloc _) _ fp (by simp)).alloc _))
    have HP2 := hide (show Fq v fp l k by rw [← hW]; exact ((HP.out.alloc _).alloc _).alloc _)
    have HC := hide (show Rb v (w.heap.size + 2) by rw [← hW]; first | exact Cb.mk0 z6 (by simp [z6]) _ (by simp) | exact Rb.mk0 _ (by simp))
    obtain ⟨a0, a1, a2, a3, a4, a5, a6, a7, a8, a9⟩ := HF.out.ca
    have p0 := HB.out.c0
    have p1 := HB.out.c1
    have pz := HB.out.sz
    clear hW
    go_upto_region 2 with ((go_at_call 42; (with_reducible refine (scheckv_any _ s HF.out.q).mono ?_); rintro e w1 ⟨rfl, hb⟩; rw [HOK.out]; have HF1 := hide (HF.out.below hb); have HB1 := hide (HB.out.below hb); have HP3 := hide (HP2.out.below hb); have HC1 := hide (HC.out.below hb); have r0 := HB1.out.c0; have r1 := HB1.out.c1; have rz := HB1.out.sz; clear hb))
    have HBX := hide HF1.out.bw
    obtain ⟨t0, t1, tf, tz, -⟩ := HC1.out
    go_wp2_with fail
    refine bodyPost_ret (v := .tuple #[.agg #[.slice none 0 0, .slice none 0 0], .int .i64 1]) (by simp [results, Tryz.results13, go_sem, *]) rfl ⟨by rw [HE.out], Rb.end0 HBX.out (by omega) _ _⟩
  · have hs2 : s.ok = true := by simpa using hs
    have hc : chO (fracOf l k) = false := by rcases hbad with h | h; exact absurd h hs; exact h
    have HOK := hide hs2
    have HCH := hide hc
    have HE := hide (show errE s (fracOf l k) = 41 by unfold errE; rw [if_neg hs, if_pos hc])
    clear hs hs2 hc hbad
    go_enter Tryz.func13, Tryz.ntmps13
    go_upto_region 1 with (fail)
    generalize hW : World.alloc (World.alloc (World.alloc w _) _) _ = v
    have HF := hide (show FS w v w.heap.size s by rw [← hW]; exact ((FS.mk0 HQ.out _).alloc _).alloc _)
    have HB := hide (show Bq v (w.heap.size + 1) fp by rw [← hW]; exact ((Bq.mk0 (w := w.alloc _) _ fp (by simp)).alloc _))
    have HP2 := hide (show Fq v fp l k by rw [← hW]; exact ((HP.out.alloc _).alloc _).alloc _)
    have HC := hide (show Rb v (w.heap.size + 2) by rw [← hW]; first | exact Cb.mk0 z6 (by simp [z6]) _ (by simp) | exact Rb.mk0 _ (by simp))
    obtain ⟨a0, a1, a2, a3, a4, a5, a6, a7, a8, a9⟩ := HF.out.ca
    have p0 := HB.out.c0
    have p1 := HB.out.c1
    have pz := HB.out.sz
    clear hW
    go_upto_region 4 with (first
      | (go_at_call 43; (with_reducible refine (chance_any _ fp l k HP3.out).mono ?_); rintro e w2 ⟨rfl, hb⟩; rw [HCH.out]; have HF2 := hide (HF1.out.below hb); have HC2 := hide (HC1.out.below hb); clear hb)
      | (go_at_call 42; (with_reducible refine (scheckv_any _ s HF.out.q).mono ?_); rintro e w1 ⟨rfl, hb⟩; rw [HOK.out]; have HF1 := hide (HF.out.below hb); have HB1 := hide (HB.out.below hb); have HP3 := hide (HP2.out.below hb); have HC1 := hide (HC.out.below hb); have r0 := HB1.out.c0; have r1 := HB1.out.c1; have rz := HB1.out.sz; clear hb))
    have HBX := hide HF2.out.bw
    obtain ⟨t0, t1, tf, tz, -⟩ := HC2.out
    go_wp2_with fail
    refine bodyPost_ret (v := .tuple #[.agg #[.slice none 0 0, .slice none 0 0], .int .i64 41]) (by simp [results, Tryz.results13, go_sem, *]) rfl ⟨by rw [HE.out], Rb.end0 HBX.out (by omega) _ _⟩
set_option maxRecDepth 100000 in
set_option maxHeartbeats 8000000 in
theorem qexpected_bad (w : World) (s : Sv) (fp : Fa) (l k : List Nat) (hq : SQ w s) (hp : Fq w fp l k) (hbad : s.ok = false ∨ chO (fracOf l k) = false) : Calls Tryz.prog 14 #[.agg #[.slice s.l.A s.l.n s.l.c, .slice s.l.B s.l.m s.l.d, .slice s.h.A s.h.n s.h.c, .slice s.h.B s.h.m s.h.d, .slice s.a.A s.a.n s.a.c, .slice s.a.B s.a.m s.a.d, .slice s.b.A s.b.n s.b.c, .slice s.b.B s.b.m s.b.d, .int .i64 s.m], .agg #[.slice fp.A fp.n fp.c, .slice fp.B fp.m fp.d]] w fun e w' => e = .returned (.tuple #[.agg #[.slice none 0 0, .slice none 0 0], .int .i64 (errE s (fracOf l k))]) ∧ Below w.heap.size w w' := by
  have HQ := hide hq
  have HP := hide hp
  clear hq hp
  by_cases hs : s.ok = false
  · have HOK := hide hs
    have HE := hide (show errE s (fracOf l k) = 1 from if_pos hs)
    clear hs hbad
    go_enter Tryz.func14, Tryz.ntmps14
    go_upto_region 1 with (fail)
    generalize hW : World.alloc (World.alloc (World.alloc w _) _) _ = v
    have HF := hide (show FS w v w.heap.size s by rw [← hW]; exact ((FS.mk0 HQ.out _).alloc _).alloc _)
    have HB := hide (show Bq v (w.heap.size + 1) fp by rw [← hW]; exact ((Bq.mk0 (w := w.alloc _) _ fp (by simp)).alloc _))
    have HP2 := hide (show Fq v fp l k by rw [← hW]; exact ((HP.out.alloc _).alloc _).alloc _)
    have HC := hide (show Rb v (w.heap.size + 2) by rw [← hW]; first | exact Cb.mk0 z6 (by simp [z6]) _ (by simp) | exact Rb.mk0 _ (by simp))
    obtain ⟨a0, a1, a2, a3, a4, a5, a6, a7, a8, a9⟩ := HF.out.ca
    have p0 := HB.out.c0
    have p1 := HB.out.c1
    have pz := HB.out.sz
    clear hW
    go_upto_region 2 with ((go_at_call 45; (with_reducible refine (qcheckv_any _ s HF.out.q).mono ?_); rintro e w1 ⟨rfl, hb⟩; rw [HOK.out]; have HF1 := hide (HF.out.below hb); have HB1 := hide (HB.out.below hb); have HP3 := hide (HP2.out.below hb); have HC1 := hide (HC.out.below hb); have r0 := HB1.out.c0; have r1 := HB1.out.c1; have rz := HB1.out.sz; clear hb))
    have HBX := hide HF1.out.bw
    obtain ⟨t0, t1, tf, tz, -⟩ := HC1.out
    go_wp2_with fail
    refine bodyPost_ret (v := .tuple #[.agg #[.slice none 0 0, .slice none 0 0], .int .i64 1]) (by simp [results, Tryz.results14, go_sem, *]) rfl ⟨by rw [HE.out], Rb.end0 HBX.out (by omega) _ _⟩
  · have hs2 : s.ok = true := by simpa using hs
    have hc : chO (fracOf l k) = false := by rcases hbad with h | h; exact absurd h hs; exact h
    have HOK := hide hs2
    have HCH := hide hc
    have HE := hide (show errE s (fracOf l k) = 41 by unfold errE; rw [if_neg hs, if_pos hc])
    clear hs hs2 hc hbad
    go_enter Tryz.func14, Tryz.ntmps14
    go_upto_region 1 with (fail)
    generalize hW : World.alloc (World.alloc (World.alloc w _) _) _ = v
    have HF := hide (show FS w v w.heap.size s by rw [← hW]; exact ((FS.mk0 HQ.out _).alloc _).alloc _)
    have HB := hide (show Bq v (w.heap.size + 1) fp by rw [← hW]; exact ((Bq.mk0 (w := w.alloc _) _ fp (by simp)).alloc _))
    have HP2 := hide (show Fq v fp l k by rw [← hW]; exact ((HP.out.alloc _).alloc _).alloc _)
    have HC := hide (show Rb v (w.heap.size + 2) by rw [← hW]; first | exact Cb.mk0 z6 (by simp [z6]) _ (by simp) | exact Rb.mk0 _ (by simp))
    obtain ⟨a0, a1, a2, a3, a4, a5, a6, a7, a8, a9⟩ := HF.out.ca
    have p0 := HB.out.c0
    have p1 := HB.out.c1
    have pz := HB.out.sz
    clear hW
    go_upto_region 4 with (first
      | (go_at_call 46; (with_reducible refine (rzchance_any _ fp l k HP3.out).mono ?_); rintro e w2 ⟨rfl, hb⟩; rw [HCH.out]; have HF2 := hide (HF1.out.below hb); have HC2 := hide (HC1.out.below hb); clear hb)
      | (go_at_call 45; (with_reducible refine (qcheckv_any _ s HF.out.q).mono ?_); rintro e w1 ⟨rfl, hb⟩; rw [HOK.out]; have HF1 := hide (HF.out.below hb); have HB1 := hide (HB.out.below hb); have HP3 := hide (HP2.out.below hb); have HC1 := hide (HC.out.below hb); have r0 := HB1.out.c0; have r1 := HB1.out.c1; have rz := HB1.out.sz; clear hb))
    have HBX := hide HF2.out.bw
    obtain ⟨t0, t1, tf, tz, -⟩ := HC2.out
    go_wp2_with fail
    refine bodyPost_ret (v := .tuple #[.agg #[.slice none 0 0, .slice none 0 0], .int .i64 41]) (by simp [results, Tryz.results14, go_sem, *]) rfl ⟨by rw [HE.out], Rb.end0 HBX.out (by omega) _ _⟩
end Go.Proofs.YtnokfhkcfebimaaGreat
