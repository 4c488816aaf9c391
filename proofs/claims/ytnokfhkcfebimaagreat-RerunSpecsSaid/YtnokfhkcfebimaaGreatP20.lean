/- Contracts of the functions that these laws reach: part 20: Contracts: counts, the program's and the reference's; Contracts: sequential.Ratio, decide, Decide; Contracts: sequential.decide, Decide; Contract: sequential.Limits; Contracts: noise.Sequence; Contract: sequential.Run; A box whose cells are set; the tape's Chance beside limbs; contract: the law's spec; Contract: the maker of specifications of the sequential laws; Contracts: the sequential laws' example and known. -/
import Derived.Test.YtnokfhkcfebimaaGreatP19
import Derived.Test.YtnokfhkcfebimaaGreatP17
set_option linter.unusedVariables false
set_option linter.unusedSimpArgs false

/- Contracts: counts, the program's and the reference's. -/
namespace Go.Proofs.YtnokfhkcfebimaaGreat
open Go.RowKit

theorem scheckv_any (w : World) (s : Sv) (hq : SQ w s) : Calls Tryz.prog 42 #[.agg #[.slice s.l.A s.l.n s.l.c, .slice s.l.B s.l.m s.l.d, .slice s.h.A s.h.n s.h.c, .slice s.h.B s.h.m s.h.d, .slice s.a.A s.a.n s.a.c, .slice s.a.B s.a.m s.a.d, .slice s.b.A s.b.n s.b.c, .slice s.b.B s.b.m s.b.d, .int .i64 s.m]] w fun e w' => e = .returned (.bool s.ok) ∧ Below w.heap.size w w' := scheck_any w s hq
theorem qcheckv_any (w : World) (s : Sv) (hq : SQ w s) : Calls Tryz.prog 45 #[.agg #[.slice s.l.A s.l.n s.l.c, .slice s.l.B s.l.m s.l.d, .slice s.h.A s.h.n s.h.c, .slice s.h.B s.h.m s.h.d, .slice s.a.A s.a.n s.a.c, .slice s.a.B s.a.m s.a.d, .slice s.b.A s.b.n s.b.c, .slice s.b.B s.b.m s.b.d, .int .i64 s.m]] w fun e w' => e = .returned (.bool s.ok) ∧ Below w.heap.size w w' := qcheck23_any w s hq
/-- The first error of counts. -/
def cntE (s : Sv) (p f : Int) : Int := if s.ok = false then 1 else if p < 0 ∨ f < 0 ∨ s.m < p ∨ s.m < f ∨ s.m < p + f then 3 else 0
set_option maxRecDepth 100000 in
set_option maxHeartbeats 8000000 in
theorem scounts_any (w : World) (s : Sv) (p f : Int) (hq : SQ w s) :
    Calls Tryz.prog 68 #[.agg #[.slice s.l.A s.l.n s.l.c, .slice s.l.B s.l.m s.l.d, .slice s.h.A s.h.n s.h.c, .slice s.h.B s.h.m s.h.d, .slice s.a.A s.a.n s.a.c, .slice s.a.B s.a.m s.a.d, .slice s.b.A s.b.n s.b.c, .slice s.b.B s.b.m s.b.d, .int .i64 s.m], .int .i64 p, .int .i64 f] w fun e w' => e = .returned (.int .i64 (cntE s p f)) ∧ Below w.heap.size w w' := by
  rcases h0 : s.ok
  · have H0 := hide h0
    have HX := hide (show cntE s p f = 1 by unfold cntE; rw [if_pos h0])
    clear h0
    go_enter Tryz.func68, Tryz.ntmps68
    go_upto_region 1 with (fail)
    generalize hW : World.alloc w _ = v
    have HF := hide (show FS w v w.heap.size s by rw [← hW]; exact FS.mk0 hq _)
    obtain ⟨a0, a1, a2, a3, a4, a5, a6, a7, a8, a9⟩ := HF.out.ca
    clear hW hq
    go_wp2_with (go_at_call 42; (with_reducible refine (scheckv_any _ s HF.out.q).mono ?_); rintro e w1 ⟨rfl, hb⟩; rw [H0.out]; have HF1 := hide (HF.out.below hb); obtain ⟨b0, b1, b2, b3, b4, b5, b6, b7, b8, b9⟩ := HF1.out.ca; clear hb)
    refine bodyPost_ret (v := .int .i64 1) (by simp [results, Tryz.results68, go_sem, *]) rfl ⟨by rw [HX.out], HF1.out.bw⟩
  have H0 := hide h0
  have hok : ¬ s.ok = false := by rw [h0]; simp
  have HY := hide (show cntE s p f = if p < 0 ∨ f < 0 ∨ s.m < p ∨ s.m < f ∨ s.m < p + f then 3 else 0 by unfold cntE; rw [if_neg hok])
  have hm32 : s.m ≤ 32 := by
    obtain ⟨l, h, a, b, M, hk⟩ := Sv.ok_some h0
    have h1 := hk.m
    have h2 := hk.m2
    omega
  clear h0 hok
  by_cases h1 : p < 0
  · have HX := hide (show cntE s p f = 3 by rw [HY.out, if_pos (by omega)])
    have g1 : decide (p < 0) = true := decide_eq_true h1
    clear HY h1
    go_enter Tryz.func68, Tryz.ntmps68
    go_upto_region 1 with (fail)
    generalize hW : World.alloc w _ = v
    have HF := hide (show FS w v w.heap.size s by rw [← hW]; exact FS.mk0 hq _)
    obtain ⟨a0, a1, a2, a3, a4, a5, a6, a7, a8, a9⟩ := HF.out.ca
    clear hW hq
    go_wp2_with (go_at_call 42; (with_reducible refine (scheckv_any _ s HF.out.q).mono ?_); rintro e w1 ⟨rfl, hb⟩; rw [H0.out]; have HF1 := hide (HF.out.below hb); obtain ⟨b0, b1, b2, b3, b4, b5, b6, b7, b8, b9⟩ := HF1.out.ca; clear hb)
    refine bodyPost_ret (v := .int .i64 3) (by simp [results, Tryz.results68, go_sem, *]) rfl ⟨by rw [HX.out], HF1.out.bw⟩
  have g1 : decide (p < 0) = false := decide_eq_false h1
  by_cases h2 : f < 0
  · have HX := hide (show cntE s p f = 3 by rw [HY.out, if_pos (by omega)])
    have g2 : decide (f < 0) = true := decide_eq_true h2
    clear HY h2
    go_enter Tryz.func68, Tryz.ntmps68
    go_upto_region 1 with (fail)
    generalize hW : World.alloc w _ = v
    have HF := hide (show FS w v w.heap.size s by rw [← hW]; exact FS.mk0 hq _)
    obtain ⟨a0, a1, a2, a3, a4, a5, a6, a7, a8, a9⟩ := HF.out.ca
    clear hW hq
    go_wp2_with (go_at_call 42; (with_reducible refine (scheckv_any _ s HF.out.q).mono ?_); rintro e w1 ⟨rfl, hb⟩; rw [H0.out]; have HF1 := hide (HF.out.below hb); obtain ⟨b0, b1, b2, b3, b4, b5, b6, b7, b8, b9⟩ := HF1.out.ca; clear hb)
    refine bodyPost_ret (v := .int .i64 3) (by simp [results, Tryz.results68, go_sem, *]) rfl ⟨by rw [HX.out], HF1.out.bw⟩
  have g2 : decide (f < 0) = false := decide_eq_false h2
  by_cases h3 : s.m < p
  · have HX := hide (show cntE s p f = 3 by rw [HY.out, if_pos (by omega)])
    have g3 : decide (s.m < p) = true := decide_eq_true h3
    clear HY h3
    go_enter Tryz.func68, Tryz.ntmps68
    go_upto_region 1 with (fail)
    generalize hW : World.alloc w _ = v
    have HF := hide (show FS w v w.heap.size s by rw [← hW]; exact FS.mk0 hq _)
    obtain ⟨a0, a1, a2, a3, a4, a5, a6, a7, a8, a9⟩ := HF.out.ca
    clear hW hq
    go_wp2_with (go_at_call 42; (with_reducible refine (scheckv_any _ s HF.out.q).mono ?_); rintro e w1 ⟨rfl, hb⟩; rw [H0.out]; have HF1 := hide (HF.out.below hb); obtain ⟨b0, b1, b2, b3, b4, b5, b6, b7, b8, b9⟩ := HF1.out.ca; clear hb)
    refine bodyPost_ret (v := .int .i64 3) (by simp [results, Tryz.results68, go_sem, *]) rfl ⟨by rw [HX.out], HF1.out.bw⟩
  have g3 : decide (s.m < p) = false := decide_eq_false h3
  by_cases h4 : s.m < f
  · have HX := hide (show cntE s p f = 3 by rw [HY.out, if_pos (by omega)])
    have g4 : decide (s.m < f) = true := decide_eq_true h4
    clear HY h4
    go_enter Tryz.func68, Tryz.ntmps68
    go_upto_region 1 with (fail)
    generalize hW : World.alloc w _ = v
    have HF := hide (show FS w v w.heap.size s by rw [← hW]; exact FS.mk0 hq _)
    obtain ⟨a0, a1, a2, a3, a4, a5, a6, a7, a8, a9⟩ := HF.out.ca
    clear hW hq
    go_wp2_with (go_at_call 42; (with_reducible refine (scheckv_any _ s HF.out.q).mono ?_); rintro e w1 ⟨rfl, hb⟩; rw [H0.out]; have HF1 := hide (HF.out.below hb); obtain ⟨b0, b1, b2, b3, b4, b5, b6, b7, b8, b9⟩ := HF1.out.ca; clear hb)
    refine bodyPost_ret (v := .int .i64 3) (by simp [results, Tryz.results68, go_sem, *]) rfl ⟨by rw [HX.out], HF1.out.bw⟩
  have g4 : decide (s.m < f) = false := decide_eq_false h4
  by_cases h5 : s.m < p + f
  · have HX := hide (show cntE s p f = 3 by rw [HY.out, if_pos (by omega)])
    have g5 : decide (s.m < p + f) = true := decide_eq_true h5
    clear HY h5
    go_enter Tryz.func68, Tryz.ntmps68
    go_upto_region 1 with (fail)
    generalize hW : World.alloc w _ = v
    have HF := hide (show FS w v w.heap.size s by rw [← hW]; exact FS.mk0 hq _)
    obtain ⟨a0, a1, a2, a3, a4, a5, a6, a7, a8, a9⟩ := HF.out.ca
    clear hW hq
    go_wp2_with (go_at_call 42; (with_reducible refine (scheckv_any _ s HF.out.q).mono ?_); rintro e w1 ⟨rfl, hb⟩; rw [H0.out]; have HF1 := hide (HF.out.below hb); obtain ⟨b0, b1, b2, b3, b4, b5, b6, b7, b8, b9⟩ := HF1.out.ca; clear hb)
    refine bodyPost_ret (v := .int .i64 3) (by simp [results, Tryz.results68, go_sem, *]) rfl ⟨by rw [HX.out], HF1.out.bw⟩
  have g5 : decide (s.m < p + f) = false := decide_eq_false h5
  have HX := hide (show cntE s p f = 0 by rw [HY.out, if_neg (by omega)])
  clear HY
  go_enter Tryz.func68, Tryz.ntmps68
  go_upto_region 1 with (fail)
  generalize hW : World.alloc w _ = v
  have HF := hide (show FS w v w.heap.size s by rw [← hW]; exact FS.mk0 hq _)
  obtain ⟨a0, a1, a2, a3, a4, a5, a6, a7, a8, a9⟩ := HF.out.ca
  clear hW hq
  go_wp2_with (go_at_call 42; (with_reducible refine (scheckv_any _ s HF.out.q).mono ?_); rintro e w1 ⟨rfl, hb⟩; rw [H0.out]; have HF1 := hide (HF.out.below hb); obtain ⟨b0, b1, b2, b3, b4, b5, b6, b7, b8, b9⟩ := HF1.out.ca; clear hb)
  refine bodyPost_ret (v := .int .i64 0) (by simp [results, Tryz.results68, go_sem, *]) rfl ⟨by rw [HX.out], HF1.out.bw⟩

set_option maxRecDepth 100000 in
set_option maxHeartbeats 8000000 in
theorem qcounts_any (w : World) (s : Sv) (p f : Int) (hq : SQ w s) :
    Calls Tryz.prog 145 #[.agg #[.slice s.l.A s.l.n s.l.c, .slice s.l.B s.l.m s.l.d, .slice s.h.A s.h.n s.h.c, .slice s.h.B s.h.m s.h.d, .slice s.a.A s.a.n s.a.c, .slice s.a.B s.a.m s.a.d, .slice s.b.A s.b.n s.b.c, .slice s.b.B s.b.m s.b.d, .int .i64 s.m], .int .i64 p, .int .i64 f] w fun e w' => e = .returned (.int .i64 (cntE s p f)) ∧ Below w.heap.size w w' := by
  rcases h0 : s.ok
  · have H0 := hide h0
    have HX := hide (show cntE s p f = 1 by unfold cntE; rw [if_pos h0])
    clear h0
    go_enter Tryz.func145, Tryz.ntmps145
    go_upto_region 1 with (fail)
    generalize hW : World.alloc w _ = v
    have HF := hide (show FS w v w.heap.size s by rw [← hW]; exact FS.mk0 hq _)
    obtain ⟨a0, a1, a2, a3, a4, a5, a6, a7, a8, a9⟩ := HF.out.ca
    clear hW hq
    go_wp2_with (go_at_call 45; (with_reducible refine (qcheckv_any _ s HF.out.q).mono ?_); rintro e w1 ⟨rfl, hb⟩; rw [H0.out]; have HF1 := hide (HF.out.below hb); obtain ⟨b0, b1, b2, b3, b4, b5, b6, b7, b8, b9⟩ := HF1.out.ca; clear hb)
    refine bodyPost_ret (v := .int .i64 1) (by simp [results, Tryz.results145, go_sem, *]) rfl ⟨by rw [HX.out], HF1.out.bw⟩
  have H0 := hide h0
  have hok : ¬ s.ok = false := by rw [h0]; simp
  have HY := hide (show cntE s p f = if p < 0 ∨ f < 0 ∨ s.m < p ∨ s.m < f ∨ s.m < p + f then 3 else 0 by unfold cntE; rw [if_neg hok])
  have hm32 : s.m ≤ 32 := by
    obtain ⟨l, h, a, b, M, hk⟩ := Sv.ok_some h0
    have h1 := hk.m
    have h2 := hk.m2
    omega
  clear h0 hok
  by_cases h1 : p < 0
  · have HX := hide (show cntE s p f = 3 by rw [HY.out, if_pos (by omega)])
    have g1 : decide (p < 0) = true := decide_eq_true h1
    clear HY h1
    go_enter Tryz.func145, Tryz.ntmps145
    go_upto_region 1 with (fail)
    generalize hW : World.alloc w _ = v
    have HF := hide (show FS w v w.heap.size s by rw [← hW]; exact FS.mk0 hq _)
    obtain ⟨a0, a1, a2, a3, a4, a5, a6, a7, a8, a9⟩ := HF.out.ca
    clear hW hq
    go_wp2_with (go_at_call 45; (with_reducible refine (qcheckv_any _ s HF.out.q).mono ?_); rintro e w1 ⟨rfl, hb⟩; rw [H0.out]; have HF1 := hide (HF.out.below hb); obtain ⟨b0, b1, b2, b3, b4, b5, b6, b7, b8, b9⟩ := HF1.out.ca; clear hb)
    refine bodyPost_ret (v := .int .i64 3) (by simp [results, Tryz.results145, go_sem, *]) rfl ⟨by rw [HX.out], HF1.out.bw⟩
  have g1 : decide (p < 0) = false := decide_eq_false h1
  by_cases h2 : f < 0
  · have HX := hide (show cntE s p f = 3 by rw [HY.out, if_pos (by omega)])
    have g2 : decide (f < 0) = true := decide_eq_true h2
    clear HY h2
    go_enter Tryz.func145, Tryz.ntmps145
    go_upto_region 1 with (fail)
    generalize hW : World.alloc w _ = v
    have HF := hide (show FS w v w.heap.size s by rw [← hW]; exact FS.mk0 hq _)
    obtain ⟨a0, a1, a2, a3, a4, a5, a6, a7, a8, a9⟩ := HF.out.ca
    clear hW hq
    go_wp2_with (go_at_call 45; (with_reducible refine (qcheckv_any _ s HF.out.q).mono ?_); rintro e w1 ⟨rfl, hb⟩; rw [H0.out]; have HF1 := hide (HF.out.below hb); obtain ⟨b0, b1, b2, b3, b4, b5, b6, b7, b8, b9⟩ := HF1.out.ca; clear hb)
    refine bodyPost_ret (v := .int .i64 3) (by simp [results, Tryz.results145, go_sem, *]) rfl ⟨by rw [HX.out], HF1.out.bw⟩
  have g2 : decide (f < 0) = false := decide_eq_false h2
  by_cases h3 : s.m < p
  · have HX := hide (show cntE s p f = 3 by rw [HY.out, if_pos (by omega)])
    have g3 : decide (s.m < p) = true := decide_eq_true h3
    clear HY h3
    go_enter Tryz.func145, Tryz.ntmps145
    go_upto_region 1 with (fail)
    generalize hW : World.alloc w _ = v
    have HF := hide (show FS w v w.heap.size s by rw [← hW]; exact FS.mk0 hq _)
    obtain ⟨a0, a1, a2, a3, a4, a5, a6, a7, a8, a9⟩ := HF.out.ca
    clear hW hq
    go_wp2_with (go_at_call 45; (with_reducible refine (qcheckv_any _ s HF.out.q).mono ?_); rintro e w1 ⟨rfl, hb⟩; rw [H0.out]; have HF1 := hide (HF.out.below hb); obtain ⟨b0, b1, b2, b3, b4, b5, b6, b7, b8, b9⟩ := HF1.out.ca; clear hb)
    refine bodyPost_ret (v := .int .i64 3) (by simp [results, Tryz.results145, go_sem, *]) rfl ⟨by rw [HX.out], HF1.out.bw⟩
  have g3 : decide (s.m < p) = false := decide_eq_false h3
  by_cases h4 : s.m < f
  · have HX := hide (show cntE s p f = 3 by rw [HY.out, if_pos (by omega)])
    have g4 : decide (s.m < f) = true := decide_eq_true h4
    clear HY h4
    go_enter Tryz.func145, Tryz.ntmps145
    go_upto_region 1 with (fail)
    generalize hW : World.alloc w _ = v
    have HF := hide (show FS w v w.heap.size s by rw [← hW]; exact FS.mk0 hq _)
    obtain ⟨a0, a1, a2, a3, a4, a5, a6, a7, a8, a9⟩ := HF.out.ca
    clear hW hq
    go_wp2_with (go_at_call 45; (with_reducible refine (qcheckv_any _ s HF.out.q).mono ?_); rintro e w1 ⟨rfl, hb⟩; rw [H0.out]; have HF1 := hide (HF.out.below hb); obtain ⟨b0, b1, b2, b3, b4, b5, b6, b7, b8, b9⟩ := HF1.out.ca; clear hb)
    refine bodyPost_ret (v := .int .i64 3) (by simp [results, Tryz.results145, go_sem, *]) rfl ⟨by rw [HX.out], HF1.out.bw⟩
  have g4 : decide (s.m < f) = false := decide_eq_false h4
  by_cases h5 : s.m < p + f
  · have HX := hide (show cntE s p f = 3 by rw [HY.out, if_pos (by omega)])
    have g5 : decide (s.m < p + f) = true := decide_eq_true h5
    clear HY h5
    go_enter Tryz.func145, Tryz.ntmps145
    go_upto_region 1 with (fail)
    generalize hW : World.alloc w _ = v
    have HF := hide (show FS w v w.heap.size s by rw [← hW]; exact FS.mk0 hq _)
    obtain ⟨a0, a1, a2, a3, a4, a5, a6, a7, a8, a9⟩ := HF.out.ca
    clear hW hq
    go_wp2_with (go_at_call 45; (with_reducible refine (qcheckv_any _ s HF.out.q).mono ?_); rintro e w1 ⟨rfl, hb⟩; rw [H0.out]; have HF1 := hide (HF.out.below hb); obtain ⟨b0, b1, b2, b3, b4, b5, b6, b7, b8, b9⟩ := HF1.out.ca; clear hb)
    refine bodyPost_ret (v := .int .i64 3) (by simp [results, Tryz.results145, go_sem, *]) rfl ⟨by rw [HX.out], HF1.out.bw⟩
  have g5 : decide (s.m < p + f) = false := decide_eq_false h5
  have HX := hide (show cntE s p f = 0 by rw [HY.out, if_neg (by omega)])
  clear HY
  go_enter Tryz.func145, Tryz.ntmps145
  go_upto_region 1 with (fail)
  generalize hW : World.alloc w _ = v
  have HF := hide (show FS w v w.heap.size s by rw [← hW]; exact FS.mk0 hq _)
  obtain ⟨a0, a1, a2, a3, a4, a5, a6, a7, a8, a9⟩ := HF.out.ca
  clear hW hq
  go_wp2_with (go_at_call 45; (with_reducible refine (qcheckv_any _ s HF.out.q).mono ?_); rintro e w1 ⟨rfl, hb⟩; rw [H0.out]; have HF1 := hide (HF.out.below hb); obtain ⟨b0, b1, b2, b3, b4, b5, b6, b7, b8, b9⟩ := HF1.out.ca; clear hb)
  refine bodyPost_ret (v := .int .i64 0) (by simp [results, Tryz.results145, go_sem, *]) rfl ⟨by rw [HX.out], HF1.out.bw⟩
end Go.Proofs.YtnokfhkcfebimaaGreat

/- Contracts: sequential.Ratio, decide, Decide. -/
namespace Go.Proofs.YtnokfhkcfebimaaGreat
open Go.RowKit

/-- What Ratio returns. -/
def ratR (s : Sv) (p f : Int) (r : Rat) : Option Rat × Int := if cntE s p f = 0 then (some r, 0) else (none, cntE s p f)
theorem OKs.ok {s : Sv} {l h a b : Rat} {M : Nat} (hk' : OKs s l h a b M) : s.ok = true := by
  unfold Sv.ok okS
  rw [hk'.fl, hk'.fh, hk'.fa, hk'.fb]
  have e : ∀ {r : Rat}, Inn r → innO (some r) = true := fun {r} hi => by
    have hc : chO (some r) = true := by simp [chO, hi.c.h1, hi.c.hd]
    rw [innO_some hc, decide_eq_true hi.p, decide_eq_true hi.q]; rfl
  have h9 := hk'.m
  have h10 := hk'.m1
  have h11 := hk'.m2
  rw [e hk'.il, e hk'.ih, e hk'.ia, e hk'.ib]
  simp [ltO, hk'.lt]
  omega
theorem inv_bd {a : Rat} (h : Inn a) : Bd 1000 (1 / a) := by
  have := (⟨by decide, by decide, by decide⟩ : Bd 1 (1 : Rat)).div h.c.bd h.ne
  rwa [Nat.one_mul] at this
end Go.Proofs.YtnokfhkcfebimaaGreat

/- Contracts: sequential.decide, Decide. -/
namespace Go.Proofs.YtnokfhkcfebimaaGreat
open Go.RowKit

set_option maxRecDepth 100000 in
set_option maxHeartbeats 16000000 in
theorem sdec_any (w : World) (s : Sv) (l h a b : Rat) (M p f : Nat) (hq : SQ w s) (hk : OKs s l h a b M) (hp : p ≤ 32) (hf : f ≤ 32) :
    Calls Tryz.prog 69 #[.agg #[.slice s.l.A s.l.n s.l.c, .slice s.l.B s.l.m s.l.d, .slice s.h.A s.h.n s.h.c, .slice s.h.B s.h.m s.h.d, .slice s.a.A s.a.n s.a.c, .slice s.a.B s.a.m s.a.d, .slice s.b.A s.b.n s.b.c, .slice s.b.B s.b.m s.b.d, .int .i64 s.m], .int .i64 (p : Int), .int .i64 (f : Int)] w fun e w' => e = .returned (.int .i64 (decQ l h a b p f)) ∧ Below w.heap.size w w' := by
  have HD := hide (divR_some (r := 1) hk.ia.ne (bd_fits (inv_bd hk.ia) (by decide +kernel)))
  have HK := hide hk
  clear hk
  go_enter Tryz.func69, Tryz.ntmps69
  go_upto_region 1 with (fail)
  generalize hW : World.alloc w _ = v
  have HF := hide (show FS w v w.heap.size s by rw [← hW]; exact FS.mk0 hq _)
  obtain ⟨a0, a1, a2, a3, a4, a5, a6, a7, a8, a9⟩ := HF.out.ca
  clear hW hq
  go_upto_region 2 with (go_at_call 100; (with_reducible refine (sratio_any _ s l h a b M p f HF.out.q HK.out hp hf).mono ?_); rintro e w1 ⟨c, rfl, ho, hb⟩; have HO := hide ho; have HF1 := hide (HF.out.below hb); clear ho hb)
  generalize hW : World.alloc w1 _ = v2
  have HF2 := hide (show FS w v2 w.heap.size s by rw [← hW]; exact HF1.out.alloc _)
  have HQ7 := hide (show Bq v2 w1.heap.size c by rw [← hW]; exact Bq.mk0 _ c rfl)
  have HO7 := hide (show Fo v2 c (some (ratQ l h p f)) by rw [← hW]; exact HO.out.alloc _)
  obtain ⟨b7, hb7⟩ : ∃ b, b = w1.heap.size := ⟨_, rfl⟩
  rw [← hb7] at HQ7 ⊢
  clear hW hb7
  go_cut [8] from 8 to 32 (fun s8 wx => ∃ (g : Nat) (c : Fa), s8 = .pointer (some ⟨g, 0, none⟩) ∧ Hid (Bq wx g c) ∧ Hid (Fo wx c (some (1 / a))) ∧ Hid (Below v2.heap.size v2 wx))
  case first =>
    apply region_seqo 6 8 [15, 16, 17, 18, 14, 19, 20, 8] [fun x w => ∃ c : Fa, x = .agg #[.slice c.A c.n c.c, .slice c.B c.m c.d] ∧ Fo w c (some (1)), eqV _, eqV _, fun x w => ∃ c : Fa, x = .tuple #[.agg #[.slice c.A c.n c.c, .slice c.B c.m c.d], .int .i64 0] ∧ Fo w c (some (1 / a)), fun x w => ∃ c : Fa, x = .tuple #[.agg #[.slice c.A c.n c.c, .slice c.B c.m c.d], .int .i64 0] ∧ Fo w c (some (1 / a)), fun x w => ∃ c : Fa, x = .agg #[.slice c.A c.n c.c, .slice c.B c.m c.d] ∧ Fo w c (some (1 / a)), eqV _, fun x w => ∃ b : Nat, x = .pointer (some ⟨b, 0, none⟩) ∧ v2.heap.size ≤ b ∧ Bq w b fa0] [false, false, false, false, false, false, false, false] (by kernel_rfl) (by decide) (by decide) rfl rfl rfl (by decide) (by kernel_rfl) (by kernel_rfl) rfl ?stb1 ?steps1 ?fina1 ?finb1
    case stb1 => repeat' (first | exact trivial | apply stb_eq | (first | exact fun x w w' ⟨c, h1, h2⟩ hb => ⟨c, h1, h2.below hb⟩ | exact fun x w w' ⟨c, h1, h2, h3⟩ hb => ⟨c, h1, h2, h3.below hb⟩) | apply And.intro)
    case steps1 =>
      repeat' (first | exact trivial | apply And.intro)
      all_goals
        intro a' w' hbw hdf hoff hdep K hK
        have o3 := hoff 3 rfl
        (have HG := hide (HF2.out.below hbw); obtain ⟨y0, y1, y2, y3, y4, y5, y6, y7, y8, y9⟩ := HG.out.ca; have hvz := hbw.size)
        replace hdep := hdep _ rfl
        simp only [List.getElem_toArray, List.getElem_cons_succ, List.getElem_cons_zero, List.toList_toArray, depAll, binds_data, binds_chain, binds_guard, binds_phase, binds_text, binds_gc, cond_true, cond_false, true_and, getR, eqV, List.getD_cons_succ, List.getD_cons_zero, and_true] at hdep
        simp only [Nat.zero_add, Nat.reduceAdd, getR, eqV, List.getD_cons_succ, List.getD_cons_zero] at hK
        clear hoff hdf
        (first | (obtain ⟨⟨c1, e15, HO1⟩, e17, hdep⟩ : (∃ c : Fa, _) ∧ (_ = _) ∧ _ := hdep) | (obtain ⟨⟨c1, e24, HO1⟩, hdep⟩ : (∃ c : Fa, _) ∧ _ := hdep) | (obtain ⟨c1, e24, HO1⟩ : ∃ c : Fa, _ := hdep) | skip)
        first
          | (refine rg_unwanted rfl rfl rfl (b' := false) (by first | (simp [hdep]; done) | assumption) (by decide) ?_; exact hK _ _ rfl (Below.refl _ _) (by simp))
          | (refine rg_unwanted rfl rfl rfl (b' := true) (by first | (simp [hdep]; done) | assumption) (by decide) ?_; exact hK _ _ rfl (Below.refl _ _) (by simp))
          | (refine rg_wanted rfl rfl rfl (b' := true) (by first | (simp [hdep]; done) | assumption) rfl (fun K' hKK => ?_); go_wp2_with (first | (go_at_call 76; (with_reducible refine (swhole1_any _).mono ?_); rintro e w1 ⟨c, rfl, ho, hb⟩) | (go_at_call 101; (with_reducible refine (fdiv_o _ c1 s.a (some 1) (some a) HO1 (fo_of HG.out.q.a HK.out.fa)).mono ?_); rintro e w1 ⟨c, rfl, ho, hb⟩; rw [HD.out] at ho ⊢)); first | exact hK _ _ rfl (Below.refl _ _) (by simp) | (first | exact hK _ _ ⟨c, rfl, ho⟩ hb (by simp) | exact hK _ _ ⟨c1, rfl, HO1⟩ (Below.refl _ _) (by simp) | exact hK _ _ ⟨_, rfl, hvz, Bq.mk0 _ fa0 rfl⟩ ((Below.refl _ _).alloc (Nat.le_refl _) _) (by simp)))
          | (refine rg_wanted rfl rfl rfl (b' := false) (by first | (simp [hdep]; done) | assumption) rfl (fun K' hKK => ?_); go_wp2_with (first | (go_at_call 76; (with_reducible refine (swhole1_any _).mono ?_); rintro e w1 ⟨c, rfl, ho, hb⟩) | (go_at_call 101; (with_reducible refine (fdiv_o _ c1 s.a (some 1) (some a) HO1 (fo_of HG.out.q.a HK.out.fa)).mono ?_); rintro e w1 ⟨c, rfl, ho, hb⟩; rw [HD.out] at ho ⊢)); first | exact hK _ _ rfl (Below.refl _ _) (by simp) | (first | exact hK _ _ ⟨c, rfl, ho⟩ hb (by simp) | exact hK _ _ ⟨c1, rfl, HO1⟩ (Below.refl _ _) (by simp) | exact hK _ _ ⟨_, rfl, hvz, Bq.mk0 _ fa0 rfl⟩ ((Below.refl _ _).alloc (Nat.le_refl _) _) (by simp)))
          | (refine rg_free rfl rfl (fun K' hKK => ?_); fail)
          | (refine rg_free rfl rfl (fun K' hKK => ?_); go_wp2_with (first | (go_at_call 76; (with_reducible refine (swhole1_any _).mono ?_); rintro e w1 ⟨c, rfl, ho, hb⟩) | (go_at_call 101; (with_reducible refine (fdiv_o _ c1 s.a (some 1) (some a) HO1 (fo_of HG.out.q.a HK.out.fa)).mono ?_); rintro e w1 ⟨c, rfl, ho, hb⟩; rw [HD.out] at ho ⊢)); first | exact hK _ _ rfl (Below.refl _ _) (by simp) | (first | exact hK _ _ ⟨c, rfl, ho⟩ hb (by simp) | exact hK _ _ ⟨c1, rfl, HO1⟩ (Below.refl _ _) (by simp) | exact hK _ _ ⟨_, rfl, hvz, Bq.mk0 _ fa0 rfl⟩ ((Below.refl _ _).alloc (Nat.le_refl _) _) (by simp)))
    all_goals
      intro w' hbw
      repeat (first | refine fin_eq ?_ | refine fin_any (fun x hx => ?_))
      rename_i x15 h15 x16 h16
      obtain ⟨c5, rfl, -⟩ := h15
      obtain ⟨q, rfl, ho⟩ := h16
      obtain ⟨g, rfl, hg, hq⟩ := hx
      have HO := hide ho
      have HQ := hide hq
      have HBW := hide hbw
      have hrel := hide (show ∃ (g' : Nat) (c' : Fa), Value.pointer (some ⟨g, 0, none⟩) = .pointer (some ⟨g', 0, none⟩) ∧ Hid (Bq ((w'.setCell ⟨g, 0, none⟩ (.slice q.A q.n q.c)).setCell ⟨g, 1, none⟩ (.slice q.B q.m q.d)) g' c') ∧ Hid (Fo ((w'.setCell ⟨g, 0, none⟩ (.slice q.A q.n q.c)).setCell ⟨g, 1, none⟩ (.slice q.B q.m q.d)) c' (some (1 / a))) ∧ Hid (Below v2.heap.size v2 ((w'.setCell ⟨g, 0, none⟩ (.slice q.A q.n q.c)).setCell ⟨g, 1, none⟩ (.slice q.B q.m q.d))) from
        ⟨g, q, rfl, hide (HQ.out.fill q), hide (HO.out.fill HQ.out q), hide (Rb.end0 HBW.out hg _ _)⟩)
      obtain ⟨c0, c1, cf, cz, -⟩ := HQ.out
      clear ho hq hbw
      refine fin_nil ?_
      simp only [List.setIfInBounds_toArray, List.set_cons_succ, List.set_cons_zero]
    · skip
      refine wpAny_one (i := 8) (by kernel_rfl) ?_
      refine rg_free rfl rfl (fun K' hKK => ?_)
      go_wp2_with fail
      refine wpAny_one (i := 9) (by kernel_rfl) ?_
      refine rg_free rfl rfl (fun K' hKK => ?_)
      go_wp2_with fail
      refine wpAny_done (by kernel_rfl) ?_ _
      go_wp2_with fail
      go_meet
      case rel => exact hrel.out
    · skip
      refine wpAny_two (i := 6) (j := 8) (by kernel_rfl) ?_ ?_
      · skip
        refine rg_free rfl rfl (fun K' hKK => ?_)
        go_wp2_with fail
        refine wpAny_one (i := 8) (by kernel_rfl) ?_
        refine rg_free rfl rfl (fun K' hKK => ?_)
        go_wp2_with fail
        refine wpAny_one (i := 9) (by kernel_rfl) ?_
        refine rg_free rfl rfl (fun K' hKK => ?_)
        go_wp2_with fail
        refine wpAny_done (by kernel_rfl) ?_ _
        go_wp2_with fail
        go_meet
        case rel => exact hrel.out
      · skip
        refine rg_free rfl rfl (fun K' hKK => ?_)
        go_wp2_with fail
        refine wpAny_one (i := 6) (by kernel_rfl) ?_
        refine rg_free rfl rfl (fun K' hKK => ?_)
        go_wp2_with fail
        refine wpAny_one (i := 9) (by kernel_rfl) ?_
        refine rg_free rfl rfl (fun K' hKK => ?_)
        go_wp2_with fail
        refine wpAny_done (by kernel_rfl) ?_ _
        go_wp2_with fail
        go_meet
        case rel => exact hrel.out
  case rest =>
    obtain ⟨g, c8, rfl, HQ, HO8, HB8⟩ := hcut
    have HF3 := hide (HF2.out.below HB8.out)
    have HQ3 := hide (HQ7.out.below HB8.out)
    have HO3 := hide (HO7.out.below HB8.out)
    obtain ⟨c0, c1, cf, cz, -⟩ := HQ.out
    obtain ⟨d0, d1, df, dz, -⟩ := HQ3.out
    obtain ⟨e0, e1, e2, e3, e4, e5, e6, e7, e8, e9⟩ := HF3.out.ca
    by_cases h1 : 1 / a ≤ ratQ l h p f
    · have g1 : decide (0 ≤ cmpO (some (ratQ l h p f)) (some (1 / a))) = true := decide_eq_true (cmpQ_ge.2 h1)
      have HX := hide (show decQ l h a b p f = 2 from if_pos h1)
      clear h1
      go_wp2_with (go_at_call 71; (with_reducible refine (fcmp_o _ c c8 _ _ HO3.out HO8.out).mono ?_); rintro e w3 ⟨rfl, hb⟩; have HB3 := hide (HF3.out.bw.trans (hb.mono HF3.out.bw.size)); clear hb)
      refine bodyPost_ret (v := .int .i64 2) (by simp [results, Tryz.results69, go_sem, *]) rfl ⟨by rw [HX.out], HB3.out⟩
    · have g1 : decide (0 ≤ cmpO (some (ratQ l h p f)) (some (1 / a))) = false := decide_eq_false (fun h => h1 (cmpQ_ge.1 h))
      have HX0 := hide (show decQ l h a b p f = if ratQ l h p f ≤ b then 1 else 0 from if_neg h1)
      clear h1
      by_cases h2 : ratQ l h p f ≤ b
      · have g2 : decide (cmpO (some (ratQ l h p f)) (some b) ≤ 0) = true := decide_eq_true (cmpQ_le.2 h2)
        have HX := hide (show decQ l h a b p f = 1 by rw [HX0.out, if_pos h2])
        clear h2 HX0
        go_wp2_with (first
          | (go_at_call 71; (with_reducible refine (fcmp_o _ c c8 _ _ HO3.out HO8.out).mono ?_); rintro e w3 ⟨rfl, hb⟩; have HF4 := hide (HF3.out.below hb); have HQ4 := hide (HQ3.out.below hb); have HO4 := hide (HO3.out.below hb); obtain ⟨k0, k1, kf, kz, -⟩ := HQ4.out; obtain ⟨f0, f1, f2, f3, f4, f5, f6, f7, f8, f9⟩ := HF4.out.ca; clear hb)
          | (go_at_call 71; (with_reducible refine (fcmp_o _ c s.b _ (some b) HO4.out (fo_of HF4.out.q.b HK.out.fb)).mono ?_); rintro e w4 ⟨rfl, hb⟩; have HB3 := hide (HF4.out.bw.trans (hb.mono HF4.out.bw.size)); clear hb))
        refine bodyPost_ret (v := .int .i64 1) (by simp [results, Tryz.results69, go_sem, *]) rfl ⟨by rw [HX.out], HB3.out⟩
      · have g2 : decide (cmpO (some (ratQ l h p f)) (some b) ≤ 0) = false := decide_eq_false (fun h => h2 (cmpQ_le.1 h))
        have HX := hide (show decQ l h a b p f = 0 by rw [HX0.out, if_neg h2])
        clear h2 HX0
        go_wp2_with (first
          | (go_at_call 71; (with_reducible refine (fcmp_o _ c c8 _ _ HO3.out HO8.out).mono ?_); rintro e w3 ⟨rfl, hb⟩; have HF4 := hide (HF3.out.below hb); have HQ4 := hide (HQ3.out.below hb); have HO4 := hide (HO3.out.below hb); obtain ⟨k0, k1, kf, kz, -⟩ := HQ4.out; obtain ⟨f0, f1, f2, f3, f4, f5, f6, f7, f8, f9⟩ := HF4.out.ca; clear hb)
          | (go_at_call 71; (with_reducible refine (fcmp_o _ c s.b _ (some b) HO4.out (fo_of HF4.out.q.b HK.out.fb)).mono ?_); rintro e w4 ⟨rfl, hb⟩; have HB3 := hide (HF4.out.bw.trans (hb.mono HF4.out.bw.size)); clear hb))
        refine bodyPost_ret (v := .int .i64 0) (by simp [results, Tryz.results69, go_sem, *]) rfl ⟨by rw [HX.out], HB3.out⟩
set_option maxRecDepth 100000 in
set_option maxHeartbeats 8000000 in
theorem sdecide_ok (w : World) (s : Sv) (l h a b : Rat) (M p f : Nat) (hq : SQ w s) (hk : OKs s l h a b M) (hpf : p + f ≤ M) :
    Calls Tryz.prog 36 #[.agg #[.slice s.l.A s.l.n s.l.c, .slice s.l.B s.l.m s.l.d, .slice s.h.A s.h.n s.h.c, .slice s.h.B s.h.m s.h.d, .slice s.a.A s.a.n s.a.c, .slice s.a.B s.a.m s.a.d, .slice s.b.A s.b.n s.b.c, .slice s.b.B s.b.m s.b.d, .int .i64 s.m], .int .i64 (p : Int), .int .i64 (f : Int)] w fun e w' => e = .returned (.tuple #[.int .i64 (decQ l h a b p f), .int .i64 0]) ∧ Below w.heap.size w w' := by
  have hm := hk.m
  have hm2 := hk.m2
  have HC := hide (show cntE s p f = 0 by
    unfold cntE
    rw [if_neg (by rw [hk.ok]; simp), if_neg (by omega)])
  have HK := hide hk
  have hp32 : p ≤ 32 := by omega
  have hf32 : f ≤ 32 := by omega
  clear hk hm hm2 hpf
  go_enter Tryz.func36, Tryz.ntmps36
  go_upto_region 1 with (fail)
  generalize hW : World.alloc w _ = v
  have HF := hide (show FS w v w.heap.size s by rw [← hW]; exact FS.mk0 hq _)
  obtain ⟨a0, a1, a2, a3, a4, a5, a6, a7, a8, a9⟩ := HF.out.ca
  clear hW hq
  go_wp2_with (first
    | (go_at_call 68; (with_reducible refine (scounts_any _ s p f HF.out.q).mono ?_); rintro e w1 ⟨rfl, hb⟩; rw [HC.out]; have HF1 := hide (HF.out.below hb); obtain ⟨b0, b1, b2, b3, b4, b5, b6, b7, b8, b9⟩ := HF1.out.ca; clear hb)
    | (go_at_call 69; (with_reducible refine (sdec_any _ s l h a b M p f HF1.out.q HK.out hp32 hf32).mono ?_); rintro e w2 ⟨rfl, hb⟩; have HF2 := hide (HF1.out.below hb); clear hb))
  refine bodyPost_ret (v := .tuple #[.int .i64 (decQ l h a b p f), .int .i64 0]) (by simp [results, Tryz.results36, go_sem, *]) rfl ⟨rfl, HF2.out.bw⟩
end Go.Proofs.YtnokfhkcfebimaaGreat

/- Contract: sequential.Limits. -/
namespace Go.Proofs.YtnokfhkcfebimaaGreat
open Go.RowKit

end Go.Proofs.YtnokfhkcfebimaaGreat

/- Contracts: noise.Sequence. -/
namespace Go.Proofs.YtnokfhkcfebimaaGreat
open Go.RowKit

def bv (b : Bool) : List Value := [.bool b]
/-- The chance of outcomes in an order. -/
def sqF (r acc : Rat) (l : List Bool) : Rat := l.foldl (fun acc b => acc * (if b then r else 1 - r)) acc
def sqL (r : Rat) (l : List Bool) : Rat := sqF r 1 l
/-- The loop's state. -/
structure SS (w wr : World) (a : Fa) (l k : List Nat) (r : Rat) (b6 b7 : Nat) (c6 c7 : Fa) (acc : Rat) : Prop where
  f1 : F1 w wr a l k
  x6 : Fx wr b6 c6 (some acc)
  x7 : Fx wr b7 c7 (some (1 - r))
  d : b7 ≠ b6
  g : w.heap.size + 1 < b6
def RSq (B : Nat) (a : Fa) (r : Rat) : Nat → Value → World → Prop
  | 0, x, W => ∃ c : Fa, x = .agg #[.slice c.A c.n c.c, .slice c.B c.m c.d] ∧ Fo W c (some 1)
  | 1, x, _ => x = .agg #[.slice a.A a.n a.c, .slice a.B a.m a.d]
  | 2, x, W => ∃ c : Fa, x = .agg #[.slice c.A c.n c.c, .slice c.B c.m c.d] ∧ Fo W c (some (1 - r))
  | 3, x, W => ∃ b, x = .pointer (some ⟨b, 0, none⟩) ∧ B ≤ b ∧ Bq W b fa0
  | 4, x, W => ∃ b, x = .pointer (some ⟨b, 0, none⟩) ∧ B ≤ b ∧ Bq W b fa0
  | _, _, _ => True
/-- What Sequence returns. -/
def seqR (o : Option Rat) (l : List Bool) : Option Rat × Int :=
  if chO o = true then (if 32 < l.length then (none, 2) else match o with | some r => (some (sqL r l), 0) | none => (none, 41)) else (none, 41)
end Go.Proofs.YtnokfhkcfebimaaGreat

/- Contract: sequential.Run. -/
namespace Go.Proofs.YtnokfhkcfebimaaGreat
open Go.RowKit

theorem dec00 {s : Sv} {l h a b : Rat} {M : Nat} (hk : OKs s l h a b M) : decQ l h a b 0 0 = 0 := by
  have e : ratQ l h 0 0 = 1 := by
    unfold ratQ
    rw [Rat.pow_zero, Rat.pow_zero]
    decide +kernel
  have h1 : ¬ 1 / a ≤ 1 := by
    intro h2
    have h3 := Rat.mul_le_mul_of_nonneg_right h2 (Rat.le_of_lt hk.ia.p)
    rw [Rat.div_mul_cancel hk.ia.ne, Rat.one_mul] at h3
    exact absurd hk.ia.q (Rat.not_lt.2 h3)
  have h2 : ¬ (1 : Rat) ≤ b := Rat.not_le.2 hk.ib.q
  unfold decQ
  rw [e, if_neg h1, if_neg h2]
/-- How many outcomes may be taken. -/
def cutL (outs : List Bool) (M : Nat) : List Bool := outs.take (min outs.length M)
end Go.Proofs.YtnokfhkcfebimaaGreat

/- A box whose cells are set; the tape's Chance beside limbs; contract: the law's spec. -/
namespace Go.Proofs.YtnokfhkcfebimaaGreat
open Go.RowKit

theorem Cb.put {v : World} {g : Nat} {cs : List Value} (h : Cb v g cs) (i : Nat) (x : Value) (hi : i < cs.length) (hx : ∀ k, x ≠ .int .u32 k) : Cb (v.setCell ⟨g, i, none⟩ x) g (cs.set i x) := by
  have hs := h.sz
  have hci := h.cell i _ (List.getElem?_eq_getElem hi)
  refine ⟨fun j y hy => ?_, fun j => by have := h.fz j; simp [go_sem, *], by simpa using hs, h.nb.put i hx⟩
  by_cases hj : j = i
  · subst hj
    rw [List.getElem?_set_self hi] at hy
    injection hy with hy
    subst hy
    simp [go_sem, hci]
  · rw [List.getElem?_set_ne (fun e => hj e.symm)] at hy
    rw [World.cell?_setCell_other _ _ _ _ (by intro h; injection h; omega)]
    exact h.cell j y hy
theorem chancetp_any (w : World) (T : Nat) (A : Option Addr) (n c : Nat) (l : List Int) (a : Nat) (M N : Int) (hT : Tp w T A n c l a) (ha : a ≤ 4294967296) (hN : N ≤ 4294967296) :
    Calls Tryz.prog 41 #[.pointer (some ⟨T, 0, none⟩), .int .i64 M, .int .i64 N] w fun e w' => e = .returned (.bool (decide (tapeV l a N < M))) ∧ Tp w' T A n c l (a + 1) ∧ Fr w w' (fun b => b = T) := by
  go_enter Tryz.func41, Tryz.ntmps41
  go_wp2_with (go_at_call 24; refine (nextp_any _ T A n c l a N hT ha hN).mono ?_; rintro e w1 ⟨rfl, ht1, hf1⟩)
  go_ret
  exact ⟨rfl, ht1, hf1⟩
/-- The cells of a specification not yet filled. -/
def z9 : List Value := [.slice none 0 0, .slice none 0 0, .slice none 0 0, .slice none 0 0, .slice none 0 0, .slice none 0 0, .slice none 0 0, .slice none 0 0, .int .i64 0]
/-- A specification in the making: the tape, the result's box, its box. -/
structure SpS (w0 v : World) (T : Nat) (A : Option Addr) (n c : Nat) (l : List Int) (a g0 g1 : Nat) (s : Sv) : Prop where
  tp : Tp v T A n c l a
  r : Cb v g0 z9
  b : Cb v g1 s.cs
  q : SQ v s
  fr : Fr w0 v (fun b => b = T)
section
variable {w0 v v' : World} {T n c a g0 g1 : Nat} {A : Option Addr} {l : List Int} {s s' : Sv}
theorem SQ.one {g : Nat} (h : SQ v s) (hf : Fr v v' (fun b => b = g)) (hg : NB v g) : SQ v' s := ⟨h.l.one hf hg, h.h.one hf hg, h.a.one hf hg, h.b.one hf hg⟩
theorem SpS.below (h : SpS w0 v T A n c l a g0 g1 s) (hb : Below v.heap.size v v') : SpS w0 v' T A n c l a g0 g1 s := ⟨h.tp.below hb, h.r.below hb, h.b.below hb, h.q.below hb, h.fr.below_ hb⟩
theorem SpS.tape (h : SpS w0 v T A n c l a g0 g1 s) {a' : Nat} (hp : Tp v' T A n c l a') (hf : Fr v v' (fun b => b = T)) (h0 : g0 ≠ T) (h1 : g1 ≠ T) : SpS w0 v' T A n c l a' g0 g1 s :=
  ⟨hp, h.r.one hf h0, h.b.one hf h1, h.q.one hf h.tp.nb, h.fr.trans hf⟩
theorem SpS.put (h : SpS w0 v T A n c l a g0 g1 s) {t0 : World} {a0 : Nat} (hp0 : Tp t0 T A n c l a0) (hg1 : t0.heap.size ≤ g1) (h01 : g0 ≠ g1) (hf : Fr v v' (fun b => b = g1)) (hb : Cb v' g1 s'.cs) (hq : SQ v' s') (hw : w0.heap.size ≤ g1) : SpS w0 v' T A n c l a g0 g1 s' :=
  ⟨hp0.one h.tp hg1 hf, h.r.one hf h01, hb, hq, h.fr.step hf (fun i hi e => by omega)⟩
end
end Go.Proofs.YtnokfhkcfebimaaGreat

/- Contract: the maker of specifications of the sequential laws. -/
namespace Go.Proofs.YtnokfhkcfebimaaGreat
open Go.RowKit

theorem fr4 {w : World} {g : Nat} (i j k m : Nat) (a b c d : Value) : Fr w ((((w.setCell ⟨g, i, none⟩ a).setCell ⟨g, j, none⟩ b).setCell ⟨g, k, none⟩ c).setCell ⟨g, m, none⟩ d) (fun x => x = g) := by
  refine Fr.setCell (Fr.setCell (Fr.setCell (Fr.setCell (Fr.refl _ _) ?_ _) ?_ _) ?_ _) ?_ _ <;> exact Or.inr (by rfl)
theorem fr9 {w : World} {g : Nat} (x0 x1 x2 x3 x4 x5 x6 x7 x8 : Value) : Fr w (((((((((w.setCell ⟨g, 0, none⟩ x0).setCell ⟨g, 1, none⟩ x1).setCell ⟨g, 2, none⟩ x2).setCell ⟨g, 3, none⟩ x3).setCell ⟨g, 4, none⟩ x4).setCell ⟨g, 5, none⟩ x5).setCell ⟨g, 6, none⟩ x6).setCell ⟨g, 7, none⟩ x7).setCell ⟨g, 8, none⟩ x8) (fun x => x = g) := by
  refine Fr.setCell (Fr.setCell (Fr.setCell (Fr.setCell (Fr.setCell (Fr.setCell (Fr.setCell (Fr.setCell (Fr.setCell (Fr.refl _ _) ?_ _) ?_ _) ?_ _) ?_ _) ?_ _) ?_ _) ?_ _) ?_ _) ?_ _ <;> exact Or.inr (by rfl)
theorem fr1 {w : World} {g : Nat} (i : Nat) (a : Value) : Fr w (w.setCell ⟨g, i, none⟩ a) (fun x => x = g) := by
  refine Fr.setCell (Fr.refl _ _) ?_ _; exact Or.inr (by rfl)
/-- What the maker returns. -/
def MkS (w : World) (T : Nat) (A : Option Addr) (n c : Nat) (l : List Int) (a most : Nat) (e : Ending) (w' : World) : Prop :=
  ∃ (s : Sv) (lo hi al be : Rat) (M b : Nat), e = .returned (.agg #[.slice s.l.A s.l.n s.l.c, .slice s.l.B s.l.m s.l.d, .slice s.h.A s.h.n s.h.c, .slice s.h.B s.h.m s.h.d, .slice s.a.A s.a.n s.a.c, .slice s.a.B s.a.m s.a.d, .slice s.b.A s.b.n s.b.c, .slice s.b.B s.b.m s.b.d, .int .i64 s.m]) ∧ SQ w' s ∧ OKs s lo hi al be M ∧ M ≤ most ∧ Tp w' T A n c l b ∧ b ≤ a + 12 ∧ Fr w w' (fun b => b = T)
theorem lt_tr {a b c : Rat} (h : a < b) (k : b < c) : a < c := Rat.not_le.1 (fun h2 => Rat.not_lt.2 (Rat.le_trans h2 (Rat.le_of_lt h)) k)
theorem small1_any (w : World) (d : Nat) (h : 1 ≤ d) (h2 : d ≤ 1000) : Calls Tryz.prog 25 #[.int .i64 1, .int .i64 (d : Int)] w fun e w' => Ret1 w (some (mkRat ((1 : Nat) : Int) d)) e w' := small_any w 1 d (by omega) (by omega) (by omega)
def sv0 : Sv := ⟨fa0, fa0, fa0, fa0, 0, [], [], [], [], [], [], [], []⟩
theorem fq0 (w : World) : Fq w fa0 [] [] := ⟨Ul.nil, Ul.nil, Nat.le_refl _, Nat.le_refl _, by simp, by simp⟩
theorem inn_mk {d : Nat} (h2 : 2 ≤ d) (h3 : d ≤ 1000) : Inn (mkRat ((1 : Nat) : Int) d) := ⟨mk_chn (by omega) (by omega) h3, mk_pos (by omega) (by omega), mk_lt1 (by omega) (by omega)⟩
end Go.Proofs.YtnokfhkcfebimaaGreat

/- Contracts: the sequential laws' example and known. -/
namespace Go.Proofs.YtnokfhkcfebimaaGreat
open Go.RowKit

theorem sm10 (w : World) : Calls Tryz.prog 25 #[.int .i64 1, .int .i64 10] w fun e w' => Ret1 w (some (mkRat 1 10)) e w' := small_any w 1 10 (by omega) (by omega) (by omega)
theorem sm2 (w : World) : Calls Tryz.prog 25 #[.int .i64 1, .int .i64 2] w fun e w' => Ret1 w (some (mkRat 1 2)) e w' := small_any w 1 2 (by omega) (by omega) (by omega)
theorem sm20 (w : World) : Calls Tryz.prog 25 #[.int .i64 1, .int .i64 20] w fun e w' => Ret1 w (some (mkRat 1 20)) e w' := small_any w 1 20 (by omega) (by omega) (by omega)
theorem inn10 : Inn (mkRat 1 10) := inn_mk (d := 10) (by omega) (by omega)
theorem inn2 : Inn (mkRat 1 2) := inn_mk (d := 2) (by omega) (by omega)
theorem inn20 : Inn (mkRat 1 20) := inn_mk (d := 20) (by omega) (by omega)
abbrev OKex (s : Sv) : Prop := OKs s (mkRat 1 10) (mkRat 1 2) (mkRat 1 20) (mkRat 1 10) 10
end Go.Proofs.YtnokfhkcfebimaaGreat
