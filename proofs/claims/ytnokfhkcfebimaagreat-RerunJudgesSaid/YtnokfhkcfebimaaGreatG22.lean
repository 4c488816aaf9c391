/- Contracts of the functions that these laws reach: part 22: Contracts: counts, the program's and the reference's; Contracts: sequential.Ratio, decide, Decide; Contracts: sequential.decide, Decide; Contract: sequential.Limits. -/
import Derived.Test.YtnokfhkcfebimaaGreatG21
set_option linter.unusedVariables false
set_option linter.unusedSimpArgs false

/- Contracts: counts, the program's and the reference's. -/
namespace Go.Proofs.YtnokfhkcfebimaaGreat
open Go.RowKit

theorem scheckv_any (w : World) (s : Sv) (hq : SQ w s) : Calls Tryz.prog 42 #[.agg #[.slice s.l.A s.l.n s.l.c, .slice s.l.B s.l.m s.l.d, .slice s.h.A s.h.n s.h.c, .slice s.h.B s.h.m s.h.d, .slice s.a.A s.a.n s.a.c, .slice s.a.B s.a.m s.a.d, .slice s.b.A s.b.n s.b.c, .slice s.b.B s.b.m s.b.d, .int .i64 s.m]] w fun e w' => e = .returned (.bool s.ok) ∧ Below w.heap.size w w' := scheck_any w s hq
theorem qcheckv_any (w : World) (s : Sv) (hq : SQ w s) : Calls Tryz.prog 45 #[.agg #[.slice s.l.A s.l.n s.l.c, .slice s.l.B s.l.m s.l.d, .slice s.h.A s.h.n s.h.c, .slice s.h.B s.h.m s.h.d, .slice s.a.A s.a.n s.a.c, .slice s.a.B s.a.m s.a.d, .slice s.b.A s.b.n s.b.c, .slice s.b.B s.b.m s.b.d, .int .i64 s.m]] w fun e w' => e = .returned (.bool s.ok) ∧ Below w.heap.size w w' := qcheck23_any w s hq
/-- The first error of counts. -/
def cntE (s : Sv) (p f : Int) : Int := if s.ok = false then 1 else if p < 0 ∨ f < 0 ∨ s.m < p ∨ s.m < f ∨ s.m < p + f then 3 else 0
set_option maxRecDepth 100000 in
set_option maxHeartbeats 8000000 in
theorem scounts_any (w : World) (s : Sv) (p f : Int) (hq : SQ w s) :
    Calls Tryz.prog 68 #[.agg #[.slice s.l.A s.l.n s.l.c, .slice s.l.B s.l.m s.l.d, .slice s.h.A s.h.n s.h.c, .slice s.h.B s.h.m s.h.d, .slice s.a.A s.a.n s.a.c, .slice s.a.B s.a.m s.a.d, .slice s.b.A s.b.n s.b.c, .slice s.b.B s.b.m s.b.d, .int .i64 s.m], .int .i64 p, .int .i64 f] w fun e w' => e = .returned (.int .i64 (cntE s p f)) ∧ Below w.heap.size w w' := by
  rcases h0 : s.ok
  · have H0 := hide h0
    have HX := hide (show cntE s p f = 1 by unfold cntE; rw [if_pos h0])
    clear h0
    go_enter Tryz.func68, Tryz.ntmps68
    go_upto_region 1 with (fail)
    generalize hW : World.alloc w _ = v
    have HF := hide (show FS w v w.heap.size s by rw [← hW]; exact FS.mk0 hq _)
    obtain ⟨a0, a1, a2, a3, a4, a5, a6, a7, a8, a9⟩ := HF.out.ca
    clear hW hq
    go_wp2_with (go_at_call 42; (with_reducible refine (scheckv_any _ s HF.out.q).mono ?_); rintro e w1 ⟨rfl, hb⟩; rw [H0.out]; have HF1 := hide (HF.out.below hb); obtain ⟨b0, b1, b2, b3, b4, b5, b6, b7, b8, b9⟩ := HF1.out.ca; clear hb)
    refine bodyPost_ret (v := .int .i64 1) (by simp [results, Tryz.results68, go_sem, *]) rfl ⟨by rw [HX.out], HF1.out.bw⟩
  have H0 := hide h0
  have hok : ¬ s.ok = false := by rw [h0]; simp
  have HY := hide (show cntE s p f = if p < 0 ∨ f < 0 ∨ s.m < p ∨ s.m < f ∨ s.m < p + f then 3 else 0 by unfold cntE; rw [if_neg hok])
  have hm32 : s.m ≤ 32 := by
    obtain ⟨l, h, a, b, M, hk⟩ := Sv.ok_some h0
    have h1 := hk.m
    have h2 := hk.m2
    omega
  clear h0 hok
  by_cases h1 : p < 0
  · have HX := hide (show cntE s p f = 3 by rw [HY.out, if_pos (by omega)])
    have g1 : decide (p < 0) = true := decide_eq_true h1
    clear HY h1
    go_enter Tryz.func68, Tryz.ntmps68
    go_upto_region 1 with (fail)
    generalize hW : World.alloc w _ = v
    have HF := hide (show FS w v w.heap.size s by rw [← hW]; exact FS.mk0 hq _)
    obtain ⟨a0, a1, a2, a3, a4, a5, a6, a7, a8, a9⟩ := HF.out.ca
    clear hW hq
    go_wp2_with (go_at_call 42; (with_reducible refine (scheckv_any _ s HF.out.q).mono ?_); rintro e w1 ⟨rfl, hb⟩; rw [H0.out]; have HF1 := hide (HF.out.below hb); obtain ⟨b0, b1, b2, b3, b4, b5, b6, b7, b8, b9⟩ := HF1.out.ca; clear hb)
    refine bodyPost_ret (v := .int .i64 3) (by simp [results, Tryz.results68, go_sem, *]) rfl ⟨by rw [HX.out], HF1.out.bw⟩
  have g1 : decide (p < 0) = false := decide_eq_false h1
  by_cases h2 : f < 0
  · have HX := hide (show cntE s p f = 3 by rw [HY.out, if_pos (by omega)])
    have g2 : decide (f < 0) = true := decide_eq_true h2
    clear HY h2
    go_enter Tryz.func68, Tryz.ntmps68
    go_upto_region 1 with (fail)
    generalize hW : World.alloc w _ = v
    have HF := hide (show FS w v w.heap.size s by rw [← hW]; exact FS.mk0 hq _)
    obtain ⟨a0, a1, a2, a3, a4, a5, a6, a7, a8, a9⟩ := HF.out.ca
    clear hW hq
    go_wp2_with (go_at_call 42; (with_reducible refine (scheckv_any _ s HF.out.q).mono ?_); rintro e w1 ⟨rfl, hb⟩; rw [H0.out]; have HF1 := hide (HF.out.below hb); obtain ⟨b0, b1, b2, b3, b4, b5, b6, b7, b8, b9⟩ := HF1.out.ca; clear hb)
    refine bodyPost_ret (v := .int .i64 3) (by simp [results, Tryz.results68, go_sem, *]) rfl ⟨by rw [HX.out], HF1.out.bw⟩
  have g2 : decide (f < 0) = false := decide_eq_false h2
  by_cases h3 : s.m < p
  · have HX := hide (show cntE s p f = 3 by rw [HY.out, if_pos (by omega)])
    have g3 : decide (s.m < p) = true := decide_eq_true h3
    clear HY h3
    go_enter Tryz.func68, Tryz.ntmps68
    go_upto_region 1 with (fail)
    generalize hW : World.alloc w _ = v
    have HF := hide (show FS w v w.heap.size s by rw [← hW]; exact FS.mk0 hq _)
    obtain ⟨a0, a1, a2, a3, a4, a5, a6, a7, a8, a9⟩ := HF.out.ca
    clear hW hq
    go_wp2_with (go_at_call 42; (with_reducible refine (scheckv_any _ s HF.out.q).mono ?_); rintro e w1 ⟨rfl, hb⟩; rw [H0.out]; have HF1 := hide (HF.out.below hb); obtain ⟨b0, b1, b2, b3, b4, b5, b6, b7, b8, b9⟩ := HF1.out.ca; clear hb)
    refine bodyPost_ret (v := .int .i64 3) (by simp [results, Tryz.results68, go_sem, *]) rfl ⟨by rw [HX.out], HF1.out.bw⟩
  have g3 : decide (s.m < p) = false := decide_eq_false h3
  by_cases h4 : s.m < f
  · have HX := hide (show cntE s p f = 3 by rw [HY.out, if_pos (by omega)])
    have g4 : decide (s.m < f) = true := decide_eq_true h4
    clear HY h4
    go_enter Tryz.func68, Tryz.ntmps68
    go_upto_region 1 with (fail)
    generalize hW : World.alloc w _ = v
    have HF := hide (show FS w v w.heap.size s by rw [← hW]; exact FS.mk0 hq _)
    obtain ⟨a0, a1, a2, a3, a4, a5, a6, a7, a8, a9⟩ := HF.out.ca
    clear hW hq
    go_wp2_with (go_at_call 42; (with_reducible refine (scheckv_any _ s HF.out.q).mono ?_); rintro e w1 ⟨rfl, hb⟩; rw [H0.out]; have HF1 := hide (HF.out.below hb); obtain ⟨b0, b1, b2, b3, b4, b5, b6, b7, b8, b9⟩ := HF1.out.ca; clear hb)
    refine bodyPost_ret (v := .int .i64 3) (by simp [results, Tryz.results68, go_sem, *]) rfl ⟨by rw [HX.out], HF1.out.bw⟩
  have g4 : decide (s.m < f) = false := decide_eq_false h4
  by_cases h5 : s.m < p + f
  · have HX := hide (show cntE s p f = 3 by rw [HY.out, if_pos (by omega)])
    have g5 : decide (s.m < p + f) = true := decide_eq_true h5
    clear HY h5
    go_enter Tryz.func68, Tryz.ntmps68
    go_upto_region 1 with (fail)
    generalize hW : World.alloc w _ = v
    have HF := hide (show FS w v w.heap.size s by rw [← hW]; exact FS.mk0 hq _)
    obtain ⟨a0, a1, a2, a3, a4, a5, a6, a7, a8, a9⟩ := HF.out.ca
    clear hW hq
    go_wp2_with (go_at_call 42; (with_reducible refine (scheckv_any _ s HF.out.q).mono ?_); rintro e w1 ⟨rfl, hb⟩; rw [H0.out]; have HF1 := hide (HF.out.below hb); obtain ⟨b0, b1, b2, b3, b4, b5, b6, b7, b8, b9⟩ := HF1.out.ca; clear hb)
    refine bodyPost_ret (v := .int .i64 3) (by simp [results, Tryz.results68, go_sem, *]) rfl ⟨by rw [HX.out], HF1.out.bw⟩
  have g5 : decide (s.m < p + f) = false := decide_eq_false h5
  have HX := hide (show cntE s p f = 0 by rw [HY.out, if_neg (by omega)])
  clear HY
  go_enter Tryz.func68, Tryz.ntmps68
  go_upto_region 1 with (fail)
  generalize hW : World.alloc w _ = v
  have HF := hide (show FS w v w.heap.size s by rw [← hW]; exact FS.mk0 hq _)
  obtain ⟨a0, a1, a2, a3, a4, a5, a6, a7, a8, a9⟩ := HF.out.ca
  clear hW hq
  go_wp2_with (go_at_call 42; (with_reducible refine (scheckv_any _ s HF.out.q).mono ?_); rintro e w1 ⟨rfl, hb⟩; rw [H0.out]; have HF1 := hide (HF.out.below hb); obtain ⟨b0, b1, b2, b3, b4, b5, b6, b7, b8, b9⟩ := HF1.out.ca; clear hb)
  refine bodyPost_ret (v := .int .i64 0) (by simp [results, Tryz.results68, go_sem, *]) rfl ⟨by rw [HX.out], HF1.out.bw⟩

set_option maxRecDepth 100000 in
set_option maxHeartbeats 8000000 in
theorem qcounts_any (w : World) (s : Sv) (p f : Int) (hq : SQ w s) :
    Calls Tryz.prog 145 #[.agg #[.slice s.l.A s.l.n s.l.c, .slice s.l.B s.l.m s.l.d, .slice s.h.A s.h.n s.h.c, .slice s.h.B s.h.m s.h.d, .slice s.a.A s.a.n s.a.c, .slice s.a.B s.a.m s.a.d, .slice s.b.A s.b.n s.b.c, .slice s.b.B s.b.m s.b.d, .int .i64 s.m], .int .i64 p, .int .i64 f] w fun e w' => e = .returned (.int .i64 (cntE s p f)) ∧ Below w.heap.size w w' := by
  rcases h0 : s.ok
  · have H0 := hide h0
    have HX := hide (show cntE s p f = 1 by unfold cntE; rw [if_pos h0])
    clear h0
    go_enter Tryz.func145, Tryz.ntmps145
    go_upto_region 1 with (fail)
    generalize hW : World.alloc w _ = v
    have HF := hide (show FS w v w.heap.size s by rw [← hW]; exact FS.mk0 hq _)
    obtain ⟨a0, a1, a2, a3, a4, a5, a6, a7, a8, a9⟩ := HF.out.ca
    clear hW hq
    go_wp2_with (go_at_call 45; (with_reducible refine (qcheckv_any _ s HF.out.q).mono ?_); rintro e w1 ⟨rfl, hb⟩; rw [H0.out]; have HF1 := hide (HF.out.below hb); obtain ⟨b0, b1, b2, b3, b4, b5, b6, b7, b8, b9⟩ := HF1.out.ca; clear hb)
    refine bodyPost_ret (v := .int .i64 1) (by simp [results, Tryz.results145, go_sem, *]) rfl ⟨by rw [HX.out], HF1.out.bw⟩
  have H0 := hide h0
  have hok : ¬ s.ok = false := by rw [h0]; simp
  have HY := hide (show cntE s p f = if p < 0 ∨ f < 0 ∨ s.m < p ∨ s.m < f ∨ s.m < p + f then 3 else 0 by unfold cntE; rw [if_neg hok])
  have hm32 : s.m ≤ 32 := by
    obtain ⟨l, h, a, b, M, hk⟩ := Sv.ok_some h0
    have h1 := hk.m
    have h2 := hk.m2
    omega
  clear h0 hok
  by_cases h1 : p < 0
  · have HX := hide (show cntE s p f = 3 by rw [HY.out, if_pos (by omega)])
    have g1 : decide (p < 0) = true := decide_eq_true h1
    clear HY h1
    go_enter Tryz.func145, Tryz.ntmps145
    go_upto_region 1 with (fail)
    generalize hW : World.alloc w _ = v
    have HF := hide (show FS w v w.heap.size s by rw [← hW]; exact FS.mk0 hq _)
    obtain ⟨a0, a1, a2, a3, a4, a5, a6, a7, a8, a9⟩ := HF.out.ca
    clear hW hq
    go_wp2_with (go_at_call 45; (with_reducible refine (qcheckv_any _ s HF.out.q).mono ?_); rintro e w1 ⟨rfl, hb⟩; rw [H0.out]; have HF1 := hide (HF.out.below hb); obtain ⟨b0, b1, b2, b3, b4, b5, b6, b7, b8, b9⟩ := HF1.out.ca; clear hb)
    refine bodyPost_ret (v := .int .i64 3) (by simp [results, Tryz.results145, go_sem, *]) rfl ⟨by rw [HX.out], HF1.out.bw⟩
  have g1 : decide (p < 0) = false := decide_eq_false h1
  by_cases h2 : f < 0
  · have HX := hide (show cntE s p f = 3 by rw [HY.out, if_pos (by omega)])
    have g2 : decide (f < 0) = true := decide_eq_true h2
    clear HY h2
    go_enter Tryz.func145, Tryz.ntmps145
    go_upto_region 1 with (fail)
    generalize hW : World.alloc w _ = v
    have HF := hide (show FS w v w.heap.size s by rw [← hW]; exact FS.mk0 hq _)
    obtain ⟨a0, a1, a2, a3, a4, a5, a6, a7, a8, a9⟩ := HF.out.ca
    clear hW hq
    go_wp2_with (go_at_call 45; (with_reducible refine (qcheckv_any _ s HF.out.q).mono ?_); rintro e w1 ⟨rfl, hb⟩; rw [H0.out]; have HF1 := hide (HF.out.below hb); obtain ⟨b0, b1, b2, b3, b4, b5, b6, b7, b8, b9⟩ := HF1.out.ca; clear hb)
    refine bodyPost_ret (v := .int .i64 3) (by simp [results, Tryz.results145, go_sem, *]) rfl ⟨by rw [HX.out], HF1.out.bw⟩
  have g2 : decide (f < 0) = false := decide_eq_false h2
  by_cases h3 : s.m < p
  · have HX := hide (show cntE s p f = 3 by rw [HY.out, if_pos (by omega)])
    have g3 : decide (s.m < p) = true := decide_eq_true h3
    clear HY h3
    go_enter Tryz.func145, Tryz.ntmps145
    go_upto_region 1 with (fail)
    generalize hW : World.alloc w _ = v
    have HF := hide (show FS w v w.heap.size s by rw [← hW]; exact FS.mk0 hq _)
    obtain ⟨a0, a1, a2, a3, a4, a5, a6, a7, a8, a9⟩ := HF.out.ca
    clear hW hq
    go_wp2_with (go_at_call 45; (with_reducible refine (qcheckv_any _ s HF.out.q).mono ?_); rintro e w1 ⟨rfl, hb⟩; rw [H0.out]; have HF1 := hide (HF.out.below hb); obtain ⟨b0, b1, b2, b3, b4, b5, b6, b7, b8, b9⟩ := HF1.out.ca; clear hb)
    refine bodyPost_ret (v := .int .i64 3) (by simp [results, Tryz.results145, go_sem, *]) rfl ⟨by rw [HX.out], HF1.out.bw⟩
  have g3 : decide (s.m < p) = false := decide_eq_false h3
  by_cases h4 : s.m < f
  · have HX := hide (show cntE s p f = 3 by rw [HY.out, if_pos (by omega)])
    have g4 : decide (s.m < f) = true := decide_eq_true h4
    clear HY h4
    go_enter Tryz.func145, Tryz.ntmps145
    go_upto_region 1 with (fail)
    generalize hW : World.alloc w _ = v
    have HF := hide (show FS w v w.heap.size s by rw [← hW]; exact FS.mk0 hq _)
    obtain ⟨a0, a1, a2, a3, a4, a5, a6, a7, a8, a9⟩ := HF.out.ca
    clear hW hq
    go_wp2_with (go_at_call 45; (with_reducible refine (qcheckv_any _ s HF.out.q).mono ?_); rintro e w1 ⟨rfl, hb⟩; rw [H0.out]; have HF1 := hide (HF.out.below hb); obtain ⟨b0, b1, b2, b3, b4, b5, b6, b7, b8, b9⟩ := HF1.out.ca; clear hb)
    refine bodyPost_ret (v := .int .i64 3) (by simp [results, Tryz.results145, go_sem, *]) rfl ⟨by rw [HX.out], HF1.out.bw⟩
  have g4 : decide (s.m < f) = false := decide_eq_false h4
  by_cases h5 : s.m < p + f
  · have HX := hide (show cntE s p f = 3 by rw [HY.out, if_pos (by omega)])
    have g5 : decide (s.m < p + f) = true := decide_eq_true h5
    clear HY h5
    go_enter Tryz.func145, Tryz.ntmps145
    go_upto_region 1 with (fail)
    generalize hW : World.alloc w _ = v
    have HF := hide (show FS w v w.heap.size s by rw [← hW]; exact FS.mk0 hq _)
    obtain ⟨a0, a1, a2, a3, a4, a5, a6, a7, a8, a9⟩ := HF.out.ca
    clear hW hq
    go_wp2_with (go_at_call 45; (with_reducible refine (qcheckv_any _ s HF.out.q).mono ?_); rintro e w1 ⟨rfl, hb⟩; rw [H0.out]; have HF1 := hide (HF.out.below hb); obtain ⟨b0, b1, b2, b3, b4, b5, b6, b7, b8, b9⟩ := HF1.out.ca; clear hb)
    refine bodyPost_ret (v := .int .i64 3) (by simp [results, Tryz.results145, go_sem, *]) rfl ⟨by rw [HX.out], HF1.out.bw⟩
  have g5 : decide (s.m < p + f) = false := decide_eq_false h5
  have HX := hide (show cntE s p f = 0 by rw [HY.out, if_neg (by omega)])
  clear HY
  go_enter Tryz.func145, Tryz.ntmps145
  go_upto_region 1 with (fail)
  generalize hW : World.alloc w _ = v
  have HF := hide (show FS w v w.heap.size s by rw [← hW]; exact FS.mk0 hq _)
  obtain ⟨a0, a1, a2, a3, a4, a5, a6, a7, a8, a9⟩ := HF.out.ca
  clear hW hq
  go_wp2_with (go_at_call 45; (with_reducible refine (qcheckv_any _ s HF.out.q).mono ?_); rintro e w1 ⟨rfl, hb⟩; rw [H0.out]; have HF1 := hide (HF.out.below hb); obtain ⟨b0, b1, b2, b3, b4, b5, b6, b7, b8, b9⟩ := HF1.out.ca; clear hb)
  refine bodyPost_ret (v := .int .i64 0) (by simp [results, Tryz.results145, go_sem, *]) rfl ⟨by rw [HX.out], HF1.out.bw⟩
end Go.Proofs.YtnokfhkcfebimaaGreat

/- Contracts: sequential.Ratio, decide, Decide. -/
namespace Go.Proofs.YtnokfhkcfebimaaGreat
open Go.RowKit

/-- What Ratio returns. -/
def ratR (s : Sv) (p f : Int) (r : Rat) : Option Rat × Int := if cntE s p f = 0 then (some r, 0) else (none, cntE s p f)
theorem cnt_ok {s : Sv} {p f : Int} (h : cntE s p f = 0) : s.ok = true ∧ 0 ≤ p ∧ 0 ≤ f ∧ p ≤ s.m ∧ f ≤ s.m ∧ p + f ≤ s.m := by
  unfold cntE at h
  cases hk : s.ok
  · rw [if_pos hk] at h; omega
  · rw [if_neg (by rw [hk]; simp)] at h
    split at h
    · omega
    · exact ⟨rfl, by omega⟩
theorem OKs.ok {s : Sv} {l h a b : Rat} {M : Nat} (hk' : OKs s l h a b M) : s.ok = true := by
  unfold Sv.ok okS
  rw [hk'.fl, hk'.fh, hk'.fa, hk'.fb]
  have e : ∀ {r : Rat}, Inn r → innO (some r) = true := fun {r} hi => by
    have hc : chO (some r) = true := by simp [chO, hi.c.h1, hi.c.hd]
    rw [innO_some hc, decide_eq_true hi.p, decide_eq_true hi.q]; rfl
  have h9 := hk'.m
  have h10 := hk'.m1
  have h11 := hk'.m2
  rw [e hk'.il, e hk'.ih, e hk'.ia, e hk'.ib]
  simp [ltO, hk'.lt]
  omega
theorem inv_bd {a : Rat} (h : Inn a) : Bd 1000 (1 / a) := by
  have := (⟨by decide, by decide, by decide⟩ : Bd 1 (1 : Rat)).div h.c.bd h.ne
  rwa [Nat.one_mul] at this
end Go.Proofs.YtnokfhkcfebimaaGreat

/- Contracts: sequential.decide, Decide. -/
namespace Go.Proofs.YtnokfhkcfebimaaGreat
open Go.RowKit

set_option maxRecDepth 100000 in
set_option maxHeartbeats 16000000 in
theorem sdec_any (w : World) (s : Sv) (l h a b : Rat) (M p f : Nat) (hq : SQ w s) (hk : OKs s l h a b M) (hp : p ≤ 32) (hf : f ≤ 32) :
    Calls Tryz.prog 69 #[.agg #[.slice s.l.A s.l.n s.l.c, .slice s.l.B s.l.m s.l.d, .slice s.h.A s.h.n s.h.c, .slice s.h.B s.h.m s.h.d, .slice s.a.A s.a.n s.a.c, .slice s.a.B s.a.m s.a.d, .slice s.b.A s.b.n s.b.c, .slice s.b.B s.b.m s.b.d, .int .i64 s.m], .int .i64 (p : Int), .int .i64 (f : Int)] w fun e w' => e = .returned (.int .i64 (decQ l h a b p f)) ∧ Below w.heap.size w w' := by
  have HD := hide (divR_some (r := 1) hk.ia.ne (bd_fits (inv_bd hk.ia) (by decide +kernel)))
  have HK := hide hk
  clear hk
  go_enter Tryz.func69, Tryz.ntmps69
  go_upto_region 1 with (fail)
  generalize hW : World.alloc w _ = v
  have HF := hide (show FS w v w.heap.size s by rw [← hW]; exact FS.mk0 hq _)
  obtain ⟨a0, a1, a2, a3, a4, a5, a6, a7, a8, a9⟩ := HF.out.ca
  clear hW hq
  go_upto_region 2 with (go_at_call 100; (with_reducible refine (sratio_any _ s l h a b M p f HF.out.q HK.out hp hf).mono ?_); rintro e w1 ⟨c, rfl, ho, hb⟩; have HO := hide ho; have HF1 := hide (HF.out.below hb); clear ho hb)
  generalize hW : World.alloc w1 _ = v2
  have HF2 := hide (show FS w v2 w.heap.size s by rw [← hW]; exact HF1.out.alloc _)
  have HQ7 := hide (show Bq v2 w1.heap.size c by rw [← hW]; exact Bq.mk0 _ c rfl)
  have HO7 := hide (show Fo v2 c (some (ratQ l h p f)) by rw [← hW]; exact HO.out.alloc _)
  obtain ⟨b7, hb7⟩ : ∃ b, b = w1.heap.size := ⟨_, rfl⟩
  rw [← hb7] at HQ7 ⊢
  clear hW hb7
  go_cut [8] from 8 to 32 (fun s8 wx => ∃ (g : Nat) (c : Fa), s8 = .pointer (some ⟨g, 0, none⟩) ∧ Hid (Bq wx g c) ∧ Hid (Fo wx c (some (1 / a))) ∧ Hid (Below v2.heap.size v2 wx))
  case first =>
    apply region_seqo 6 8 [15, 16, 17, 18, 14, 19, 20, 8] [fun x w => ∃ c : Fa, x = .agg #[.slice c.A c.n c.c, .slice c.B c.m c.d] ∧ Fo w c (some (1)), eqV _, eqV _, fun x w => ∃ c : Fa, x = .tuple #[.agg #[.slice c.A c.n c.c, .slice c.B c.m c.d], .int .i64 0] ∧ Fo w c (some (1 / a)), fun x w => ∃ c : Fa, x = .tuple #[.agg #[.slice c.A c.n c.c, .slice c.B c.m c.d], .int .i64 0] ∧ Fo w c (some (1 / a)), fun x w => ∃ c : Fa, x = .agg #[.slice c.A c.n c.c, .slice c.B c.m c.d] ∧ Fo w c (some (1 / a)), eqV _, fun x w => ∃ b : Nat, x = .pointer (some ⟨b, 0, none⟩) ∧ v2.heap.size ≤ b ∧ Bq w b fa0] [false, false, false, false, false, false, false, false] (by kernel_rfl) (by decide) (by decide) rfl rfl rfl (by decide) (by kernel_rfl) (by kernel_rfl) rfl ?stb1 ?steps1 ?fina1 ?finb1
    case stb1 => repeat' (first | exact trivial | apply stb_eq | (first | exact fun x w w' ⟨c, h1, h2⟩ hb => ⟨c, h1, h2.below hb⟩ | exact fun x w w' ⟨c, h1, h2, h3⟩ hb => ⟨c, h1, h2, h3.below hb⟩) | apply And.intro)
    case steps1 =>
      repeat' (first | exact trivial | apply And.intro)
      all_goals
        intro a' w' hbw hdf hoff hdep K hK
        have o3 := hoff 3 rfl
        (have HG := hide (HF2.out.below hbw); obtain ⟨y0, y1, y2, y3, y4, y5, y6, y7, y8, y9⟩ := HG.out.ca; have hvz := hbw.size)
        replace hdep := hdep _ rfl
        simp only [List.getElem_toArray, List.getElem_cons_succ, List.getElem_cons_zero, List.toList_toArray, depAll, binds_data, binds_chain, binds_guard, binds_phase, binds_text, binds_gc, cond_true, cond_false, true_and, getR, eqV, List.getD_cons_succ, List.getD_cons_zero, and_true] at hdep
        simp only [Nat.zero_add, Nat.reduceAdd, getR, eqV, List.getD_cons_succ, List.getD_cons_zero] at hK
        clear hoff hdf
        (first | (obtain ⟨⟨c1, e15, HO1⟩, e17, hdep⟩ : (∃ c : Fa, _) ∧ (_ = _) ∧ _ := hdep) | (obtain ⟨⟨c1, e24, HO1⟩, hdep⟩ : (∃ c : Fa, _) ∧ _ := hdep) | (obtain ⟨c1, e24, HO1⟩ : ∃ c : Fa, _ := hdep) | skip)
        first
          | (refine rg_unwanted rfl rfl rfl (b' := false) (by first | (simp [hdep]; done) | assumption) (by decide) ?_; exact hK _ _ rfl (Below.refl _ _) (by simp))
          | (refine rg_unwanted rfl rfl rfl (b' := true) (by first | (simp [hdep]; done) | assumption) (by decide) ?_; exact hK _ _ rfl (Below.refl _ _) (by simp))
          | (refine rg_wanted rfl rfl rfl (b' := true) (by first | (simp [hdep]; done) | assumption) rfl (fun K' hKK => ?_); go_wp2_with (first | (go_at_call 76; (with_reducible refine (swhole1_any _).mono ?_); rintro e w1 ⟨c, rfl, ho, hb⟩) | (go_at_call 101; (with_reducible refine (fdiv_o _ c1 s.a (some 1) (some a) HO1 (fo_of HG.out.q.a HK.out.fa)).mono ?_); rintro e w1 ⟨c, rfl, ho, hb⟩; rw [HD.out] at ho ⊢)); first | exact hK _ _ rfl (Below.refl _ _) (by simp) | (first | exact hK _ _ ⟨c, rfl, ho⟩ hb (by simp) | exact hK _ _ ⟨c1, rfl, HO1⟩ (Below.refl _ _) (by simp) | exact hK _ _ ⟨_, rfl, hvz, Bq.mk0 _ fa0 rfl⟩ ((Below.refl _ _).alloc (Nat.le_refl _) _) (by simp)))
          | (refine rg_wanted rfl rfl rfl (b' := false) (by first | (simp [hdep]; done) | assumption) rfl (fun K' hKK => ?_); go_wp2_with (first | (go_at_call 76; (with_reducible refine (swhole1_any _).mono ?_); rintro e w1 ⟨c, rfl, ho, hb⟩) | (go_at_call 101; (with_reducible refine (fdiv_o _ c1 s.a (some 1) (some a) HO1 (fo_of HG.out.q.a HK.out.fa)).mono ?_); rintro e w1 ⟨c, rfl, ho, hb⟩; rw [HD.out] at ho ⊢)); first | exact hK _ _ rfl (Below.refl _ _) (by simp) | (first | exact hK _ _ ⟨c, rfl, ho⟩ hb (by simp) | exact hK _ _ ⟨c1, rfl, HO1⟩ (Below.refl _ _) (by simp) | exact hK _ _ ⟨_, rfl, hvz, Bq.mk0 _ fa0 rfl⟩ ((Below.refl _ _).alloc (Nat.le_refl _) _) (by simp)))
          | (refine rg_free rfl rfl (fun K' hKK => ?_); fail)
          | (refine rg_free rfl rfl (fun K' hKK => ?_); go_wp2_with (first | (go_at_call 76; (with_reducible refine (swhole1_any _).mono ?_); rintro e w1 ⟨c, rfl, ho, hb⟩) | (go_at_call 101; (with_reducible refine (fdiv_o _ c1 s.a (some 1) (some a) HO1 (fo_of HG.out.q.a HK.out.fa)).mono ?_); rintro e w1 ⟨c, rfl, ho, hb⟩; rw [HD.out] at ho ⊢)); first | exact hK _ _ rfl (Below.refl _ _) (by simp) | (first | exact hK _ _ ⟨c, rfl, ho⟩ hb (by simp) | exact hK _ _ ⟨c1, rfl, HO1⟩ (Below.refl _ _) (by simp) | exact hK _ _ ⟨_, rfl, hvz, Bq.mk0 _ fa0 rfl⟩ ((Below.refl _ _).alloc (Nat.le_refl _) _) (by simp)))
    all_goals
      intro w' hbw
      repeat (first | refine fin_eq ?_ | refine fin_any (fun x hx => ?_))
      rename_i x15 h15 x16 h16
      obtain ⟨c5, rfl, -⟩ := h15
      obtain ⟨q, rfl, ho⟩ := h16
      obtain ⟨g, rfl, hg, hq⟩ := hx
      have HO := hide ho
      have HQ := hide hq
      have HBW := hide hbw
      have hrel := hide (show ∃ (g' : Nat) (c' : Fa), Value.pointer (some ⟨g, 0, none⟩) = .pointer (some ⟨g', 0, none⟩) ∧ Hid (Bq ((w'.setCell ⟨g, 0, none⟩ (.slice q.A q.n q.c)).setCell ⟨g, 1, none⟩ (.slice q.B q.m q.d)) g' c') ∧ Hid (Fo ((w'.setCell ⟨g, 0, none⟩ (.slice q.A q.n q.c)).setCell ⟨g, 1, none⟩ (.slice q.B q.m q.d)) c' (some (1 / a))) ∧ Hid (Below v2.heap.size v2 ((w'.setCell ⟨g, 0, none⟩ (.slice q.A q.n q.c)).setCell ⟨g, 1, none⟩ (.slice q.B q.m q.d))) from
        ⟨g, q, rfl, hide (HQ.out.fill q), hide (HO.out.fill HQ.out q), hide (Rb.end0 HBW.out hg _ _)⟩)
      obtain ⟨c0, c1, cf, cz, -⟩ := HQ.out
      clear ho hq hbw
      refine fin_nil ?_
      simp only [List.setIfInBounds_toArray, List.set_cons_succ, List.set_cons_zero]
    · skip
      refine wpAny_one (i := 8) (by kernel_rfl) ?_
      refine rg_free rfl rfl (fun K' hKK => ?_)
      go_wp2_with fail
      refine wpAny_one (i := 9) (by kernel_rfl) ?_
      refine rg_free rfl rfl (fun K' hKK => ?_)
      go_wp2_with fail
      refine wpAny_done (by kernel_rfl) ?_ _
      go_wp2_with fail
      go_meet
      case rel => exact hrel.out
    · skip
      refine wpAny_two (i := 6) (j := 8) (by kernel_rfl) ?_ ?_
      · skip
        refine rg_free rfl rfl (fun K' hKK => ?_)
        go_wp2_with fail
        refine wpAny_one (i := 8) (by kernel_rfl) ?_
        refine rg_free rfl rfl (fun K' hKK => ?_)
        go_wp2_with fail
        refine wpAny_one (i := 9) (by kernel_rfl) ?_
        refine rg_free rfl rfl (fun K' hKK => ?_)
        go_wp2_with fail
        refine wpAny_done (by kernel_rfl) ?_ _
        go_wp2_with fail
        go_meet
        case rel => exact hrel.out
      · skip
        refine rg_free rfl rfl (fun K' hKK => ?_)
        go_wp2_with fail
        refine wpAny_one (i := 6) (by kernel_rfl) ?_
        refine rg_free rfl rfl (fun K' hKK => ?_)
        go_wp2_with fail
        refine wpAny_one (i := 9) (by kernel_rfl) ?_
        refine rg_free rfl rfl (fun K' hKK => ?_)
        go_wp2_with fail
        refine wpAny_done (by kernel_rfl) ?_ _
        go_wp2_with fail
        go_meet
        case rel => exact hrel.out
  case rest =>
    obtain ⟨g, c8, rfl, HQ, HO8, HB8⟩ := hcut
    have HF3 := hide (HF2.out.below HB8.out)
    have HQ3 := hide (HQ7.out.below HB8.out)
    have HO3 := hide (HO7.out.below HB8.out)
    obtain ⟨c0, c1, cf, cz, -⟩ := HQ.out
    obtain ⟨d0, d1, df, dz, -⟩ := HQ3.out
    obtain ⟨e0, e1, e2, e3, e4, e5, e6, e7, e8, e9⟩ := HF3.out.ca
    by_cases h1 : 1 / a ≤ ratQ l h p f
    · have g1 : decide (0 ≤ cmpO (some (ratQ l h p f)) (some (1 / a))) = true := decide_eq_true (cmpQ_ge.2 h1)
      have HX := hide (show decQ l h a b p f = 2 from if_pos h1)
      clear h1
      go_wp2_with (go_at_call 71; (with_reducible refine (fcmp_o _ c c8 _ _ HO3.out HO8.out).mono ?_); rintro e w3 ⟨rfl, hb⟩; have HB3 := hide (HF3.out.bw.trans (hb.mono HF3.out.bw.size)); clear hb)
      refine bodyPost_ret (v := .int .i64 2) (by simp [results, Tryz.results69, go_sem, *]) rfl ⟨by rw [HX.out], HB3.out⟩
    · have g1 : decide (0 ≤ cmpO (some (ratQ l h p f)) (some (1 / a))) = false := decide_eq_false (fun h => h1 (cmpQ_ge.1 h))
      have HX0 := hide (show decQ l h a b p f = if ratQ l h p f ≤ b then 1 else 0 from if_neg h1)
      clear h1
      by_cases h2 : ratQ l h p f ≤ b
      · have g2 : decide (cmpO (some (ratQ l h p f)) (some b) ≤ 0) = true := decide_eq_true (cmpQ_le.2 h2)
        have HX := hide (show decQ l h a b p f = 1 by rw [HX0.out, if_pos h2])
        clear h2 HX0
        go_wp2_with (first
          | (go_at_call 71; (with_reducible refine (fcmp_o _ c c8 _ _ HO3.out HO8.out).mono ?_); rintro e w3 ⟨rfl, hb⟩; have HF4 := hide (HF3.out.below hb); have HQ4 := hide (HQ3.out.below hb); have HO4 := hide (HO3.out.below hb); obtain ⟨k0, k1, kf, kz, -⟩ := HQ4.out; obtain ⟨f0, f1, f2, f3, f4, f5, f6, f7, f8, f9⟩ := HF4.out.ca; clear hb)
          | (go_at_call 71; (with_reducible refine (fcmp_o _ c s.b _ (some b) HO4.out (fo_of HF4.out.q.b HK.out.fb)).mono ?_); rintro e w4 ⟨rfl, hb⟩; have HB3 := hide (HF4.out.bw.trans (hb.mono HF4.out.bw.size)); clear hb))
        refine bodyPost_ret (v := .int .i64 1) (by simp [results, Tryz.results69, go_sem, *]) rfl ⟨by rw [HX.out], HB3.out⟩
      · have g2 : decide (cmpO (some (ratQ l h p f)) (some b) ≤ 0) = false := decide_eq_false (fun h => h2 (cmpQ_le.1 h))
        have HX := hide (show decQ l h a b p f = 0 by rw [HX0.out, if_neg h2])
        clear h2 HX0
        go_wp2_with (first
          | (go_at_call 71; (with_reducible refine (fcmp_o _ c c8 _ _ HO3.out HO8.out).mono ?_); rintro e w3 ⟨rfl, hb⟩; have HF4 := hide (HF3.out.below hb); have HQ4 := hide (HQ3.out.below hb); have HO4 := hide (HO3.out.below hb); obtain ⟨k0, k1, kf, kz, -⟩ := HQ4.out; obtain ⟨f0, f1, f2, f3, f4, f5, f6, f7, f8, f9⟩ := HF4.out.ca; clear hb)
          | (go_at_call 71; (with_reducible refine (fcmp_o _ c s.b _ (some b) HO4.out (fo_of HF4.out.q.b HK.out.fb)).mono ?_); rintro e w4 ⟨rfl, hb⟩; have HB3 := hide (HF4.out.bw.trans (hb.mono HF4.out.bw.size)); clear hb))
        refine bodyPost_ret (v := .int .i64 0) (by simp [results, Tryz.results69, go_sem, *]) rfl ⟨by rw [HX.out], HB3.out⟩
set_option maxRecDepth 100000 in
set_option maxHeartbeats 8000000 in
theorem sdecide_ok (w : World) (s : Sv) (l h a b : Rat) (M p f : Nat) (hq : SQ w s) (hk : OKs s l h a b M) (hpf : p + f ≤ M) :
    Calls Tryz.prog 36 #[.agg #[.slice s.l.A s.l.n s.l.c, .slice s.l.B s.l.m s.l.d, .slice s.h.A s.h.n s.h.c, .slice s.h.B s.h.m s.h.d, .slice s.a.A s.a.n s.a.c, .slice s.a.B s.a.m s.a.d, .slice s.b.A s.b.n s.b.c, .slice s.b.B s.b.m s.b.d, .int .i64 s.m], .int .i64 (p : Int), .int .i64 (f : Int)] w fun e w' => e = .returned (.tuple #[.int .i64 (decQ l h a b p f), .int .i64 0]) ∧ Below w.heap.size w w' := by
  have hm := hk.m
  have hm2 := hk.m2
  have HC := hide (show cntE s p f = 0 by
    unfold cntE
    rw [if_neg (by rw [hk.ok]; simp), if_neg (by omega)])
  have HK := hide hk
  have hp32 : p ≤ 32 := by omega
  have hf32 : f ≤ 32 := by omega
  clear hk hm hm2 hpf
  go_enter Tryz.func36, Tryz.ntmps36
  go_upto_region 1 with (fail)
  generalize hW : World.alloc w _ = v
  have HF := hide (show FS w v w.heap.size s by rw [← hW]; exact FS.mk0 hq _)
  obtain ⟨a0, a1, a2, a3, a4, a5, a6, a7, a8, a9⟩ := HF.out.ca
  clear hW hq
  go_wp2_with (first
    | (go_at_call 68; (with_reducible refine (scounts_any _ s p f HF.out.q).mono ?_); rintro e w1 ⟨rfl, hb⟩; rw [HC.out]; have HF1 := hide (HF.out.below hb); obtain ⟨b0, b1, b2, b3, b4, b5, b6, b7, b8, b9⟩ := HF1.out.ca; clear hb)
    | (go_at_call 69; (with_reducible refine (sdec_any _ s l h a b M p f HF1.out.q HK.out hp32 hf32).mono ?_); rintro e w2 ⟨rfl, hb⟩; have HF2 := hide (HF1.out.below hb); clear hb))
  refine bodyPost_ret (v := .tuple #[.int .i64 (decQ l h a b p f), .int .i64 0]) (by simp [results, Tryz.results36, go_sem, *]) rfl ⟨rfl, HF2.out.bw⟩
set_option maxRecDepth 100000 in
set_option maxHeartbeats 8000000 in
theorem sdecide_bad (w : World) (s : Sv) (p f : Int) (hq : SQ w s) (hc : cntE s p f ≠ 0) :
    Calls Tryz.prog 36 #[.agg #[.slice s.l.A s.l.n s.l.c, .slice s.l.B s.l.m s.l.d, .slice s.h.A s.h.n s.h.c, .slice s.h.B s.h.m s.h.d, .slice s.a.A s.a.n s.a.c, .slice s.a.B s.a.m s.a.d, .slice s.b.A s.b.n s.b.c, .slice s.b.B s.b.m s.b.d, .int .i64 s.m], .int .i64 p, .int .i64 f] w fun e w' => e = .returned (.tuple #[.int .i64 0, .int .i64 (cntE s p f)]) ∧ Below w.heap.size w w' := by
  obtain ⟨E, hE⟩ : ∃ E, E = cntE s p f := ⟨_, rfl⟩
  rw [← hE] at hc ⊢
  have HE := hide hE
  have d1 : (E != 0) = true := by simp [hc]
  clear hE
  go_enter Tryz.func36, Tryz.ntmps36
  go_upto_region 1 with (fail)
  generalize hW : World.alloc w _ = v
  have HF := hide (show FS w v w.heap.size s by rw [← hW]; exact FS.mk0 hq _)
  obtain ⟨a0, a1, a2, a3, a4, a5, a6, a7, a8, a9⟩ := HF.out.ca
  clear hW hq
  go_wp2_with (go_at_call 68; (with_reducible refine (scounts_any _ s p f HF.out.q).mono ?_); rintro e w1 ⟨rfl, hb⟩; rw [← HE.out]; have HF1 := hide (HF.out.below hb); obtain ⟨b0, b1, b2, b3, b4, b5, b6, b7, b8, b9⟩ := HF1.out.ca; clear hb)
  refine bodyPost_ret (v := .tuple #[.int .i64 0, .int .i64 E]) (by simp [results, Tryz.results36, go_sem, *]) rfl ⟨rfl, HF1.out.bw⟩
end Go.Proofs.YtnokfhkcfebimaaGreat

/- Contract: sequential.Limits. -/
namespace Go.Proofs.YtnokfhkcfebimaaGreat
open Go.RowKit

set_option maxRecDepth 100000 in
set_option maxHeartbeats 16000000 in
theorem slimits_ok (w : World) (s : Sv) (l h a b : Rat) (M n : Nat) (hq : SQ w s) (hk : OKs s l h a b M) (hn : n ≤ M) :
    Calls Tryz.prog 38 #[.agg #[.slice s.l.A s.l.n s.l.c, .slice s.l.B s.l.m s.l.d, .slice s.h.A s.h.n s.h.c, .slice s.h.B s.h.m s.h.d, .slice s.a.A s.a.n s.a.c, .slice s.a.B s.a.m s.a.d, .slice s.b.A s.b.n s.b.c, .slice s.b.B s.b.m s.b.d, .int .i64 s.m], .int .i64 (n : Int)] w fun e w' => ∃ x y : Int, e = .returned (.tuple #[.int .i64 x, .int .i64 y, .int .i64 0]) ∧ IsStab (fun f => decQ l h a b (n - f) f) 0 n x ∧ IsFlak (fun f => decQ l h a b (n - f) f) 0 n y ∧ Below w.heap.size w w' := by
  have hm := hk.m
  have hm2 := hk.m2
  have HOK := hide hk.ok
  have HK := hide hk
  have g1 : decide ((n : Int) < 0) = false := decide_eq_false (by omega)
  have g2 : decide (s.m < (n : Int)) = false := decide_eq_false (by omega)
  have hn32 : n ≤ 32 := by omega
  clear hk hm hm2 hn
  go_enter Tryz.func38, Tryz.ntmps38
  go_upto_region 1 with (fail)
  generalize hW : World.alloc w _ = v
  have HF := hide (show FS w v w.heap.size s by rw [← hW]; exact FS.mk0 hq _)
  obtain ⟨a0, a1, a2, a3, a4, a5, a6, a7, a8, a9⟩ := HF.out.ca
  clear hW hq
  go_wp2_with (go_at_call 42; (with_reducible refine (scheckv_any _ s HF.out.q).mono ?_); rintro e w1 ⟨rfl, hb⟩; rw [HOK.out]; have HF1 := hide (HF.out.below hb); obtain ⟨b0, b1, b2, b3, b4, b5, b6, b7, b8, b9⟩ := HF1.out.ca; clear hb)
  go_loopw [7, 4, 5] (fun fv sv kv wr => ∃ (k : Nat) (x y : Int), fv = .int .i64 ((k : Int) - 1) ∧ sv = .int .i64 x ∧ kv = .int .i64 y ∧ k ≤ n + 1 ∧ (-1 ≤ x ∧ x ≤ 32) ∧ Hid (IsStab (fun f => decQ l h a b (n - f) f) k n x) ∧ Hid (IsFlak (fun f => decQ l h a b (n - f) f) k n y) ∧ Hid (FS w wr w.heap.size s)) (fun fv _ _ _ => ((intOf fv) + 1).toNat)
  case atStart => exact ⟨n + 1, -1, -1, by go_num, rfl, rfl, by omega, by omega, hide (IsStab.start _ _), hide (IsFlak.start _ _), HF1⟩
  case round =>
    obtain ⟨k, x, y, rfl, rfl, rfl, hk1, hx, HS, HKK, HFr⟩ := hrel
    obtain ⟨c0, c1, c2, c3, c4, c5, c6, c7, c8, c9⟩ := HFr.out.ca
    rcases k with _ | j
    · go_wp2_with fail
      refine bodyPost_ret (v := .tuple #[.int .i64 x, .int .i64 y, .int .i64 0]) (by simp [results, Tryz.results38, go_sem, *]) rfl ⟨x, y, rfl, HS.out, HKK.out, HFr.out.bw⟩
    · have e1 : ((j + 1 : Nat) : Int) - 1 = (j : Int) := by omega
      rw [e1]
      clear e1
      have hjn : j ≤ n := by omega
      have hj0 : (0 : Int) ≤ (j : Int) := by omega
      have e2 : ((n - j : Nat) : Int) = (n : Int) - (j : Int) := by omega
      rcases decQ_range l h a b (n - j) j with hd | hd | hd
      · have HC := hide (show ∀ W, SQ W s → Calls Tryz.prog 69 #[.agg #[.slice s.l.A s.l.n s.l.c, .slice s.l.B s.l.m s.l.d, .slice s.h.A s.h.n s.h.c, .slice s.h.B s.h.m s.h.d, .slice s.a.A s.a.n s.a.c, .slice s.a.B s.a.m s.a.d, .slice s.b.A s.b.n s.b.c, .slice s.b.B s.b.m s.b.d, .int .i64 s.m], .int .i64 ((n : Int) - (j : Int)), .int .i64 (j : Int)] W fun e w' => e = .returned (.int .i64 0) ∧ Below W.heap.size W w' from fun W hW => by
          have := sdec_any W s l h a b M (n - j) j hW HK.out (by omega) (by omega)
          rwa [hd, e2] at this)
        have H1 := hide (HS.out.down hjn)
        have H2 := hide (HKK.out.down hjn)
        simp only [hd] at H1 H2
        clear hd e2
        go_wp2_with (go_at_call 69; (with_reducible refine (HC.out _ HFr.out.q).mono ?_); rintro e w2 ⟨rfl, hb⟩; have HF2 := hide (HFr.out.below hb); obtain ⟨d0, d1, d2, d3, d4, d5, d6, d7, d8, d9⟩ := HF2.out.ca; clear hb)
        go_roundw
        case rel => exact ⟨j, x, y, by go_num, rfl, rfl, by omega, by omega, hide (by simpa using H1.out), hide (by simpa using H2.out), HF2⟩
        case measure => simp [intOf] <;> omega
      · have HC := hide (show ∀ W, SQ W s → Calls Tryz.prog 69 #[.agg #[.slice s.l.A s.l.n s.l.c, .slice s.l.B s.l.m s.l.d, .slice s.h.A s.h.n s.h.c, .slice s.h.B s.h.m s.h.d, .slice s.a.A s.a.n s.a.c, .slice s.a.B s.a.m s.a.d, .slice s.b.A s.b.n s.b.c, .slice s.b.B s.b.m s.b.d, .int .i64 s.m], .int .i64 ((n : Int) - (j : Int)), .int .i64 (j : Int)] W fun e w' => e = .returned (.int .i64 1) ∧ Below W.heap.size W w' from fun W hW => by
          have := sdec_any W s l h a b M (n - j) j hW HK.out (by omega) (by omega)
          rwa [hd, e2] at this)
        have H1 := hide (HS.out.down hjn)
        have H2 := hide (HKK.out.down hjn)
        simp only [hd] at H1 H2
        clear hd e2
        go_wp2_with (go_at_call 69; (with_reducible refine (HC.out _ HFr.out.q).mono ?_); rintro e w2 ⟨rfl, hb⟩; have HF2 := hide (HFr.out.below hb); obtain ⟨d0, d1, d2, d3, d4, d5, d6, d7, d8, d9⟩ := HF2.out.ca; clear hb)
        go_roundw
        case rel => exact ⟨j, if x < (j : Int) then (j : Int) else x, y, by go_num, rfl, rfl, by omega, by split <;> omega, hide (by have h9 := H1.out; have e9 : (if x < (j : Int) then (j : Int) else x) = max x (j : Int) := (by split <;> omega); rw [e9]; simpa using h9), hide (by simpa using H2.out), HF2⟩
        case measure => simp [intOf] <;> omega
      · have HC := hide (show ∀ W, SQ W s → Calls Tryz.prog 69 #[.agg #[.slice s.l.A s.l.n s.l.c, .slice s.l.B s.l.m s.l.d, .slice s.h.A s.h.n s.h.c, .slice s.h.B s.h.m s.h.d, .slice s.a.A s.a.n s.a.c, .slice s.a.B s.a.m s.a.d, .slice s.b.A s.b.n s.b.c, .slice s.b.B s.b.m s.b.d, .int .i64 s.m], .int .i64 ((n : Int) - (j : Int)), .int .i64 (j : Int)] W fun e w' => e = .returned (.int .i64 2) ∧ Below W.heap.size W w' from fun W hW => by
          have := sdec_any W s l h a b M (n - j) j hW HK.out (by omega) (by omega)
          rwa [hd, e2] at this)
        have H1 := hide (HS.out.down hjn)
        have H2 := hide (HKK.out.down hjn)
        simp only [hd] at H1 H2
        clear hd e2
        go_wp2_with (go_at_call 69; (with_reducible refine (HC.out _ HFr.out.q).mono ?_); rintro e w2 ⟨rfl, hb⟩; have HF2 := hide (HFr.out.below hb); obtain ⟨d0, d1, d2, d3, d4, d5, d6, d7, d8, d9⟩ := HF2.out.ca; clear hb)
        go_roundw
        case rel => exact ⟨j, x, (j : Int), by go_num, rfl, rfl, by omega, by omega, hide (by simpa using H1.out), hide (by simpa using H2.out), HF2⟩
        case measure => simp [intOf] <;> omega
set_option maxRecDepth 100000 in
set_option maxHeartbeats 8000000 in
theorem slimits_bad (w : World) (s : Sv) (n : Int) (hq : SQ w s) (hc : s.ok = false ∨ n < 0 ∨ s.m < n) :
    Calls Tryz.prog 38 #[.agg #[.slice s.l.A s.l.n s.l.c, .slice s.l.B s.l.m s.l.d, .slice s.h.A s.h.n s.h.c, .slice s.h.B s.h.m s.h.d, .slice s.a.A s.a.n s.a.c, .slice s.a.B s.a.m s.a.d, .slice s.b.A s.b.n s.b.c, .slice s.b.B s.b.m s.b.d, .int .i64 s.m], .int .i64 n] w fun e w' => e = .returned (.tuple #[.int .i64 0, .int .i64 0, .int .i64 (if s.ok = false then 1 else 3)]) ∧ Below w.heap.size w w' := by
  rcases hk : s.ok
  · have HOK := hide hk
    clear hk hc
    go_enter Tryz.func38, Tryz.ntmps38
    go_upto_region 1 with (fail)
    generalize hW : World.alloc w _ = v
    have HF := hide (show FS w v w.heap.size s by rw [← hW]; exact FS.mk0 hq _)
    obtain ⟨a0, a1, a2, a3, a4, a5, a6, a7, a8, a9⟩ := HF.out.ca
    clear hW hq
    go_wp2_with (go_at_call 42; (with_reducible refine (scheckv_any _ s HF.out.q).mono ?_); rintro e w1 ⟨rfl, hb⟩; rw [HOK.out]; have HF1 := hide (HF.out.below hb); obtain ⟨b0, b1, b2, b3, b4, b5, b6, b7, b8, b9⟩ := HF1.out.ca; clear hb)
    refine bodyPost_ret (v := .tuple #[.int .i64 0, .int .i64 0, .int .i64 1]) (by simp [results, Tryz.results38, go_sem, *]) rfl ⟨rfl, HF1.out.bw⟩
  · have HOK := hide hk
    rw [hk] at hc
    have hc : n < 0 ∨ s.m < n := by simpa using hc
    clear hk
    by_cases h1 : n < 0
    · have g1 : decide (n < 0) = true := decide_eq_true h1
      clear hc h1
      go_enter Tryz.func38, Tryz.ntmps38
      go_upto_region 1 with (fail)
      generalize hW : World.alloc w _ = v
      have HF := hide (show FS w v w.heap.size s by rw [← hW]; exact FS.mk0 hq _)
      obtain ⟨a0, a1, a2, a3, a4, a5, a6, a7, a8, a9⟩ := HF.out.ca
      clear hW hq
      go_wp2_with (go_at_call 42; (with_reducible refine (scheckv_any _ s HF.out.q).mono ?_); rintro e w1 ⟨rfl, hb⟩; rw [HOK.out]; have HF1 := hide (HF.out.below hb); obtain ⟨b0, b1, b2, b3, b4, b5, b6, b7, b8, b9⟩ := HF1.out.ca; clear hb)
      refine bodyPost_ret (v := .tuple #[.int .i64 0, .int .i64 0, .int .i64 3]) (by simp [results, Tryz.results38, go_sem, *]) rfl ⟨rfl, HF1.out.bw⟩
    · have g1 : decide (n < 0) = false := decide_eq_false h1
      have g2 : decide (s.m < n) = true := decide_eq_true (by omega)
      clear hc h1
      go_enter Tryz.func38, Tryz.ntmps38
      go_upto_region 1 with (fail)
      generalize hW : World.alloc w _ = v
      have HF := hide (show FS w v w.heap.size s by rw [← hW]; exact FS.mk0 hq _)
      obtain ⟨a0, a1, a2, a3, a4, a5, a6, a7, a8, a9⟩ := HF.out.ca
      clear hW hq
      go_wp2_with (go_at_call 42; (with_reducible refine (scheckv_any _ s HF.out.q).mono ?_); rintro e w1 ⟨rfl, hb⟩; rw [HOK.out]; have HF1 := hide (HF.out.below hb); obtain ⟨b0, b1, b2, b3, b4, b5, b6, b7, b8, b9⟩ := HF1.out.ca; clear hb)
      refine bodyPost_ret (v := .tuple #[.int .i64 0, .int .i64 0, .int .i64 3]) (by simp [results, Tryz.results38, go_sem, *]) rfl ⟨rfl, HF1.out.bw⟩
end Go.Proofs.YtnokfhkcfebimaaGreat
