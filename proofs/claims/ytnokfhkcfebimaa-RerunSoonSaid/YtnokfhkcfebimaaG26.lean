/- Contracts of the functions that these laws reach: part 26: Contract: the reference's Limits; Contracts: noise.Choose; Contracts: the reference's Choose; Contracts: the noise law's one and known; The walk of the law NoiseChooses; Contracts: the law's bits; What came in, whatever it is, reads as plain values: rows, fractions; A specification that came in. -/
import Derived.Test.YtnokfhkcfebimaaG25
import Derived.Test.YtnokfhkcfebimaaG19
import Derived.Test.YtnokfhkcfebimaaG3
import Derived.Test.YtnokfhkcfebimaaG18
import Derived.Test.YtnokfhkcfebimaaG23
import Derived.Test.YtnokfhkcfebimaaG1
import Derived.Test.YtnokfhkcfebimaaG10
import Derived.DataReads
import Derived.WalkKit
import Derived.ProofKit
import Derived.OpenShut
import Derived.ChangeOld
import Derived.ChangeArms
import Derived.WideShapes
import Derived.Deep.Slices
import Derived.Test.YtnokfhkcfebimaaG20
set_option linter.unusedVariables false
set_option linter.unusedSimpArgs false

/- Contract: the reference's Limits. -/
namespace Go.Proofs.Ytnokfhkcfebimaa
open Go.RowKit

set_option maxRecDepth 100000 in
set_option maxHeartbeats 16000000 in
theorem qlimits_ok (w : World) (s : Sv) (l h a b : Rat) (M n : Nat) (hq : SQ w s) (hk : OKs s l h a b M) (hn : n ≤ M) :
    Calls Try.prog 22 #[.agg #[.slice s.l.A s.l.n s.l.c, .slice s.l.B s.l.m s.l.d, .slice s.h.A s.h.n s.h.c, .slice s.h.B s.h.m s.h.d, .slice s.a.A s.a.n s.a.c, .slice s.a.B s.a.m s.a.d, .slice s.b.A s.b.n s.b.c, .slice s.b.B s.b.m s.b.d, .int .i64 s.m], .int .i64 (n : Int)] w fun e w' => ∃ x y : Int, e = .returned (.tuple #[.int .i64 x, .int .i64 y, .int .i64 0]) ∧ IsStab (fun f => decQ l h a b (n - f) f) 0 n x ∧ IsFlak (fun f => decQ l h a b (n - f) f) 0 n y ∧ Below w.heap.size w w' := by
  have hm := hk.m
  have hm2 := hk.m2
  have HOK := hide hk.ok
  have HK := hide hk
  have HNM := hide hn
  have g1 : decide ((n : Int) < 0) = false := decide_eq_false (by omega)
  have g2 : decide (s.m < (n : Int)) = false := decide_eq_false (by omega)
  have hn32 : n ≤ 32 := by omega
  clear hk hm hm2 hn
  go_enter Try.func22, Try.ntmps22
  go_upto_region 1 with (fail)
  generalize hW : World.alloc w _ = v
  have HF := hide (show FS w v w.heap.size s by rw [← hW]; exact FS.mk0 hq _)
  obtain ⟨a0, a1, a2, a3, a4, a5, a6, a7, a8, a9⟩ := HF.out.ca
  clear hW hq
  go_wp2_with (go_at_call 34; (with_reducible refine (qcheckv_any _ s HF.out.q).mono ?_); rintro e w1 ⟨rfl, hb⟩; rw [HOK.out]; have HF1 := hide (HF.out.below hb); obtain ⟨b0, b1, b2, b3, b4, b5, b6, b7, b8, b9⟩ := HF1.out.ca; clear hb)
  go_loopw [9, 7, 8] (fun fv sv kv wr => ∃ (k : Nat) (x y : Int), fv = .int .i64 (k : Int) ∧ sv = .int .i64 x ∧ kv = .int .i64 y ∧ k ≤ n + 1 ∧ (-1 ≤ x ∧ x ≤ 40) ∧ (-1 ≤ y ∧ y ≤ 40) ∧ Hid (UpStab (fun f => decQ l h a b (n - f) f) k x) ∧ Hid (UpFlak (fun f => decQ l h a b (n - f) f) k y) ∧ Hid (FS w wr w.heap.size s)) (fun fv _ _ _ => n + 1 - (intOf fv).toNat)
  case atStart => exact ⟨0, -1, -1, rfl, rfl, rfl, by omega, by omega, by omega, hide (UpStab.start _), hide (UpFlak.start _), HF1⟩
  case round =>
    obtain ⟨k, x, y, rfl, rfl, rfl, hk1, hx, hy, HS, HKK, HFr⟩ := hrel
    obtain ⟨c0, c1, c2, c3, c4, c5, c6, c7, c8, c9⟩ := HFr.out.ca
    by_cases hkn : k = n + 1
    · have hle : decide ((k : Int) ≤ (n : Int)) = false := decide_eq_false (by omega)
      have hle2 : decide (k ≤ n) = false := decide_eq_false (by omega)
      have hlt : (n : Int) < (k : Int) := by omega
      have hlt2 : n < k := by omega
      have HSF := hide (show IsStab (fun f => decQ l h a b (n - f) f) 0 n x ∧ IsFlak (fun f => decQ l h a b (n - f) f) 0 n y from ⟨(hkn ▸ HS.out).is, (hkn ▸ HKK.out).is⟩)
      have hk' := hide hkn
      clear hkn
      go_wp2_with fail
      refine bodyPost_ret (v := .tuple #[.int .i64 x, .int .i64 y, .int .i64 0]) (by simp [results, Try.results22, go_sem, *]) rfl ⟨x, y, rfl, HSF.out.1, HSF.out.2, HFr.out.bw⟩
    · have hjn : k ≤ n := by omega
      have hle : decide ((k : Int) ≤ (n : Int)) = true := decide_eq_true (by omega)
      have e2 : ((n - k : Nat) : Int) = (n : Int) - (k : Int) := by omega
      rcases decQ_range l h a b (n - k) k with hd | hd | hd
      · have HC := hide (show ∀ W, SQ W s → Calls Try.prog 27 #[.agg #[.slice s.l.A s.l.n s.l.c, .slice s.l.B s.l.m s.l.d, .slice s.h.A s.h.n s.h.c, .slice s.h.B s.h.m s.h.d, .slice s.a.A s.a.n s.a.c, .slice s.a.B s.a.m s.a.d, .slice s.b.A s.b.n s.b.c, .slice s.b.B s.b.m s.b.d, .int .i64 s.m], .int .i64 ((n : Int) - (k : Int)), .int .i64 (k : Int)] W fun e w' => e = .returned (.tuple #[.int .i64 0, .int .i64 0]) ∧ Below W.heap.size W w' from fun W hW => by
          have := qdecide_ok W s l h a b M (n - k) k hW HK.out (by have := HNM.out; omega)
          rwa [hd, e2] at this)
        have H1 := hide HS.out.up
        have H2 := hide HKK.out.up
        simp only [hd] at H1 H2
        clear hd e2
        go_wp2_with (go_at_call 27; (with_reducible refine (HC.out _ HFr.out.q).mono ?_); rintro e w2 ⟨rfl, hb⟩; have HF2 := hide (HFr.out.below hb); obtain ⟨d0, d1, d2, d3, d4, d5, d6, d7, d8, d9⟩ := HF2.out.ca; clear hb)
        go_roundw
        case rel => exact ⟨k + 1, x, y, by go_num, rfl, rfl, by omega, by omega, by omega, hide (by simpa using H1.out), hide (by simpa using H2.out), HF2⟩
        case measure => simp [intOf] <;> omega
      · have HC := hide (show ∀ W, SQ W s → Calls Try.prog 27 #[.agg #[.slice s.l.A s.l.n s.l.c, .slice s.l.B s.l.m s.l.d, .slice s.h.A s.h.n s.h.c, .slice s.h.B s.h.m s.h.d, .slice s.a.A s.a.n s.a.c, .slice s.a.B s.a.m s.a.d, .slice s.b.A s.b.n s.b.c, .slice s.b.B s.b.m s.b.d, .int .i64 s.m], .int .i64 ((n : Int) - (k : Int)), .int .i64 (k : Int)] W fun e w' => e = .returned (.tuple #[.int .i64 1, .int .i64 0]) ∧ Below W.heap.size W w' from fun W hW => by
          have := qdecide_ok W s l h a b M (n - k) k hW HK.out (by have := HNM.out; omega)
          rwa [hd, e2] at this)
        have H1 := hide HS.out.up
        have H2 := hide HKK.out.up
        simp only [hd] at H1 H2
        clear hd e2
        go_wp2_with (go_at_call 27; (with_reducible refine (HC.out _ HFr.out.q).mono ?_); rintro e w2 ⟨rfl, hb⟩; have HF2 := hide (HFr.out.below hb); obtain ⟨d0, d1, d2, d3, d4, d5, d6, d7, d8, d9⟩ := HF2.out.ca; clear hb)
        go_roundw
        case rel => exact ⟨k + 1, (k : Int), y, by go_num, rfl, rfl, by omega, by omega, by omega, hide (by simpa using H1.out), hide (by simpa using H2.out), HF2⟩
        case measure => simp [intOf] <;> omega
      · by_cases hy0 : y < 0
        · have HC := hide (show ∀ W, SQ W s → Calls Try.prog 27 #[.agg #[.slice s.l.A s.l.n s.l.c, .slice s.l.B s.l.m s.l.d, .slice s.h.A s.h.n s.h.c, .slice s.h.B s.h.m s.h.d, .slice s.a.A s.a.n s.a.c, .slice s.a.B s.a.m s.a.d, .slice s.b.A s.b.n s.b.c, .slice s.b.B s.b.m s.b.d, .int .i64 s.m], .int .i64 ((n : Int) - (k : Int)), .int .i64 (k : Int)] W fun e w' => e = .returned (.tuple #[.int .i64 2, .int .i64 0]) ∧ Below W.heap.size W w' from fun W hW => by
            have := qdecide_ok W s l h a b M (n - k) k hW HK.out (by have := HNM.out; omega)
            rwa [hd, e2] at this)
          have H1 := hide HS.out.up
          have H2 := hide HKK.out.up
          simp only [hd] at H1 H2
          clear hd e2
          have gy : decide (y < 0) = true := decide_eq_true hy0
          go_wp2_with (go_at_call 27; (with_reducible refine (HC.out _ HFr.out.q).mono ?_); rintro e w2 ⟨rfl, hb⟩; have HF2 := hide (HFr.out.below hb); obtain ⟨d0, d1, d2, d3, d4, d5, d6, d7, d8, d9⟩ := HF2.out.ca; clear hb)
          go_roundw
          case rel => exact ⟨k + 1, x, (k : Int), by go_num, rfl, rfl, by omega, by omega, by omega, hide (by simpa [hy0] using H1.out), hide (by simpa [hy0] using H2.out), HF2⟩
          case measure => simp [intOf] <;> omega
        · have HC := hide (show ∀ W, SQ W s → Calls Try.prog 27 #[.agg #[.slice s.l.A s.l.n s.l.c, .slice s.l.B s.l.m s.l.d, .slice s.h.A s.h.n s.h.c, .slice s.h.B s.h.m s.h.d, .slice s.a.A s.a.n s.a.c, .slice s.a.B s.a.m s.a.d, .slice s.b.A s.b.n s.b.c, .slice s.b.B s.b.m s.b.d, .int .i64 s.m], .int .i64 ((n : Int) - (k : Int)), .int .i64 (k : Int)] W fun e w' => e = .returned (.tuple #[.int .i64 2, .int .i64 0]) ∧ Below W.heap.size W w' from fun W hW => by
            have := qdecide_ok W s l h a b M (n - k) k hW HK.out (by have := HNM.out; omega)
            rwa [hd, e2] at this)
          have H1 := hide HS.out.up
          have H2 := hide HKK.out.up
          simp only [hd] at H1 H2
          have H3 : Hid (UpFlak (fun f => decQ l h a b (n - f) f) (k + 1) y) := hide (by have h9 := H2.out; rw [if_neg (by omega)] at h9; exact h9)
          clear hd e2
          have gy : decide (y < 0) = false := decide_eq_false hy0
          go_wp2_with (go_at_call 27; (with_reducible refine (HC.out _ HFr.out.q).mono ?_); rintro e w2 ⟨rfl, hb⟩; have HF2 := hide (HFr.out.below hb); obtain ⟨d0, d1, d2, d3, d4, d5, d6, d7, d8, d9⟩ := HF2.out.ca; clear hb)
          go_roundw
          case rel => exact ⟨k + 1, x, y, by go_num, rfl, rfl, by omega, by omega, by omega, hide (by simpa [hy0] using H1.out), H3, HF2⟩
          case measure => simp [intOf] <;> omega
set_option maxRecDepth 100000 in
set_option maxHeartbeats 8000000 in
theorem qlimits_bad (w : World) (s : Sv) (n : Int) (hq : SQ w s) (hc : s.ok = false ∨ n < 0 ∨ s.m < n) :
    Calls Try.prog 22 #[.agg #[.slice s.l.A s.l.n s.l.c, .slice s.l.B s.l.m s.l.d, .slice s.h.A s.h.n s.h.c, .slice s.h.B s.h.m s.h.d, .slice s.a.A s.a.n s.a.c, .slice s.a.B s.a.m s.a.d, .slice s.b.A s.b.n s.b.c, .slice s.b.B s.b.m s.b.d, .int .i64 s.m], .int .i64 n] w fun e w' => e = .returned (.tuple #[.int .i64 0, .int .i64 0, .int .i64 (if s.ok = false then 1 else 3)]) ∧ Below w.heap.size w w' := by
  rcases hk : s.ok
  · have HOK := hide hk
    clear hk hc
    go_enter Try.func22, Try.ntmps22
    go_upto_region 1 with (fail)
    generalize hW : World.alloc w _ = v
    have HF := hide (show FS w v w.heap.size s by rw [← hW]; exact FS.mk0 hq _)
    obtain ⟨a0, a1, a2, a3, a4, a5, a6, a7, a8, a9⟩ := HF.out.ca
    clear hW hq
    go_wp2_with (go_at_call 34; (with_reducible refine (qcheckv_any _ s HF.out.q).mono ?_); rintro e w1 ⟨rfl, hb⟩; rw [HOK.out]; have HF1 := hide (HF.out.below hb); obtain ⟨b0, b1, b2, b3, b4, b5, b6, b7, b8, b9⟩ := HF1.out.ca; clear hb)
    refine bodyPost_ret (v := .tuple #[.int .i64 0, .int .i64 0, .int .i64 1]) (by simp [results, Try.results22, go_sem, *]) rfl ⟨rfl, HF1.out.bw⟩
  · have HOK := hide hk
    rw [hk] at hc
    have hc : n < 0 ∨ s.m < n := by simpa using hc
    clear hk
    by_cases h1 : n < 0
    · have g1 : decide (n < 0) = true := decide_eq_true h1
      clear hc h1
      go_enter Try.func22, Try.ntmps22
      go_upto_region 1 with (fail)
      generalize hW : World.alloc w _ = v
      have HF := hide (show FS w v w.heap.size s by rw [← hW]; exact FS.mk0 hq _)
      obtain ⟨a0, a1, a2, a3, a4, a5, a6, a7, a8, a9⟩ := HF.out.ca
      clear hW hq
      go_wp2_with (go_at_call 34; (with_reducible refine (qcheckv_any _ s HF.out.q).mono ?_); rintro e w1 ⟨rfl, hb⟩; rw [HOK.out]; have HF1 := hide (HF.out.below hb); obtain ⟨b0, b1, b2, b3, b4, b5, b6, b7, b8, b9⟩ := HF1.out.ca; clear hb)
      refine bodyPost_ret (v := .tuple #[.int .i64 0, .int .i64 0, .int .i64 3]) (by simp [results, Try.results22, go_sem, *]) rfl ⟨rfl, HF1.out.bw⟩
    · have g1 : decide (n < 0) = false := decide_eq_false h1
      have g2 : decide (s.m < n) = true := decide_eq_true (by omega)
      clear hc h1
      go_enter Try.func22, Try.ntmps22
      go_upto_region 1 with (fail)
      generalize hW : World.alloc w _ = v
      have HF := hide (show FS w v w.heap.size s by rw [← hW]; exact FS.mk0 hq _)
      obtain ⟨a0, a1, a2, a3, a4, a5, a6, a7, a8, a9⟩ := HF.out.ca
      clear hW hq
      go_wp2_with (go_at_call 34; (with_reducible refine (qcheckv_any _ s HF.out.q).mono ?_); rintro e w1 ⟨rfl, hb⟩; rw [HOK.out]; have HF1 := hide (HF.out.below hb); obtain ⟨b0, b1, b2, b3, b4, b5, b6, b7, b8, b9⟩ := HF1.out.ca; clear hb)
      refine bodyPost_ret (v := .tuple #[.int .i64 0, .int .i64 0, .int .i64 3]) (by simp [results, Try.results22, go_sem, *]) rfl ⟨rfl, HF1.out.bw⟩
end Go.Proofs.Ytnokfhkcfebimaa

/- Contracts: noise.Choose. -/
namespace Go.Proofs.Ytnokfhkcfebimaa
open Go.RowKit

def chooseL (n k : Int) : List Nat := if n < 0 ∨ 32 < n then [] else if k < 0 ∨ n < k then [] else lm (ch n.toNat k.toNat)
def chooseE (n : Int) : Int := if n < 0 ∨ 32 < n then 3 else 0
theorem nof_zero (w : World) : Calls Try.prog 116 #[.int .u64 0] w fun e w' => ∃ A m c, e = .returned (.slice A m c) ∧ m ≤ c ∧ m ≤ 2 ∧ Ul w' none A m (lm 0) ∧ Below w.heap.size w w' := nof_any w 0 (by omega)
theorem index_row {N K : Nat} (hK : K < 33) (W : World) : (Instr.index 132 (.agg (rowCells N).toArray) (.int .i64 (K : Int))).run Try.prog W = .ok (.int .u64 (ch N K : Int)) W := by
  have h1 : (underlying 132).run Try.prog W = .ok (.array 33 118) W := run_underlying Try.underlying132 W
  have h2 : (isAgg 118).run Try.prog W = .ok false W := by
    unfold isAgg
    rw [Sem.run_bind, run_underlying Try.underlying118]
    rfl
  have h3 : (sizeOf 118).run Try.prog W = .ok 1 W := by
    unfold sizeOf typeInfo
    have hi : (Try.prog.info? 118).map (·.size) = some 1 := by kernel_rfl
    cases h : Try.prog.info? 118 with
    | none => rw [h] at hi; simp at hi
    | some i =>
      rw [h] at hi
      simp at hi
      simp [go_sem, h, hi]
  have hget : (rowCells N)[K]? = some (.int .u64 (ch N K : Int)) := rowCells_get hK
  have hK2 : (K : Int) < 33 := by omega
  simp [Instr.index, asIntOf, part, Sem.run_bind, Sem.run_pure, Result.andThen_ok, h1, h2, h3, hget, hK2]
  intro h
  omega
end Go.Proofs.Ytnokfhkcfebimaa

/- Contracts: the reference's Choose. -/
namespace Go.Proofs.Ytnokfhkcfebimaa
open Go.RowKit

theorem ch_one : ∀ n, ch n 1 = n
  | 0 => rfl
  | n + 1 => by show ch n 0 + ch n 1 = _; rw [ch_zero, ch_one n]; omega
theorem ch_mul : ∀ n k : Nat, ch (n + 1) (k + 1) * (k + 1) = ch n k * (n + 1)
  | 0, 0 => rfl
  | 0, k + 1 => by
    show (ch 0 (k + 1) + ch 0 (k + 2)) * (k + 2) = ch 0 (k + 1) * 1
    show (0 + 0) * _ = 0 * 1
    omega
  | n + 1, 0 => by rw [ch_one, ch_zero]; omega
  | n + 1, k + 1 => by
    have h1 := ch_mul n k
    have h2 := ch_mul n (k + 1)
    show (ch (n + 1) (k + 1) + ch (n + 1) (k + 2)) * (k + 1 + 1) = (ch n k + ch n (k + 1)) * (n + 1 + 1)
    have e : ch (n + 1) (k + 1) = ch n k + ch n (k + 1) := rfl
    rw [Nat.add_mul, h2]
    rw [Nat.mul_add _ (k + 1) 1, h1, e, Nat.mul_one]
    rw [show n + 1 + 1 = (n + 1) + 1 from rfl, Nat.mul_add _ (n + 1) 1, Nat.mul_one, Nat.add_mul]
    omega
theorem ch_step {d i : Nat} : ch (d + i) i * (d + (i + 1)) / (i + 1) = ch (d + (i + 1)) (i + 1) := by
  have h := ch_mul (d + i) i
  rw [show d + (i + 1) = d + i + 1 by omega, ← h]
  exact Nat.mul_div_cancel _ (by omega)
theorem r1of_zero (w : World) : Calls Try.prog 138 #[.int .u64 0] w fun e w' => ∃ A m c, e = .returned (.slice A m c) ∧ m ≤ c ∧ m ≤ 2 ∧ Ul w' none A m (lm 0) ∧ Below w.heap.size w w' := r1of_any w 0 (by omega)
end Go.Proofs.Ytnokfhkcfebimaa

/- Contracts: the noise law's one and known. -/
namespace Go.Proofs.Ytnokfhkcfebimaa
open Go.RowKit

set_option maxRecDepth 100000 in
set_option maxHeartbeats 4000000 in
theorem small11 (w : World) : Calls Try.prog 40 #[.int .i64 1, .int .i64 1] w fun e w' => Ret1 w (some (mkRat 1 1)) e w' := small_any w 1 1 (by omega) (by omega) (by omega)
theorem small13 (w : World) : Calls Try.prog 40 #[.int .i64 1, .int .i64 3] w fun e w' => Ret1 w (some (mkRat 1 3)) e w' := small_any w 1 3 (by omega) (by omega) (by omega)
theorem small49 (w : World) : Calls Try.prog 40 #[.int .i64 4, .int .i64 9] w fun e w' => Ret1 w (some (mkRat 4 9)) e w' := small_any w 4 9 (by omega) (by omega) (by omega)
theorem small127 (w : World) : Calls Try.prog 40 #[.int .i64 1, .int .i64 27] w fun e w' => Ret1 w (some (mkRat 1 27)) e w' := small_any w 1 27 (by omega) (by omega) (by omega)
theorem chn13 : Chn (mkRat 1 3) := ⟨by decide +kernel, by decide +kernel, by decide +kernel⟩
theorem exactly31 (w : World) (a : Fa) (ha : Fo w a (some (mkRat 1 3))) : Calls Try.prog 56 #[.agg #[.slice a.A a.n a.c, .slice a.B a.m a.d], .int .i64 3, .int .i64 1] w fun e w' => RetV w (mkRat 4 9) e w' := by
  have h := exactly_ok w a _ 3 1 ha chn13 (by omega)
  rwa [show tot (mkRat 1 3) 3 (fun j => decide ((j : Int) = 1)) = mkRat 4 9 by decide +kernel] at h
theorem atleast33 (w : World) (a : Fa) (ha : Fo w a (some (mkRat 1 3))) : Calls Try.prog 54 #[.agg #[.slice a.A a.n a.c, .slice a.B a.m a.d], .int .i64 3, .int .i64 3] w fun e w' => RetV w (mkRat 1 27) e w' := by
  have h := atleast_ok w a _ 3 3 ha chn13 (by omega)
  rwa [show tot (mkRat 1 3) 3 (fun j => decide (3 ≤ (j : Int))) = mkRat 1 27 by decide +kernel] at h
end Go.Proofs.Ytnokfhkcfebimaa

/- The walk of the law NoiseChooses. -/
namespace Go.Proofs.Ytnokfhkcfebimaa
open Go.RowKit

theorem two_new (w : World) (x y : Int) (t : TypeId) : Rs (w.alloc (.cells #[.int .i64 x, .int .i64 y] t)) none 1 iv (some ⟨w.heap.size, 0, none⟩) [x, y] := by
  intro _
  refine ⟨w.heap.size, 0, rfl, by simp, by simp, fun k a hk j u hu => ?_⟩
  have hj : j = 0 := by
    have := (List.getElem?_eq_some_iff.1 hu).1
    simp [iv] at this
    omega
  subst hj
  simp [iv] at hu
  subst hu
  rcases k with _ | _ | k
  · simp at hk; subst hk; simp [go_sem]
  · simp at hk; subst hk; simp [go_sem]
  · simp at hk
end Go.Proofs.Ytnokfhkcfebimaa

/- Contracts: the law's bits. -/
namespace Go.Proofs.Ytnokfhkcfebimaa
open Go.RowKit

theorem info4 : (Try.prog.info? 4).map (fun i => (i.zero, i.size, i.bytes)) = some (some (.bool false), 1, 1) := by kernel_rfl
theorem bv_len (b : Bool) : (bv b).length = 1 := rfl
theorem bv_one (b : Bool) : ∀ u ∈ bv b, u.oneCell' = true := by
  intro u hu
  simp [bv] at hu
  subst hu
  rfl
/-- A slice of bools of a call's own. -/
structure OBl (w0 w : World) (A : Option Addr) (m c : Nat) (l : List Bool) : Prop where
  own : w.ownsRow w0.heap.size 4 1 (.slice A m c) m (l.flatMap bv)
  len : l.length = m
  fr : Fr w0 w (fun _ => False)
theorem OBl.rs {w0 w : World} {A : Option Addr} {m c : Nat} {l : List Bool} (h : OBl w0 w A m c l) : Rs w none 1 bv A l := Rs.of_own h.own bv_len h.len (by simp)
theorem OBl.cap {w0 w : World} {A : Option Addr} {m c : Nat} {l : List Bool} (h : OBl w0 w A m c l) : m ≤ c := own_slice_cap h.own (by omega)
theorem OBl.nil (w : World) : OBl w w none 0 0 [] := ⟨World.ownsRow_nil _ _ _ _, rfl, Fr.refl _ _⟩
theorem wl_app_bool {w0 w : World} {ops : Array Oper} {rest : List Oper} {o : Oper} {a : Act} {Q : Exit → Act → World → Prop} (hgd : o.guard = none) (s x : Operand) (t : TypeId) (ht : Try.prog.underlying t = some (.slice 4))
    (ho : o.op = .call { callee := .builtin .append, args := #[s, x], argTypes := #[t, t] })
    (A : Option Addr) (m c : Nat) (l : List Bool) (X : Bool) (hs : a.eval s = .slice A m c) (hx : a.eval x = .slice (some ⟨w.heap.size, 0, none⟩) 1 1) (hO : OBl w0 w A m c l) (h63 : m + 1 ≤ 4294967296)
    (h : ∀ A' c' w', OBl w0 w' A' (m + 1) c' (l ++ [X]) → wpList Try.prog ops Q rest (a.put o.dst (.slice A' (m + 1) c')) w') :
    wpList Try.prog ops Q (o :: rest) a (w.alloc (.cells #[.bool X] 4)) := by
  have hO1 : OBl w0 (w.alloc (.cells #[.bool X] 4)) A m c l := ⟨hO.own.kept (grown_of_below ((Below.refl _ _).alloc (Nat.le_refl _) _) none) (Classical.em _), hO.len, hO.fr.alloc _⟩
  refine wl_append _ hgd s x t ho w0.heap.size 4 _ 1 1 ht info4 rfl (by omega) (.slice A m c) m l hs hO1.own _ 1 1 [X] hx
    (rs_one (av := none) (by simp) (by simp) (by intro j u hu; match j with | 0 => simp [bv] at hu; subst hu; simp [go_sem] | j + 1 => simp [bv] at hu)) rfl bv_len bv_one h63 (by omega) hO1.fr.size ?_
  intro A' c' w' hown hgr _
  refine h A' c' w' ⟨hown, by simp [hO.len], hO1.fr.grown hgr ?_⟩
  intro g hg
  left
  rcases hO1.own.2 with ⟨h1, _⟩ | ⟨g', cap, cur, hv, hb, _⟩
  · rw [h1] at hg; simp [Value.ownBlock] at hg
  · rw [hv] at hg
    simp [Value.ownBlock] at hg
    omega
/-- The bits of a number, the least first. -/
def bitL (x n : Nat) : List Bool := (List.range n).map fun i => decide (x / 2 ^ i % 2 = 1)
theorem bitL_succ (x n : Nat) : bitL x (n + 1) = bitL x n ++ [decide (x / 2 ^ n % 2 = 1)] := by
  unfold bitL
  rw [List.range_succ, List.map_append]
  rfl
theorem bitL_len (x n : Nat) : (bitL x n).length = n := by simp [bitL]
end Go.Proofs.Ytnokfhkcfebimaa

/- What came in, whatever it is, reads as plain values: rows, fractions. -/
namespace Go.Proofs.Ytnokfhkcfebimaa
open Go.RowKit Go.WideShapes Go.Deep

theorem jcells26 : Try.prog.cellsOf 26 = 2 := by kernel_rfl
theorem jcells24 : Try.prog.cellsOf 24 = 1 := by kernel_rfl
theorem jcells97 : Try.prog.cellsOf 97 = 1 := by kernel_rfl
theorem jcells3 : Try.prog.cellsOf 3 = 1 := by kernel_rfl
theorem jcells4 : Try.prog.cellsOf 4 = 1 := by kernel_rfl

section
variable {H : Type} {enc : TypeId × Value → H} {w : World} {base : Nat} {spare : Nat → Bool} {held : Bool}

theorem jfld {fs : Array Field} {n : Nat} {cs : List Value} {xs : List (DataW H × List MemPlace)} (hf : ∀ (i : Nat) (f : Field), fs[i]? = some f → DataW.trod enc Try.prog w base spare held n f.type ((cs.drop f.offset).take (Try.prog.cellsOf f.type)) = xs[i]?)
    (i : Nat) (t : TypeId) (o k : Nat) (ht : (fs[i]?).map (fun f => (f.type, f.offset)) = some (t, o)) (hk : Try.prog.cellsOf t = k) (hi : i < xs.length) : ∃ y, DataW.trod enc Try.prog w base spare held n t ((cs.drop o).take k) = some y := by
  cases hfi : fs[i]? with
  | none => rw [hfi] at ht; simp at ht
  | some f =>
    rw [hfi] at ht
    simp at ht
    obtain ⟨rfl, rfl⟩ := ht
    have := hf i f hfi
    rw [hk] at this
    exact ⟨_, this.trans (List.getElem?_eq_getElem hi)⟩
/-- A row whose elements read as f's. -/
theorem came_row {α : Type} (f : α → List Value) (s : Nat) (p : α → Prop) (x0 : α) {t e : TypeId} (ht : Try.prog.underlying t = some (.slice e)) (hc : Try.prog.cellsOf e = s) (hs : 0 < s) (hf : ∀ a, (f a).length = s)
    (hel : ∀ (n : Nat) (cs : List Value) (x : DataW H × List MemPlace), DataW.trod enc Try.prog w base spare held n e cs = some x → ∃ a, cs = f a ∧ p a)
    {fuel : Nat} {cs : List Value} {x : DataW H × List MemPlace} (h : DataW.trod enc Try.prog w base spare held fuel t cs = some x) :
    ∃ (A : Option Addr) (n c : Nat) (l : List α), cs = [.slice A n c] ∧ l.length = n ∧ n ≤ c ∧ c ≤ maxLen ∧ (∀ a ∈ l, p a) ∧ Rs w none s f A l := by
  rcases open_slice ht h with ⟨h2, -⟩ | ⟨a, len, cap, mm, nn, D, Pl, h2, -, h4, h5, h6, -, h8⟩
  · exact ⟨none, 0, 0, [], h2, rfl, Nat.le_refl _, Nat.zero_le _, by simp, Rs.nil⟩
  · have hle : len ≤ mm := by rw [h6]; split <;> omega
    rw [hc] at h8
    have tk : ∀ i, i < len → ∃ t : α, (∀ j u, (f t)[j]? = some u → w.cell? ((a.add (i * s)).add j) = some u) ∧ p t := by
      intro i hi
      obtain ⟨cs', h9, h10⟩ := h8 i (by omega)
      obtain ⟨t, rfl, hp⟩ := hel _ _ _ h10
      obtain ⟨-, -, h11⟩ := World.cells?_some h9
      exact ⟨t, fun j u hu => (h11 j (by have := (List.getElem?_eq_some_iff.1 hu).1; rwa [hf] at this)).trans hu, hp⟩
    let g : Nat → α := fun i => if hi : i < len then Classical.choose (tk i hi) else x0
    have hgp : ∀ i, i < len → (∀ j u, (f (g i))[j]? = some u → w.cell? ((a.add (i * s)).add j) = some u) ∧ p (g i) := by
      intro i hi
      have := Classical.choose_spec (tk i hi)
      simpa [g, hi] using this
    refine ⟨some a, len, cap, (List.range len).map g, h2, by simp, h4, h5, ?_, fun hne => ?_⟩
    · intro b hb
      obtain ⟨i, hi, rfl⟩ := List.mem_map.1 hb
      exact (hgp i (by simpa using hi)).2
    have hpos : 0 < len := by
      rcases Nat.eq_zero_or_pos len with h | h
      · subst h; simp at hne
      · exact h
    obtain ⟨b, o, sp⟩ := a
    have hlen0 := hf (g 0)
    have q0 := (hgp 0 hpos).1 0 _ (List.getElem?_eq_getElem (show 0 < (f (g 0)).length by omega))
    have hsp : sp = none := by
      cases sp with
      | none => rfl
      | some s =>
        simp [Addr.add] at q0
        simp only [World.cell?] at q0
        split at q0 <;> simp at q0
    subst hsp
    have hb : b < w.heap.size := by
      have := World.block_lt_of_cell? w _ q0
      simpa [Addr.add] using this
    refine ⟨b, o, rfl, by simp, hb, fun k z hk j u hu => ?_⟩
    simp only [List.getElem?_map] at hk
    rcases Nat.lt_or_ge k len with hkl | hkl
    · rw [List.getElem?_range hkl] at hk
      simp at hk
      subst hk
      have := (hgp k hkl).1 j u hu
      rwa [Addr.add_lit, Addr.add_lit] at this
    · rw [List.getElem?_eq_none (by simpa using hkl)] at hk
      simp at hk
theorem came_intsI {fuel : Nat} {cs : List Value} {x : DataW H × List MemPlace} (h : DataW.trod enc Try.prog w base spare held fuel 22 cs = some x) :
    ∃ (A : Option Addr) (n c : Nat) (l : List Int), cs = [.slice A n c] ∧ l.length = n ∧ n ≤ c ∧ c ≤ maxLen ∧ Rs w none 1 iv A l := by
  obtain ⟨A, n, c, l, h1, h2, h3, h4, -, h5⟩ := came_row iv 1 (fun _ => True) 0 Try.underlying22 jcells3 (by omega) (fun _ => rfl) (fun n cs x h => by
    obtain ⟨i, hi, -⟩ := DataW.trod_int Try.underlying3 h
    exact ⟨i, hi, trivial⟩) h
  exact ⟨A, n, c, l, h1, h2, h3, h4, h5⟩
theorem came_bools {fuel : Nat} {cs : List Value} {x : DataW H × List MemPlace} (h : DataW.trod enc Try.prog w base spare held fuel 47 cs = some x) :
    ∃ (A : Option Addr) (n c : Nat) (l : List Bool), cs = [.slice A n c] ∧ l.length = n ∧ n ≤ c ∧ c ≤ maxLen ∧ Rs w none 1 bv A l := by
  obtain ⟨A, n, c, l, h1, h2, h3, h4, -, h5⟩ := came_row bv 1 (fun _ => True) false Try.underlying47 jcells4 (by omega) (fun _ => rfl) (fun n cs x h => by
    obtain ⟨i, hi, -⟩ := DataW.trod_bool Try.underlying4 h
    exact ⟨i, hi, trivial⟩) h
  exact ⟨A, n, c, l, h1, h2, h3, h4, h5⟩
theorem came_nat {fuel : Nat} {cs : List Value} {x : DataW H × List MemPlace} (h : DataW.trod enc Try.prog w base spare held fuel 24 cs = some x) :
    ∃ (A : Option Addr) (n c : Nat) (l : List Nat), cs = [.slice A n c] ∧ n ≤ c ∧ c ≤ maxLen ∧ Ul w none A n l := by
  obtain ⟨A, n, c, l, h1, h2, h3, h4, h6, h5⟩ := came_row uv 1 (fun x => x < 4294967296) 0 Try.underlying24 jcells97 (by omega) (fun _ => rfl) (fun n cs x h => by
    obtain ⟨i, hi, -, hw⟩ := DataW.trod_int Try.underlying97 h
    have hw' : -1 < i ∧ i < 4294967296 := by
      have h1 : IntKind.u32.min = 0 := by rfl
      have h2 : IntKind.u32.max = 4294967295 := by rfl
      simp [Lit.wf] at hw
      omega
    refine ⟨i.toNat, ?_, ?_⟩
    · rw [hi]; unfold uv; rw [Int.toNat_of_nonneg (by omega)]
    · omega) h
  exact ⟨A, n, c, l, h1, h3, h4, ⟨h5, h2, fun x hx => h6 x hx⟩⟩
/-- A fraction that came in. -/
structure CameF (w : World) (p : Fa) (l k : List Nat) : Prop where
  u : Ul w none p.A p.n l
  v : Ul w none p.B p.m k
  c : p.n ≤ p.c
  d : p.m ≤ p.d
  n : p.n ≤ 9223372036854775807
  m : p.m ≤ 9223372036854775807
set_option maxRecDepth 20000 in
theorem came_frac {fuel : Nat} {cs : List Value} {x : DataW H × List MemPlace} (h : DataW.trod enc Try.prog w base spare held fuel 26 cs = some x) :
    ∃ (p : Fa) (l k : List Nat), cs = [.slice p.A p.n p.c, .slice p.B p.m p.d] ∧ CameF w p l k := by
  obtain ⟨xs, n, _, -, hc, hl, hf⟩ := DataW.trod_struct Try.underlying26 h
  rw [jcells26] at hc
  have hl' : xs.length = 2 := hl
  match cs, hc with
  | [a0, a1], _ =>
    obtain ⟨y0, h0⟩ := jfld hf 0 24 0 1 rfl jcells24 (by omega)
    obtain ⟨y1, h1⟩ := jfld hf 1 24 1 1 rfl jcells24 (by omega)
    obtain ⟨A, n1, c1, l1, e1, g1, g2, g3⟩ := came_nat h0
    obtain ⟨B, n2, c2, l2, e2, k1, k2, k3⟩ := came_nat h1
    simp at e1 e2
    subst e1 e2
    simp only [maxLen] at g2 k2
    exact ⟨⟨A, n1, c1, B, n2, c2⟩, l1, l2, rfl, ⟨g3, k3, g1, k1, by show n1 ≤ _; omega, by show n2 ≤ _; omega⟩⟩
end
end Go.Proofs.Ytnokfhkcfebimaa

/- A specification that came in. -/
namespace Go.Proofs.Ytnokfhkcfebimaa
open Go.RowKit Go.WideShapes Go.Deep

theorem jcells28 : Try.prog.cellsOf 28 = 9 := by kernel_rfl
theorem CameF.fq {w : World} {p : Fa} {l k : List Nat} (h : CameF w p l k) : Fq w p l k := ⟨h.u, h.v, h.c, h.d, h.n, h.m⟩
section
variable {H : Type} {enc : TypeId × Value → H} {w : World} {base : Nat} {spare : Nat → Bool} {held : Bool}
set_option maxRecDepth 20000 in
theorem came_spec {fuel : Nat} {cs : List Value} {x : DataW H × List MemPlace} (h : DataW.trod enc Try.prog w base spare held fuel 28 cs = some x) :
    ∃ (s : Sv), cs = [.slice s.l.A s.l.n s.l.c, .slice s.l.B s.l.m s.l.d, .slice s.h.A s.h.n s.h.c, .slice s.h.B s.h.m s.h.d, .slice s.a.A s.a.n s.a.c, .slice s.a.B s.a.m s.a.d, .slice s.b.A s.b.n s.b.c, .slice s.b.B s.b.m s.b.d, .int .i64 s.m] ∧ SQ w s := by
  obtain ⟨xs, n, _, -, hc, hl, hf⟩ := DataW.trod_struct Try.underlying28 h
  rw [jcells28] at hc
  have hl' : xs.length = 5 := hl
  match cs, hc with
  | [a0, a1, a2, a3, a4, a5, a6, a7, a8], _ =>
    obtain ⟨y0, h0⟩ := jfld hf 0 26 0 2 rfl jcells26 (by omega)
    obtain ⟨y1, h1⟩ := jfld hf 1 26 2 2 rfl jcells26 (by omega)
    obtain ⟨y2, h2⟩ := jfld hf 2 26 4 2 rfl jcells26 (by omega)
    obtain ⟨y3, h3⟩ := jfld hf 3 26 6 2 rfl jcells26 (by omega)
    obtain ⟨y4, h4⟩ := jfld hf 4 3 8 1 rfl jcells3 (by omega)
    simp only [List.drop_zero, List.take, List.drop] at h0 h1 h2 h3 h4
    obtain ⟨p0, l0, k0, e0, g0⟩ := came_frac h0
    obtain ⟨p1, l1, k1, e1, g1⟩ := came_frac h1
    obtain ⟨p2, l2, k2, e2, g2⟩ := came_frac h2
    obtain ⟨p3, l3, k3, e3, g3⟩ := came_frac h3
    obtain ⟨i, e4, -⟩ := DataW.trod_int Try.underlying3 h4
    simp at e0 e1 e2 e3 e4
    obtain ⟨rfl, rfl⟩ := e0
    obtain ⟨rfl, rfl⟩ := e1
    obtain ⟨rfl, rfl⟩ := e2
    obtain ⟨rfl, rfl⟩ := e3
    subst e4
    exact ⟨⟨p0, p1, p2, p3, i, l0, k0, l1, k1, l2, k2, l3, k3⟩, rfl, ⟨g0.fq, g1.fq, g2.fq, g3.fq⟩⟩
end
end Go.Proofs.Ytnokfhkcfebimaa
