/- The walk of the law NoiseChooses. -/
import Derived.Test.YtclflfglhbkfkaaG13
import Derived.Test.YtclflfglhbkfkaaG12
set_option linter.unusedVariables false
set_option linter.unusedSimpArgs false

/- The walk of the law NoiseChooses. -/
namespace Go.Proofs.Ytclflfglhbkfkaa
open Go.RowKit

theorem two_new (w : World) (x y : Int) (t : TypeId) : Rs (w.alloc (.cells #[.int .i64 x, .int .i64 y] t)) none 1 iv (some ⟨w.heap.size, 0, none⟩) [x, y] := by
  intro _
  refine ⟨w.heap.size, 0, rfl, by simp, by simp, fun k a hk j u hu => ?_⟩
  have hj : j = 0 := by
    have := (List.getElem?_eq_some_iff.1 hu).1
    simp [iv] at this
    omega
  subst hj
  simp [iv] at hu
  subst hu
  rcases k with _ | _ | k
  · simp at hk; subst hk; simp [go_sem]
  · simp at hk; subst hk; simp [go_sem]
  · simp at hk
set_option maxRecDepth 100000 in
set_option maxHeartbeats 8000000 in
theorem chooses_walk (w : World) (N K : Int) :
    Calls Try.prog 6 #[.int .i64 N, .int .i64 K] w fun e w' => e = .returned (.bool true) ∧ Below w.heap.size w w' := by
  obtain ⟨m, hm, hF⟩ := fold_nat N 34 (by omega) (by omega)
  obtain ⟨q, hq, hG⟩ := fold_nat K 34 (by omega) (by omega)
  have HF := hide hF
  have HG := hide hG
  clear hF hG
  go_enter Try.func6, Try.ntmps6
  go_upto_region 2 with (go_at_call 12; (with_reducible refine (HF.out _).mono ?_); rintro e w' ⟨rfl, rfl⟩)
  generalize hW : World.alloc w _ = v
  have HR := hide (show Rs v none 1 iv (some ⟨w.heap.size, 0, none⟩) [N, (m : Int)] by rw [← hW]; exact two_new w N m 3)
  have HB := hide (show Below w.heap.size w v by rw [← hW]; exact (Below.refl _ _).alloc (Nat.le_refl _) _)
  clear hW
  go_loopw [18] (fun i wr => ∃ j : Nat, i = .int .i64 (j : Int) ∧ j ≤ 2 ∧ Hid (Below v.heap.size v wr)) (fun i _ => 2 - (intOf i).toNat)
  case atStart => exact ⟨0, rfl, by omega, hide (Below.refl _ _)⟩
  case round =>
    obtain ⟨j, rfl, hj, HBr⟩ := hrel
    by_cases hj2 : j = 2
    · subst hj2
      go_wp2_with (go_at_call 15; (with_reducible refine (known_any _).mono ?_); rintro e w9 ⟨rfl, hb⟩; have HB9 := hide (HBr.out.trans (hb.mono HBr.out.size)); clear hb)
      go_ret
      exact ⟨rfl, HB.out.trans (HB9.out.mono HB.out.size)⟩
    · have hj0 : (0 : Int) ≤ (j : Int) := by omega
      have hjlt : (j : Int) < 2 := by omega
      obtain ⟨b, o, hbo, -, hb, hcell⟩ := ints_at (HR.out.below HBr.out) (k := j) (by simp; omega)
      obtain ⟨x, hx⟩ : ∃ x, x = [N, (m : Int)][j]'(by simp; omega) := ⟨_, rfl⟩
      rw [← hx] at hcell
      injection hbo with hbo
      injection hbo with h1 h2
      subst h1
      subst h2
      simp only [Nat.zero_add] at hcell
      clear hx
      go_upto_region 5 with (go_at_call 12; (with_reducible refine (HG.out _).mono ?_); rintro e w' ⟨rfl, rfl⟩)
      generalize hW : World.alloc wr _ = v2
      have HR2 := hide (show Rs v2 none 1 iv (some ⟨wr.heap.size, 0, none⟩) [K, (q : Int)] by rw [← hW]; exact two_new wr K q 3)
      have HB2 := hide (show Below v.heap.size v v2 by rw [← hW]; exact HBr.out.alloc HBr.out.size _)
      clear hW hcell
      go_loopw [27] (fun i wx => ∃ k : Nat, i = .int .i64 (k : Int) ∧ k ≤ 2 ∧ Hid (Below v2.heap.size v2 wx)) (fun i _ => 2 - (intOf i).toNat)
      case atStart => exact ⟨0, rfl, by omega, hide (Below.refl _ _)⟩
      case round =>
        obtain ⟨k, rfl, hk, HBx⟩ := hrel
        by_cases hk2 : k = 2
        · subst hk2
          go_wp2_with fail
          go_roundw
          case rel => exact ⟨j + 1, by go_num, by omega, hide (HB2.out.trans (HBx.out.mono HB2.out.size))⟩
          case measure => simp [intOf]; omega
        · have hk0 : (0 : Int) ≤ (k : Int) := by omega
          have hklt : (k : Int) < 2 := by omega
          obtain ⟨b, o, hbo, -, hb2, hcell⟩ := ints_at (HR2.out.below HBx.out) (k := k) (by simp; omega)
          obtain ⟨y, hy⟩ : ∃ y, y = [K, (q : Int)][k]'(by simp; omega) := ⟨_, rfl⟩
          rw [← hy] at hcell
          injection hbo with hbo
          injection hbo with h1 h2
          subst h1
          subst h2
          simp only [Nat.zero_add] at hcell
          clear hy
          go_wp2_with (first
            | (go_at_call 25; (with_reducible refine (choose_any _ x y).mono ?_); rintro e w3 ⟨A3, m3, d3, rfl, hd3, hm3, hu, hb⟩; have HU3 := hide hu; have HB3 := hide (HBx.out.trans (hb.mono HBx.out.size)); clear hu hb)
            | (go_at_call 26; (with_reducible refine (rchoose_any _ x y).mono ?_); rintro e w4 ⟨A4, m4, d4, rfl, hd4, hm4, hu, hb⟩; have HU4 := hide hu; have HU3b := hide (HU3.out.below hb); have HB4 := hide (HB3.out.trans (hb.mono HB3.out.size)); have hmm : m3 = m4 := HU3b.out.len.symm.trans HU4.out.len; have HMM := hide hmm; clear hu hb hmm)
            | (go_at_call 27; (with_reducible refine (samenat_eq2 _ A3 A4 m3 m4 d3 d4 HMM.out _ HU3b.out HU4.out (by omega)).mono ?_); rintro e w5 ⟨rfl, hb⟩; have HB5 := hide (HB4.out.trans (hb.mono HB4.out.size)); clear hb))
          go_roundw
          case rel => exact ⟨k + 1, by go_num, by omega, HB5⟩
          case measure => simp [intOf]; omega
end Go.Proofs.Ytclflfglhbkfkaa
