/- The law ValueDiscounts. -/
import Derived.Test.YtnofljgmkdommaaG24
import Derived.Test.YtnofljgmkdommaaG16
import Derived.Test.YtnofljgmkdommaaG25
set_option linter.unusedVariables false
set_option linter.unusedSimpArgs false

/- The law ValueDiscounts. -/
namespace Go.Proofs.Ytnofljgmkdommaa
open Go.RowKit

set_option maxRecDepth 100000 in
set_option maxHeartbeats 16000000 in
theorem vadis28_walk (w : World) (A : Option Addr) (n c : Nat) (bs : List Bool) (half : Int) (hR : Rs w none 1 bv A bs) (hl : bs.length = n) :
    Calls Try.prog 4 #[.slice A n c, .int .i64 half] w fun e w' => e = .returned (.bool true) ∧ Below w.heap.size w w' := by
  have HR := hide hR
  have HL := hide hl
  clear hR hl
  by_cases hn : 200 < n
  · have q0 : decide (200 < (n : Int)) = true := decide_eq_true (by omega)
    have q1 : decide (200 < n) = true := decide_eq_true (by omega)
    go_enter Try.func4, Try.ntmps4
    go_wp2_with (go_at_call 10; (with_reducible refine (vknown28_any _).mono ?_); rintro e w1 ⟨rfl, hb⟩; have HB1 := hide hb; clear hb)
    go_ret
    exact ⟨rfl, HB1.out⟩
  · have q0 : decide (200 < (n : Int)) = false := decide_eq_false (by omega)
    have q1 : decide (200 < n) = false := decide_eq_false (by omega)
    obtain ⟨m, hm, hF⟩ := fold_nat half 6 (by omega) (by omega)
    have HF := hide hF
    have hm5 : m ≤ 5 := by omega
    clear hF hm
    go_enter Try.func4, Try.ntmps4
    go_upto_region 4 with (go_at_call 15; (with_reducible refine (HF.out _).mono ?_); rintro e w' ⟨rfl, rfl⟩)
    generalize hW : World.alloc w _ = v
    have HC := hide (show Cb v w.heap.size [.int .i64 half, .int .i64 (1 + (m : Int))] by rw [← hW]; exact Cb.mk0 [.int .i64 half, .int .i64 (1 + (m : Int))] (by simp) _ rfl)
    have HB := hide (show Below w.heap.size w v by rw [← hW]; exact (Below.refl _ _).alloc (Nat.le_refl _) _)
    obtain ⟨G, hG⟩ : ∃ G, G = w.heap.size := ⟨_, rfl⟩
    rw [← hG] at HC ⊢
    clear hW hG q0 q1 HF
    go_loopw [21] (fun iv' wr => ∃ (k : Nat), iv' = .int .i64 (k : Int) ∧ k ≤ 2 ∧ Hid (Below v.heap.size v wr)) (fun iv' _ => 2 - (intOf iv').toNat)
    case atStart => exact ⟨0, rfl, by omega, hide (Below.refl _ _)⟩
    case round =>
      obtain ⟨k, rfl, hk, HBr⟩ := hrel
      have HBw := hide (HB.out.trans (HBr.out.mono HB.out.size))
      by_cases hk2 : k = 2
      · subst hk2
        go_wp2_with (go_at_call 10; (with_reducible refine (vknown28_any _).mono ?_); rintro e w1 ⟨rfl, hb⟩; have HB1 := hide (HBw.out.trans (hb.mono HBw.out.size)); clear hb)
        go_ret
        exact ⟨rfl, HB1.out⟩
      · have HCr := hide (HC.out.below HBr.out)
        obtain ⟨y, hy⟩ : ∃ y, wr.cell? ⟨G, k, none⟩ = some (.int .i64 y) := by
          rcases (show k = 0 ∨ k = 1 by omega) with rfl | rfl
          · exact ⟨_, HCr.out.cell 0 _ rfl⟩
          · exact ⟨_, HCr.out.cell 1 _ rfl⟩
        have hGz := HCr.out.sz
        have hlt : (k : Int) < 2 := by omega
        have hk0 : (0 : Int) ≤ (k : Int) := by omega
        have hkn : k < 2 := by omega
        obtain ⟨o, ee, hoe⟩ : ∃ o ee, discR bs y = (o, ee) := ⟨_, _, rfl⟩
        have HOE := hide hoe
        clear hoe
        go_upto_region 7 with (go_at_call 16; (with_reducible refine (vadisc_any _ A n c y bs (HR.out.below HBw.out) HL.out).mono ?_); rintro e w1 ⟨q1, rfl, ho, hb⟩; rw [HOE.out] at ho ⊢; dsimp only at ho ⊢; have HO1 := hide ho; have HB1 := hide hb; clear ho hb)
        generalize hW : World.alloc w1 _ = v2
        have HQ2 := hide (show Bq v2 w1.heap.size q1 by rw [← hW]; exact Bq.mk0 _ q1 rfl)
        have HO2 := hide (show Fo v2 q1 o by rw [← hW]; exact HO1.out.alloc _)
        have HB2 := hide (show Below v.heap.size v v2 by rw [← hW]; exact (HBr.out.trans (HB1.out.mono HBr.out.size)).alloc (Nat.le_trans HBr.out.size HB1.out.size) _)
        have HBw2 := hide (HB.out.trans (HB2.out.mono HB.out.size))
        obtain ⟨g7, hg7⟩ : ∃ x, x = w1.heap.size := ⟨_, rfl⟩
        rw [← hg7] at HQ2 ⊢
        clear hW hg7 HO1 HB1 hy hGz
        go_upto_region 8 with (go_at_call 17; (with_reducible refine (r28disc_any _ A n c y bs (HR.out.below HBw2.out) HL.out).mono ?_); rintro e w3 ⟨q2, rfl, ho, hb⟩; rw [HOE.out] at ho ⊢; dsimp only at ho ⊢; have HO3 := hide ho; have HB3 := hide hb; clear ho hb)
        generalize hW : World.alloc w3 _ = v4
        have HQ4 := hide (show Bq v4 w3.heap.size q2 by rw [← hW]; exact Bq.mk0 _ q2 rfl)
        have HO4 := hide (show Fo v4 q2 o by rw [← hW]; exact HO3.out.alloc _)
        have HQ5 := hide (show Bq v4 g7 q1 by rw [← hW]; exact (HQ2.out.below HB3.out).alloc _)
        have HO5 := hide (show Fo v4 q1 o by rw [← hW]; exact (HO2.out.below HB3.out).alloc _)
        have HB4 := hide (show Below v.heap.size v v4 by rw [← hW]; exact (HB2.out.trans (HB3.out.mono HB2.out.size)).alloc (Nat.le_trans HB2.out.size HB3.out.size) _)
        obtain ⟨g9, hg9⟩ : ∃ x, x = w3.heap.size := ⟨_, rfl⟩
        rw [← hg9] at HQ4 ⊢
        clear hW hg9 HO3 HB3 HQ2 HO2 HB2 HBw2
        obtain ⟨y0, y1, -, yz, -⟩ := HQ4.out
        obtain ⟨z0, z1, -, zz, -⟩ := HQ5.out
        go_wp2_with (go_at_call 14; (with_reducible refine (samefrac_eq _ q1 q2 o HO5.out HO4.out).mono ?_); rintro e w5 ⟨rfl, hb⟩; have HB5 := hide (HB4.out.trans (hb.mono HB4.out.size)); clear hb)
        go_roundw
        case rel => exact ⟨k + 1, by go_num, by omega, HB5⟩
        case measure => simp [intOf] <;> omega
end Go.Proofs.Ytnofljgmkdommaa
