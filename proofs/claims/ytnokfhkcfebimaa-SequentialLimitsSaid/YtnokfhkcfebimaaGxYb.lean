/- The walk of the law SequentialLimits. -/
import Derived.Test.YtnokfhkcfebimaaG26
import Derived.Test.YtnokfhkcfebimaaG24
set_option linter.unusedVariables false
set_option linter.unusedSimpArgs false

/- The walk of the law SequentialLimits. -/
namespace Go.Proofs.Ytnokfhkcfebimaa
open Go.RowKit

set_option maxRecDepth 100000 in
set_option maxHeartbeats 16000000 in
theorem limits_walk (w : World) (A : Option Addr) (n c : Nat) (l : List Int) (X : Int) (hA : Rs w none 1 iv A l) (hl : l.length = n) :
    Calls Try.prog 3 #[.slice A n c, .int .i64 X] w fun e w' => e = .returned (.bool true) ∧ Below w.heap.size w w' := by
  have HP := hide (tp_new (w := w) (c := c) hA hl 32)
  clear hA hl
  go_enter Try.func3, Try.ntmps3
  go_upto_region 2 with (go_at_call 19; refine (yspec_any _ w.heap.size A n c l 0 32 HP.out (by omega) (by omega) (by omega)).mono ?_; rintro e w1 ⟨s, lo, hi, al, be, M, b, rfl, hq, hk, hM, -, -, hf⟩; have HB1 := hide (fr_new rfl hf); have HQ1 := hide hq; have HK := hide hk; clear hq hk hf)
  generalize hW : World.alloc w1 _ = v
  have HF := hide (show FS w v w1.heap.size s by rw [← hW]; exact ⟨HB1.out.trans (((Below.refl _ _).alloc (Nat.le_refl _) _ : Below w1.heap.size w1 _).mono HB1.out.size), (FS.mk0 HQ1.out _).cb, HQ1.out.alloc _⟩)
  obtain ⟨g, hg⟩ : ∃ g, g = w1.heap.size := ⟨_, rfl⟩
  rw [← hg] at HF ⊢
  have hm1 : 1 ≤ s.m ∧ s.m ≤ 32 := ⟨by have := HK.out.m; have := HK.out.m1; omega, by have := HK.out.m; have := HK.out.m2; omega⟩
  have hm2 := hm1.1
  have hm3 := hm1.2
  clear hm1
  obtain ⟨q, hq, hF⟩ := fold_nat X (s.m + 1) (by omega) (by omega)
  have HFO := hide hF
  obtain ⟨a0, a1, a2, a3, a4, a5, a6, a7, a8, a9⟩ := HF.out.ca
  clear hW hg hF
  go_upto_region 3 with (go_at_call 20; (with_reducible refine (HFO.out _).mono ?_); rintro e w' ⟨rfl, rfl⟩)
  generalize hW : World.alloc v _ = v2
  have HR := hide (show Rs v2 none 1 iv (some ⟨v.heap.size, 0, none⟩) [X, (q : Int)] by rw [← hW]; exact two_new v X q 3)
  have HF2 := hide (show FS w v2 g s by rw [← hW]; exact HF.out.alloc _)
  obtain ⟨h, hh⟩ : ∃ h, h = v.heap.size := ⟨_, rfl⟩
  rw [← hh] at HR ⊢
  clear hW hh a0 a1 a2 a3 a4 a5 a6 a7 a8 a9
  go_loopw [29] (fun i wr => ∃ j : Nat, i = .int .i64 (j : Int) ∧ j ≤ 2 ∧ Hid (Below v2.heap.size v2 wr)) (fun i _ => 2 - (intOf i).toNat)
  case atStart => exact ⟨0, rfl, by omega, hide (Below.refl _ _)⟩
  case round =>
    obtain ⟨j, rfl, hj, HBr⟩ := hrel
    have HF3 := hide (HF2.out.below HBr.out)
    by_cases hj2 : j = 2
    · subst hj2
      go_wp2_with (go_at_call 24; (with_reducible refine (yknown_any _).mono ?_); rintro e w9 ⟨rfl, hb⟩; have HB9 := hide (HF3.out.bw.trans (hb.mono HF3.out.bw.size)); clear hb)
      go_ret
      exact ⟨rfl, HB9.out⟩
    · have hj0 : (0 : Int) ≤ (j : Int) := by omega
      have hjlt : (j : Int) < 2 := by omega
      obtain ⟨b', o, hbo, -, hb, hcell⟩ := ints_at (HR.out.below HBr.out) (k := j) (by simp; omega)
      obtain ⟨x, hx⟩ : ∃ x, x = [X, (q : Int)][j]'(by simp; omega) := ⟨_, rfl⟩
      rw [← hx] at hcell
      injection hbo with hbo
      injection hbo with h1 h2
      subst h1
      subst h2
      simp only [Nat.zero_add] at hcell
      clear hx
      obtain ⟨b0, b1, b2, b3, b4, b5, b6, b7, b8, b9⟩ := HF3.out.ca
      by_cases hok : 0 ≤ x ∧ x ≤ s.m
      · obtain ⟨i, rfl⟩ : ∃ i : Nat, x = (i : Int) := ⟨x.toNat, by omega⟩
        have hiM : (i : Int) ≤ 32 := by omega
        have HIM := hide (show i ≤ M by have := HK.out.m; omega)
        clear hok
        go_wp2_with (first
          | (go_at_call 22; (with_reducible refine (qlimits_ok _ s lo hi al be M i HF4.out.q HK.out HIM.out).mono ?_); rintro e w5 ⟨x', y', rfl, hx', hy', hb⟩; obtain rfl := HS.out.uniq hx'; obtain rfl := HY.out.uniq hy'; have HF5 := hide (HF4.out.below hb); have HB5 := hide (HB4.out.trans (hb.mono HB4.out.size)); obtain ⟨d0, d1, d2, d3, d4, d5, d6, d7, d8, d9⟩ := HF5.out.ca; clear hx' hy' hb)
          | (go_at_call 21; (with_reducible refine (slimits_ok _ s lo hi al be M i HF3.out.q HK.out HIM.out).mono ?_); rintro e w4 ⟨a, d, rfl, hxx, hyy, hb⟩; have HS := hide hxx; have HY := hide hyy; have HF4 := hide (HF3.out.below hb); have HB4 := hide (HBr.out.trans (hb.mono HBr.out.size)); obtain ⟨c0, c1, c2, c3, c4, c5, c6, c7, c8, c9⟩ := HF4.out.ca; clear hxx hyy hb))
        go_loopw [14] (fun kv wx => ∃ k : Nat, kv = .int .i64 (k : Int) ∧ k ≤ i + 1 ∧ Hid (Below v2.heap.size v2 wx)) (fun kv _ => i + 1 - (intOf kv).toNat)
        case atStart => exact ⟨0, rfl, by omega, HB5⟩
        case round =>
          obtain ⟨k, rfl, hk, HBx⟩ := hrel
          have HF6 := hide (HF2.out.below HBx.out)
          obtain ⟨e0, e1, e2, e3, e4, e5, e6, e7, e8, e9⟩ := HF6.out.ca
          by_cases hk2 : k = i + 1
          · have hle : decide ((k : Int) ≤ (i : Int)) = false := decide_eq_false (by omega)
            have hlt : (i : Int) < (k : Int) := by omega
            have HK2 := hide hk2
            clear hk2
            go_wp2_with fail
            go_roundw
            case rel => exact ⟨j + 1, by go_num, by omega, HBx⟩
            case measure => simp [intOf]; omega
          · have hle : decide ((k : Int) ≤ (i : Int)) = true := decide_eq_true (by omega)
            have hle2 : (k : Int) ≤ (i : Int) := by omega
            have hi1 := (HS.out.iff (fun f g h1 h2 h3 => stable_down HK.out.il HK.out.ih HK.out.lt h1 h2 h3) (k := k) (by omega))
            have hi2 := (HY.out.iff (fun f g h1 h2 h3 => flaky_up HK.out.il HK.out.ih HK.out.lt h1 h2 h3) (k := k) (by omega))
            have e2 : ((i - k : Nat) : Int) = (i : Int) - (k : Int) := by omega
            obtain ⟨D, hD⟩ : ∃ D, D = decQ lo hi al be (i - k) k := ⟨_, rfl⟩
            have HC := hide (show ∀ W, SQ W s → Calls Try.prog 23 #[.agg #[.slice s.l.A s.l.n s.l.c, .slice s.l.B s.l.m s.l.d, .slice s.h.A s.h.n s.h.c, .slice s.h.B s.h.m s.h.d, .slice s.a.A s.a.n s.a.c, .slice s.a.B s.a.m s.a.d, .slice s.b.A s.b.n s.b.c, .slice s.b.B s.b.m s.b.d, .int .i64 s.m], .int .i64 ((i : Int) - (k : Int)), .int .i64 (k : Int)] W fun e w' => e = .returned (.tuple #[.int .i64 D, .int .i64 0]) ∧ Below W.heap.size W w' from fun W hW => by
              have := sdecide_ok W s lo hi al be M (i - k) k hW HK.out (by have := HIM.out; omega)
              rwa [← hD, e2] at this)
            rw [← hD] at hi1 hi2
            clear hD e2
            rcases Decidable.em ((k : Int) ≤ a) with hka | hka
            · have v1 : decide ((k : Int) ≤ a) = true := decide_eq_true hka
              obtain rfl := hi1.2 hka
              have hnd : ¬ (0 ≤ d ∧ d ≤ (k : Int)) := fun h => absurd (hi2.2 h) (by decide)
              clear hi1 hi2 hka
              rcases Decidable.em (0 ≤ d) with hd0 | hd0
              · have u1 : decide (0 ≤ d) = true := decide_eq_true hd0
                have u2 : decide (d ≤ (k : Int)) = false := decide_eq_false (fun h => hnd ⟨hd0, h⟩)
                clear hnd hd0
                go_wp2_with (go_at_call 23; (with_reducible refine (HC.out _ HF6.out.q).mono ?_); rintro e w7 ⟨rfl, hb⟩; have HB7 := hide (HBx.out.trans (hb.mono HBx.out.size)); clear hb)
                go_roundw
                case rel => exact ⟨k + 1, by go_num, by omega, HB7⟩
                case measure => simp [intOf] <;> omega
              · have u1 : decide (0 ≤ d) = false := decide_eq_false hd0
                clear hnd hd0
                go_wp2_with (go_at_call 23; (with_reducible refine (HC.out _ HF6.out.q).mono ?_); rintro e w7 ⟨rfl, hb⟩; have HB7 := hide (HBx.out.trans (hb.mono HBx.out.size)); clear hb)
                go_roundw
                case rel => exact ⟨k + 1, by go_num, by omega, HB7⟩
                case measure => simp [intOf] <;> omega
            · have v1 : decide ((k : Int) ≤ a) = false := decide_eq_false hka
              have x1 : decide (D = 1) = false := decide_eq_false (fun h => hka (hi1.1 h))
              rcases Decidable.em (0 ≤ d) with hd0 | hd0
              · have u1 : decide (0 ≤ d) = true := decide_eq_true hd0
                rcases Decidable.em (d ≤ (k : Int)) with hdk | hdk
                · have u2 : decide (d ≤ (k : Int)) = true := decide_eq_true hdk
                  obtain rfl := hi2.2 ⟨hd0, hdk⟩
                  clear hi1 hi2 hd0 hdk hka x1
                  go_wp2_with (go_at_call 23; (with_reducible refine (HC.out _ HF6.out.q).mono ?_); rintro e w7 ⟨rfl, hb⟩; have HB7 := hide (HBx.out.trans (hb.mono HBx.out.size)); clear hb)
                  go_roundw
                  case rel => exact ⟨k + 1, by go_num, by omega, HB7⟩
                  case measure => simp [intOf] <;> omega
                · have u2 : decide (d ≤ (k : Int)) = false := decide_eq_false hdk
                  have x2 : decide (D = 2) = false := decide_eq_false (fun h => hdk (hi2.1 h).2)
                  have x3 : D ≠ 2 := fun h => hdk (hi2.1 h).2
                  have x4 : (k : Int) < d := by omega
                  have y1 : ¬ D = 1 := fun h => hka (hi1.1 h)
                  have y3 : (D == 1) = false := by simp [y1]
                  have y4 : (D == 2) = false := by simp [x3]
                  clear hi1 hi2 hd0 hdk hka
                  go_wp2_with (go_at_call 23; (with_reducible refine (HC.out _ HF6.out.q).mono ?_); rintro e w7 ⟨rfl, hb⟩; have HB7 := hide (HBx.out.trans (hb.mono HBx.out.size)); clear hb)
                  go_roundw
                  case rel => exact ⟨k + 1, by go_num, by omega, HB7⟩
                  case measure => simp [intOf] <;> omega
              · have u1 : decide (0 ≤ d) = false := decide_eq_false hd0
                have x2 : decide (D = 2) = false := decide_eq_false (fun h => hd0 (hi2.1 h).1)
                have y1 : ¬ D = 1 := fun h => hka (hi1.1 h)
                have y2 : ¬ D = 2 := fun h => hd0 (hi2.1 h).1
                have y3 : (D == 1) = false := by simp [y1]
                have y4 : (D == 2) = false := by simp [y2]
                clear hi1 hi2 hd0 hka
                go_wp2_with (go_at_call 23; (with_reducible refine (HC.out _ HF6.out.q).mono ?_); rintro e w7 ⟨rfl, hb⟩; have HB7 := hide (HBx.out.trans (hb.mono HBx.out.size)); clear hb)
                go_roundw
                case rel => exact ⟨k + 1, by go_num, by omega, HB7⟩
                case measure => simp [intOf] <;> omega
      · have HBAD := hide (show s.ok = false ∨ x < 0 ∨ s.m < x by right; omega)
        have hE : (if s.ok = false then (1 : Int) else 3) = 3 := by rw [HK.out.ok]; rfl
        clear hok
        have HQB := hide (show ∀ W, SQ W s → Calls Try.prog 22 #[.agg #[.slice s.l.A s.l.n s.l.c, .slice s.l.B s.l.m s.l.d, .slice s.h.A s.h.n s.h.c, .slice s.h.B s.h.m s.h.d, .slice s.a.A s.a.n s.a.c, .slice s.a.B s.a.m s.a.d, .slice s.b.A s.b.n s.b.c, .slice s.b.B s.b.m s.b.d, .int .i64 s.m], .int .i64 x] W fun e w' => e = .returned (.tuple #[.int .i64 0, .int .i64 0, .int .i64 3]) ∧ Below W.heap.size W w' from fun W hW => by have := qlimits_bad W s x hW HBAD.out; rwa [hE] at this)
        have HSB := hide (show ∀ W, SQ W s → Calls Try.prog 21 #[.agg #[.slice s.l.A s.l.n s.l.c, .slice s.l.B s.l.m s.l.d, .slice s.h.A s.h.n s.h.c, .slice s.h.B s.h.m s.h.d, .slice s.a.A s.a.n s.a.c, .slice s.a.B s.a.m s.a.d, .slice s.b.A s.b.n s.b.c, .slice s.b.B s.b.m s.b.d, .int .i64 s.m], .int .i64 x] W fun e w' => e = .returned (.tuple #[.int .i64 0, .int .i64 0, .int .i64 3]) ∧ Below W.heap.size W w' from fun W hW => by have := slimits_bad W s x hW HBAD.out; rwa [hE] at this)
        clear hE
        go_wp2_with (first
          | (go_at_call 22; (with_reducible refine (HQB.out _ HF4.out.q).mono ?_); rintro e w5 ⟨rfl, hb⟩; have HB5 := hide (HB4.out.trans (hb.mono HB4.out.size)); clear hb)
          | (go_at_call 21; (with_reducible refine (HSB.out _ HF3.out.q).mono ?_); rintro e w4 ⟨rfl, hb⟩; have HF4 := hide (HF3.out.below hb); have HB4 := hide (HBr.out.trans (hb.mono HBr.out.size)); obtain ⟨c0, c1, c2, c3, c4, c5, c6, c7, c8, c9⟩ := HF4.out.ca; clear hb))
        go_loopw [14] (fun kv wx => kv = .int .i64 0 ∧ Hid (Below v2.heap.size v2 wx)) (fun _ _ => 0)
        case atStart => exact ⟨rfl, HB5⟩
        case round =>
          obtain ⟨rfl, HBx⟩ := hrel
          go_wp2_with fail
          go_roundw
          case rel => exact ⟨j + 1, by go_num, by omega, HBx⟩
          case measure => simp [intOf]; omega
end Go.Proofs.Ytnokfhkcfebimaa
