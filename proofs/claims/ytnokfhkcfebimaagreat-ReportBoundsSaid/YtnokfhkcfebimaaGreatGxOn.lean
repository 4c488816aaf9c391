/- The walk of the law ReportBounds. -/
import Derived.Test.YtnokfhkcfebimaaGreatG30
import Derived.Test.YtnokfhkcfebimaaGreatG19
import Derived.Test.YtnokfhkcfebimaaGreatG27
import Derived.Test.YtnokfhkcfebimaaGreatG29
import Derived.Test.YtnokfhkcfebimaaGreatG21
set_option linter.unusedVariables false
set_option linter.unusedSimpArgs false

/- Contracts: the reference's between, AtLeast, AtMost. -/
namespace Go.Proofs.YtnokfhkcfebimaaGreat
open Go.RowKit

theorem sm_stop {r : Rat} {N : Nat} {f : Nat → Bool} {k : Nat} (h : ∀ j, k ≤ j → j ≤ N → f j = false) : ∀ m, sm r N f (k + m) = sm r N f k
  | 0 => rfl
  | m + 1 => by
    show sm r N f (k + m) + (if f (k + m) = true then tm r N (k + m) else 0) = _
    have add0 : ∀ x : Rat, x + 0 = x := fun x => by grind
    rw [sm_stop h m]
    by_cases hN : k + m ≤ N
    · rw [h _ (by omega) hN, if_neg (by simp), add0]
    · rw [tm_over (show N < k + m by omega)]
      split <;> rw [add0]
theorem sm_start {r : Rat} {N : Nat} {f : Nat → Bool} : ∀ {k : Nat}, (∀ j, j < k → f j = false) → sm r N f k = 0
  | 0, _ => rfl
  | k + 1, h => by
    show sm r N f k + (if f k = true then tm r N k else 0) = _
    have add0 : ∀ x : Rat, x + 0 = x := fun x => by grind
    rw [sm_start (fun j hj => h j (by omega)), h k (by omega), if_neg (by simp), add0]
theorem sm_end {r : Rat} {N : Nat} {f : Nat → Bool} {k : Nat} (h : ∀ j, k ≤ j → j ≤ N → f j = false) : sm r N f k = tot r N f := by
  unfold tot
  rcases Nat.le_total k (N + 1) with h1 | h1
  · obtain ⟨d, hd⟩ := Nat.exists_eq_add_of_le h1
    rw [hd, sm_stop h]
  · obtain ⟨d, rfl⟩ := Nat.exists_eq_add_of_le h1
    rw [sm_stop (k := N + 1) (fun j h2 h3 => by omega)]
def btw (lo hi : Int) (j : Nat) : Bool := decide (lo ≤ (j : Int)) && decide ((j : Int) ≤ hi)
theorem rzexactly_ok (w : World) (a : Fa) (r : Rat) (N K : Nat) (ha : Fo w a (some r)) (hc : Chn r) (hN : N ≤ 32) (hK : K ≤ N) : Calls Tryz.prog 151 #[.agg #[.slice a.A a.n a.c, .slice a.B a.m a.d], .int .i64 (N : Int), .int .i64 (K : Int)] w fun e w' => RetV w (tm r N K) e w' :=
  (rzexactly_any w a _ _ (N : Int) (K : Int) ha.1).mono fun e w' h => Ret.ok (by
    rw [fracOf_self ha.2, totR_ok hc hN, tot_one r N K hK]) h
set_option maxRecDepth 100000 in
set_option maxHeartbeats 8000000 in
theorem rzbetween_any (w : World) (a : Fa) (l k : List Nat) (n lo hi : Int) (hq : Fq w a l k) (hlo63 : lo < 9223372036854775808) :
    Calls Tryz.prog 132 #[.agg #[.slice a.A a.n a.c, .slice a.B a.m a.d], .int .i64 n, .int .i64 lo, .int .i64 hi] w fun e w' => Ret w (totR (fracOf l k) n (btw lo hi)) e w' := by
  by_cases hch : chO (fracOf l k) = true
  · by_cases hn : n < 0 ∨ 32 < n
    · have HX := hide (show totR (fracOf l k) n (btw lo hi) = (none, 3) by unfold totR; rw [if_pos hch, if_pos hn])
      have HCH := hide hch
      by_cases hn0 : n < 0
      · clear hch hn
        go_enter Tryz.func132, Tryz.ntmps132
        go_upto_region 1 with (fail)
        generalize hW : World.alloc (World.alloc w _) _ = v
        have HF := hide (show F1 w v a (l) (k) by rw [← hW]; exact F1.mk0 hq _ _)
        obtain ⟨a0, a1, az, r0, r1, rf⟩ := HF.out.ca
        clear hW hq
        go_wp2_with ((go_at_call 46; (with_reducible refine (rzchance_any _ a l k HF.out.q).mono ?_); rintro e w1 ⟨rfl, hb⟩; rw [HCH.out]; have HF1 := hide (HF.out.below hb); obtain ⟨e0, e1, ez, s0, s1, sf⟩ := HF1.out.ca; clear hb))
        refine bodyPost_ret (v := .tuple #[.agg #[.slice none 0 0, .slice none 0 0], .int .i64 3]) (by simp [results, Tryz.results132, go_sem, *]) rfl (HF1.out.err HX.out)
      · have hn32 : decide ((32 : Int) < n) = true := decide_eq_true (by omega)
        clear hch hn
        go_enter Tryz.func132, Tryz.ntmps132
        go_upto_region 1 with (fail)
        generalize hW : World.alloc (World.alloc w _) _ = v
        have HF := hide (show F1 w v a (l) (k) by rw [← hW]; exact F1.mk0 hq _ _)
        obtain ⟨a0, a1, az, r0, r1, rf⟩ := HF.out.ca
        clear hW hq
        go_wp2_with ((go_at_call 46; (with_reducible refine (rzchance_any _ a l k HF.out.q).mono ?_); rintro e w1 ⟨rfl, hb⟩; rw [HCH.out]; have HF1 := hide (HF.out.below hb); obtain ⟨e0, e1, ez, s0, s1, sf⟩ := HF1.out.ca; clear hb))
        refine bodyPost_ret (v := .tuple #[.agg #[.slice none 0 0, .slice none 0 0], .int .i64 3]) (by simp [results, Tryz.results132, go_sem, *]) rfl (HF1.out.err HX.out)
    · obtain ⟨N, rfl⟩ : ∃ N : Nat, n = N := ⟨n.toNat, by omega⟩
      have HN := hide (show N ≤ 32 by omega)
      rcases hA : fracOf l k with _ | r
      · rw [hA] at hch; exact absurd hch (by simp [chO])
      have hA2 := fracOf_some hA
      have hc : Chn r := chO_chn rfl hA2.2.2.1 (by rw [← hA]; exact hch)
      have HCH := hide hch
      have HXX := hide (show totR (some r) (N : Int) (btw lo hi) = (some (tot r N (btw lo hi)), 0) by rw [totR_ok hc HN.out])
      have HFA := hide (show Fo w a (some r) from ⟨by have h := hq; rw [hA2.1, hA2.2.1] at h; exact h, hA2.2.2⟩)
      have dn0 : decide ((N : Int) < 0) = false := decide_eq_false (by omega)
      have dn1 : decide ((32 : Int) < (N : Int)) = false := decide_eq_false (by omega)
      have dn2 : decide (32 < N) = false := decide_eq_false (by omega)
      clear hn hch hA2
      go_enter Tryz.func132, Tryz.ntmps132
      go_upto_region 1 with (fail)
      generalize hW : World.alloc (World.alloc w _) _ = v
      have HF := hide (show F1 w v a (l) (k) by rw [← hW]; exact F1.mk0 hq _ _)
      obtain ⟨a0, a1, az, r0, r1, rf⟩ := HF.out.ca
      clear hW hq
      go_upto_region 6 with (first | (go_at_call 46; (with_reducible refine (rzchance_any _ a l k HF.out.q).mono ?_); rintro e w1 ⟨rfl, hb⟩; rw [HCH.out]; have HF1 := hide (HF.out.below hb); obtain ⟨e0, e1, ez, s0, s1, sf⟩ := HF1.out.ca; clear hb) | go_at_call 48; (with_reducible refine (rzof_zero _).mono ?_); rintro e w3 ⟨q, rfl, ho, hb⟩; have HO := hide ho; have HF3 := hide (HF1.out.below hb); clear ho hb)
      generalize hW : World.alloc w3 _ = v5
      have HX5 := hide (show Fx v5 w3.heap.size q (some 0) by rw [← hW]; exact Fx.mk0 HO.out _ rfl)
      have HF5 := hide (show F1 w v5 a l k by rw [← hW]; exact HF3.out.below ((Below.refl _ _).alloc (Nat.le_refl _) _))
      have hz3 := HF3.out.sz
      obtain ⟨b10, hb10⟩ : ∃ b, b = w3.heap.size := ⟨_, rfl⟩
      rw [← hb10] at HX5 hz3 ⊢
      clear hW hb10
      by_cases h0 : ¬ 0 < lo
      · go_upto_region 7 with (fail)
        go_loopw [11, 12, 13] (fun kv xv ev wr => ∃ (K : Nat) (c : Fa), kv = .int .i64 (K : Int) ∧ K < 9223372036854775808 ∧ lo ≤ (K : Int) ∧ Hid (Fx wr b10 c (some (sm r N (btw lo hi) K))) ∧ Hid (F1 w wr a l k)) (fun kv _ _ _ => N + 1 - (intOf kv).toNat)
        case atStart => exact ⟨0, q, rfl, by omega, by omega, hide (by rw [sm_start (fun j hj => by omega)]; exact HX5.out), HF5⟩
        case round =>
          obtain ⟨K, c, rfl, hK63, hlo, HX, HF⟩ := hrel
          clear HX5 HF5
          obtain ⟨d0, d1, df, dz, -⟩ := HX.out.b
          obtain ⟨e0, e1, ez, s0, s1, sf⟩ := HF.out.ca
          have HA := hide (HFA.out.below HF.out.bw)
          by_cases hgo : (K : Int) ≤ (N : Int) ∧ (K : Int) ≤ hi
          · obtain ⟨hgo1, hgo2⟩ := hgo
            have hKN : K ≤ N := by omega
            have hK33 : K ≤ 32 := by have := HN.out; omega
            have HB := hide (show sm r N (btw lo hi) K + tm r N K = sm r N (btw lo hi) (K + 1) by
              show _ = sm r N (btw lo hi) K + (if btw lo hi K = true then tm r N K else 0)
              rw [if_pos (by simp [btw, hlo, hgo2])])
            have HS := hide (show fitsR (sm r N (btw lo hi) K + tm r N K) = true by rw [HB.out]; exact hc.fsm HN.out (btw lo hi) (m := K + 1) (by omega))
            by_cases hmin : hi < (N : Int)
            · (go_upto_region 10 with (go_at_call 151; (with_reducible refine (rzexactly_ok _ a r N K HA.out hc HN.out hKN).mono ?_); rintro e w6 ⟨x, rfl, ho, hb⟩; have HO6 := hide ho; have HF6 := hide (HF.out.below hb); have HX6 := hide (HX.out.below hb); clear ho hb); generalize hW : World.alloc w6 _ = v7; have HX7 := hide (show Fx v7 b10 c (some (sm r N (btw lo hi) K)) by rw [← hW]; exact HX6.out.alloc _); have HY7 := hide (show Fo v7 x (some (tm r N K)) by rw [← hW]; exact HO6.out.alloc _); have HF7 := hide (show F1 w v7 a l k by rw [← hW]; exact HF6.out.below ((Below.refl _ _).alloc (Nat.le_refl _) _)); have hy7 := hide (show Bq v7 w6.heap.size x by rw [← hW]; exact Bq.mk0 _ x rfl); obtain ⟨f0, f1, ff, fz, -⟩ := HX7.out.b; obtain ⟨h0, h1, hf, hz, -⟩ := hy7.out; clear hW; go_wp2_with (go_at_call 90; (with_reducible refine (r2add_ok _ c x (sm r N (btw lo hi) K) (tm r N K) HX7.out.o HY7.out HS.out).mono ?_); rintro e w11 ⟨c11, rfl, ho, hb⟩; rw [HB.out] at ho; have HO11 := hide ho; have HF11 := hide (HF7.out.below hb); have HX11 := hide (HX7.out.below hb); obtain ⟨g0, g1, gf, gz, -⟩ := HX11.out.b; clear ho hb); exact ⟨⟨K + 1, c11, by go_num, by omega, by omega, hide (HX11.out.put HO11.out), hide (HF11.out.one (fr_fill _ _) HX11.out.b.nb (by omega))⟩, by simp [intOf] <;> omega⟩)
            · (go_upto_region 10 with (go_at_call 151; (with_reducible refine (rzexactly_ok _ a r N K HA.out hc HN.out hKN).mono ?_); rintro e w6 ⟨x, rfl, ho, hb⟩; have HO6 := hide ho; have HF6 := hide (HF.out.below hb); have HX6 := hide (HX.out.below hb); clear ho hb); generalize hW : World.alloc w6 _ = v7; have HX7 := hide (show Fx v7 b10 c (some (sm r N (btw lo hi) K)) by rw [← hW]; exact HX6.out.alloc _); have HY7 := hide (show Fo v7 x (some (tm r N K)) by rw [← hW]; exact HO6.out.alloc _); have HF7 := hide (show F1 w v7 a l k by rw [← hW]; exact HF6.out.below ((Below.refl _ _).alloc (Nat.le_refl _) _)); have hy7 := hide (show Bq v7 w6.heap.size x by rw [← hW]; exact Bq.mk0 _ x rfl); obtain ⟨f0, f1, ff, fz, -⟩ := HX7.out.b; obtain ⟨h0, h1, hf, hz, -⟩ := hy7.out; clear hW; go_wp2_with (go_at_call 90; (with_reducible refine (r2add_ok _ c x (sm r N (btw lo hi) K) (tm r N K) HX7.out.o HY7.out HS.out).mono ?_); rintro e w11 ⟨c11, rfl, ho, hb⟩; rw [HB.out] at ho; have HO11 := hide ho; have HF11 := hide (HF7.out.below hb); have HX11 := hide (HX7.out.below hb); obtain ⟨g0, g1, gf, gz, -⟩ := HX11.out.b; clear ho hb); exact ⟨⟨K + 1, c11, by go_num, by omega, by omega, hide (HX11.out.put HO11.out), hide (HF11.out.one (fr_fill _ _) HX11.out.b.nb (by omega))⟩, by simp [intOf] <;> omega⟩)
          · have HE := hide (show sm r N (btw lo hi) K = tot r N (btw lo hi) from sm_end (fun j h1 h2 => by simp [btw]; omega))
            rw [HE.out] at HX
            by_cases hmin : hi < (N : Int)
            · have hgo1 : ¬ (K : Int) ≤ hi := by omega
              go_wp2_with fail
              refine bodyPost_ret (v := .tuple #[.agg #[.slice c.A c.n c.c, .slice c.B c.m c.d], .int .i64 0]) (by simp [results, Tryz.results132, go_sem, *]) rfl (HF.out.end (by rw [HXX.out]) (by rw [HXX.out]; exact HX.out.o))
            · have hgo1 : ¬ (K : Int) ≤ (N : Int) := by omega
              go_wp2_with fail
              refine bodyPost_ret (v := .tuple #[.agg #[.slice c.A c.n c.c, .slice c.B c.m c.d], .int .i64 0]) (by simp [results, Tryz.results132, go_sem, *]) rfl (HF.out.end (by rw [HXX.out]) (by rw [HXX.out]; exact HX.out.o))
      · obtain ⟨L0, hL⟩ : ∃ L : Nat, lo = L := ⟨lo.toNat, by omega⟩
        have HLO := hide hL
        clear hL
        go_upto_region 7 with (fail)
        go_loopw [11, 12, 13] (fun kv xv ev wr => ∃ (K : Nat) (c : Fa), kv = .int .i64 (K : Int) ∧ K < 9223372036854775808 ∧ lo ≤ (K : Int) ∧ Hid (Fx wr b10 c (some (sm r N (btw lo hi) K))) ∧ Hid (F1 w wr a l k)) (fun kv _ _ _ => N + 1 - (intOf kv).toNat)
        case atStart => exact ⟨L0, q, by rw [HLO.out], by have := HLO.out; omega, by rw [HLO.out]; omega, hide (by rw [sm_start (fun j hj => by have := HLO.out; simp [btw]; omega)]; exact HX5.out), HF5⟩
        case round =>
          obtain ⟨K, c, rfl, hK63, hlo, HX, HF⟩ := hrel
          clear HX5 HF5
          obtain ⟨d0, d1, df, dz, -⟩ := HX.out.b
          obtain ⟨e0, e1, ez, s0, s1, sf⟩ := HF.out.ca
          have HA := hide (HFA.out.below HF.out.bw)
          by_cases hgo : (K : Int) ≤ (N : Int) ∧ (K : Int) ≤ hi
          · obtain ⟨hgo1, hgo2⟩ := hgo
            have hKN : K ≤ N := by omega
            have hK33 : K ≤ 32 := by have := HN.out; omega
            have HB := hide (show sm r N (btw lo hi) K + tm r N K = sm r N (btw lo hi) (K + 1) by
              show _ = sm r N (btw lo hi) K + (if btw lo hi K = true then tm r N K else 0)
              rw [if_pos (by simp [btw, hlo, hgo2])])
            have HS := hide (show fitsR (sm r N (btw lo hi) K + tm r N K) = true by rw [HB.out]; exact hc.fsm HN.out (btw lo hi) (m := K + 1) (by omega))
            by_cases hmin : hi < (N : Int)
            · (go_upto_region 10 with (go_at_call 151; (with_reducible refine (rzexactly_ok _ a r N K HA.out hc HN.out hKN).mono ?_); rintro e w6 ⟨x, rfl, ho, hb⟩; have HO6 := hide ho; have HF6 := hide (HF.out.below hb); have HX6 := hide (HX.out.below hb); clear ho hb); generalize hW : World.alloc w6 _ = v7; have HX7 := hide (show Fx v7 b10 c (some (sm r N (btw lo hi) K)) by rw [← hW]; exact HX6.out.alloc _); have HY7 := hide (show Fo v7 x (some (tm r N K)) by rw [← hW]; exact HO6.out.alloc _); have HF7 := hide (show F1 w v7 a l k by rw [← hW]; exact HF6.out.below ((Below.refl _ _).alloc (Nat.le_refl _) _)); have hy7 := hide (show Bq v7 w6.heap.size x by rw [← hW]; exact Bq.mk0 _ x rfl); obtain ⟨f0, f1, ff, fz, -⟩ := HX7.out.b; obtain ⟨h0, h1, hf, hz, -⟩ := hy7.out; clear hW; go_wp2_with (go_at_call 90; (with_reducible refine (r2add_ok _ c x (sm r N (btw lo hi) K) (tm r N K) HX7.out.o HY7.out HS.out).mono ?_); rintro e w11 ⟨c11, rfl, ho, hb⟩; rw [HB.out] at ho; have HO11 := hide ho; have HF11 := hide (HF7.out.below hb); have HX11 := hide (HX7.out.below hb); obtain ⟨g0, g1, gf, gz, -⟩ := HX11.out.b; clear ho hb); exact ⟨⟨K + 1, c11, by go_num, by omega, by omega, hide (HX11.out.put HO11.out), hide (HF11.out.one (fr_fill _ _) HX11.out.b.nb (by omega))⟩, by simp [intOf] <;> omega⟩)
            · (go_upto_region 10 with (go_at_call 151; (with_reducible refine (rzexactly_ok _ a r N K HA.out hc HN.out hKN).mono ?_); rintro e w6 ⟨x, rfl, ho, hb⟩; have HO6 := hide ho; have HF6 := hide (HF.out.below hb); have HX6 := hide (HX.out.below hb); clear ho hb); generalize hW : World.alloc w6 _ = v7; have HX7 := hide (show Fx v7 b10 c (some (sm r N (btw lo hi) K)) by rw [← hW]; exact HX6.out.alloc _); have HY7 := hide (show Fo v7 x (some (tm r N K)) by rw [← hW]; exact HO6.out.alloc _); have HF7 := hide (show F1 w v7 a l k by rw [← hW]; exact HF6.out.below ((Below.refl _ _).alloc (Nat.le_refl _) _)); have hy7 := hide (show Bq v7 w6.heap.size x by rw [← hW]; exact Bq.mk0 _ x rfl); obtain ⟨f0, f1, ff, fz, -⟩ := HX7.out.b; obtain ⟨h0, h1, hf, hz, -⟩ := hy7.out; clear hW; go_wp2_with (go_at_call 90; (with_reducible refine (r2add_ok _ c x (sm r N (btw lo hi) K) (tm r N K) HX7.out.o HY7.out HS.out).mono ?_); rintro e w11 ⟨c11, rfl, ho, hb⟩; rw [HB.out] at ho; have HO11 := hide ho; have HF11 := hide (HF7.out.below hb); have HX11 := hide (HX7.out.below hb); obtain ⟨g0, g1, gf, gz, -⟩ := HX11.out.b; clear ho hb); exact ⟨⟨K + 1, c11, by go_num, by omega, by omega, hide (HX11.out.put HO11.out), hide (HF11.out.one (fr_fill _ _) HX11.out.b.nb (by omega))⟩, by simp [intOf] <;> omega⟩)
          · have HE := hide (show sm r N (btw lo hi) K = tot r N (btw lo hi) from sm_end (fun j h1 h2 => by simp [btw]; omega))
            rw [HE.out] at HX
            by_cases hmin : hi < (N : Int)
            · have hgo1 : ¬ (K : Int) ≤ hi := by omega
              go_wp2_with fail
              refine bodyPost_ret (v := .tuple #[.agg #[.slice c.A c.n c.c, .slice c.B c.m c.d], .int .i64 0]) (by simp [results, Tryz.results132, go_sem, *]) rfl (HF.out.end (by rw [HXX.out]) (by rw [HXX.out]; exact HX.out.o))
            · have hgo1 : ¬ (K : Int) ≤ (N : Int) := by omega
              go_wp2_with fail
              refine bodyPost_ret (v := .tuple #[.agg #[.slice c.A c.n c.c, .slice c.B c.m c.d], .int .i64 0]) (by simp [results, Tryz.results132, go_sem, *]) rfl (HF.out.end (by rw [HXX.out]) (by rw [HXX.out]; exact HX.out.o))
  · have HX := hide (show totR (fracOf l k) n (btw lo hi) = (none, 41) by unfold totR; rw [if_neg hch])
    have HCH := hide (show chO (fracOf l k) = false by simpa using hch)
    clear hch
    go_enter Tryz.func132, Tryz.ntmps132
    go_upto_region 1 with (fail)
    generalize hW : World.alloc (World.alloc w _) _ = v
    have HF := hide (show F1 w v a (l) (k) by rw [← hW]; exact F1.mk0 hq _ _)
    obtain ⟨a0, a1, az, r0, r1, rf⟩ := HF.out.ca
    clear hW hq
    go_wp2_with ((go_at_call 46; (with_reducible refine (rzchance_any _ a l k HF.out.q).mono ?_); rintro e w1 ⟨rfl, hb⟩; rw [HCH.out]; have HF1 := hide (HF.out.below hb); obtain ⟨e0, e1, ez, s0, s1, sf⟩ := HF1.out.ca; clear hb))
    refine bodyPost_ret (v := .tuple #[.agg #[.slice none 0 0, .slice none 0 0], .int .i64 41]) (by simp [results, Tryz.results132, go_sem, *]) rfl (HF1.out.err HX.out)
end Go.Proofs.YtnokfhkcfebimaaGreat

/- Contracts: the reference's AtLeast, AtMost. -/
namespace Go.Proofs.YtnokfhkcfebimaaGreat
open Go.RowKit

set_option maxRecDepth 100000 in
set_option maxHeartbeats 4000000 in
theorem rzatleast_any (w : World) (a : Fa) (l k : List Nat) (n m : Int) (hq : Fq w a l k) (hm : m < 9223372036854775808) :
    Calls Tryz.prog 99 #[.agg #[.slice a.A a.n a.c, .slice a.B a.m a.d], .int .i64 n, .int .i64 m] w fun e w' => Ret w (totR (fracOf l k) n (btw m n)) e w' := by
  go_enter Tryz.func99, Tryz.ntmps99
  go_upto_region 1 with (fail)
  generalize hW : World.alloc (World.alloc w _) _ = v
  have HF := hide (show F1 w v a (l) (k) by rw [← hW]; exact F1.mk0 hq _ _)
  obtain ⟨a0, a1, az, r0, r1, rf⟩ := HF.out.ca
  clear hW hq
  go_wp2_with (go_at_call 132; (with_reducible refine (rzbetween_any _ a l k n (m) (n) HF.out.q hm).mono ?_); rintro e w1 ⟨q, rfl, ho, hb⟩; have HO := hide ho; have HF1 := hide (HF.out.below hb); obtain ⟨e0, e1, ez, s0, s1, sf⟩ := HF1.out.ca; clear ho hb)
  refine bodyPost_ret (v := .tuple #[.agg #[.slice q.A q.n q.c, .slice q.B q.m q.d], .int .i64 (totR (fracOf l k) n (btw m n)).2]) (by simp [results, Tryz.results99, go_sem, *]) rfl (HF1.out.end rfl HO.out)
set_option maxRecDepth 100000 in
set_option maxHeartbeats 4000000 in
theorem rzatmost_any (w : World) (a : Fa) (l k : List Nat) (n m : Int) (hq : Fq w a l k) :
    Calls Tryz.prog 97 #[.agg #[.slice a.A a.n a.c, .slice a.B a.m a.d], .int .i64 n, .int .i64 m] w fun e w' => Ret w (totR (fracOf l k) n (btw 0 m)) e w' := by
  go_enter Tryz.func97, Tryz.ntmps97
  go_upto_region 1 with (fail)
  generalize hW : World.alloc (World.alloc w _) _ = v
  have HF := hide (show F1 w v a (l) (k) by rw [← hW]; exact F1.mk0 hq _ _)
  obtain ⟨a0, a1, az, r0, r1, rf⟩ := HF.out.ca
  clear hW hq
  go_wp2_with (go_at_call 132; (with_reducible refine (rzbetween_any _ a l k n (0) (m) HF.out.q (by omega)).mono ?_); rintro e w1 ⟨q, rfl, ho, hb⟩; have HO := hide ho; have HF1 := hide (HF.out.below hb); obtain ⟨e0, e1, ez, s0, s1, sf⟩ := HF1.out.ca; clear ho hb)
  refine bodyPost_ret (v := .tuple #[.agg #[.slice q.A q.n q.c, .slice q.B q.m q.d], .int .i64 (totR (fracOf l k) n (btw 0 m)).2]) (by simp [results, Tryz.results97, go_sem, *]) rfl (HF1.out.end rfl HO.out)
end Go.Proofs.YtnokfhkcfebimaaGreat

/- Plain laws: the reference's sums count what the program's count. -/
namespace Go.Proofs.YtnokfhkcfebimaaGreat
open Go.RowKit

theorem sm_congr {r : Rat} {N : Nat} {f g : Nat → Bool} : ∀ {m : Nat}, (∀ j, j < m → f j = g j) → sm r N f m = sm r N g m
  | 0, _ => rfl
  | m + 1, h => by
    show sm r N f m + (if f m = true then tm r N m else 0) = sm r N g m + (if g m = true then tm r N m else 0)
    rw [sm_congr (fun j hj => h j (by omega)), h m (by omega)]
theorem tot_congr {r : Rat} {N : Nat} {f g : Nat → Bool} (h : ∀ j, j ≤ N → f j = g j) : tot r N f = tot r N g :=
  sm_congr (fun j hj => h j (by omega))
theorem totR_congr {o : Option Rat} {n : Int} {f g : Nat → Bool} (h : ∀ j : Nat, (j : Int) ≤ n → f j = g j) : totR o n f = totR o n g := by
  unfold totR
  split
  · split
    · rfl
    · cases o with
      | none => rfl
      | some r =>
        show (some (tot r n.toNat f), (0 : Int)) = (some (tot r n.toNat g), 0)
        rw [tot_congr (fun j hj => h j (by omega))]
  · rfl
theorem totR_ge (o : Option Rat) (n m : Int) : totR o n (btw m n) = totR o n (fun j => decide (m ≤ (j : Int))) :=
  totR_congr (fun j hj => by simp [btw, hj])
theorem totR_le (o : Option Rat) (n m : Int) : totR o n (btw 0 m) = totR o n (fun j => decide ((j : Int) ≤ m)) :=
  totR_congr (fun j hj => by simp [btw])
end Go.Proofs.YtnokfhkcfebimaaGreat

/- Plain laws of the bounds of a rate. -/
namespace Go.Proofs.YtnokfhkcfebimaaGreat

/-- At most k failures, at least k failures. -/
def atM (r : Rat) (n : Nat) (k : Int) : Rat := tot r n (fun j => decide ((j : Int) ≤ k))
def atL (r : Rat) (n : Nat) (k : Int) : Rat := tot r n (fun j => decide (k ≤ (j : Int)))
theorem atM_split (r : Rat) (n : Nat) (k : Int) : atM r n k = 1 - atL r n (k + 1) := by
  have h := tot_split r n (fun j => decide ((j : Int) ≤ k))
  have e : tot r n (fun i => !decide ((i : Int) ≤ k)) = atL r n (k + 1) := tot_congr (fun j _ => by
    rw [← decide_not]; exact decide_eq_decide.2 (by omega))
  rw [e] at h
  unfold atM
  grind
theorem up_closed (k : Int) (i : Nat) : decide (k ≤ (i : Int)) = true → decide (k ≤ ((i + 1 : Nat) : Int)) = true := by simp; omega
theorem atL_grow {r s : Rat} (h0 : 0 ≤ r) (h1 : s ≤ 1) (h : r ≤ s) (n : Nat) (k : Int) : atL r n k ≤ atL s n k := tot_grow h0 h1 h (up_closed k)
theorem atM_anti {r s : Rat} (h0 : 0 ≤ r) (h1 : s ≤ 1) (h : r ≤ s) (n : Nat) (k : Int) : atM s n k ≤ atM r n k := by
  rw [atM_split, atM_split]
  have := atL_grow h0 h1 h n (k + 1)
  grind
theorem atM_runs {r : Rat} (h0 : 0 ≤ r) (h1 : r ≤ 1) (n : Nat) (k : Int) : atM r (n + 1) k ≤ atM r n k := by
  rw [atM_split, atM_split]
  have : atL r n (k + 1) ≤ atL r (n + 1) (k + 1) := tot_more h0 h1 (up_closed (k + 1))
  grind
theorem atM_more {r : Rat} (h0 : 0 ≤ r) (h1 : r ≤ 1) (n : Nat) {k m : Int} (h : k ≤ m) : atM r n k ≤ atM r n m :=
  tot_mono h0 h1 (fun i hi => by simp at hi ⊢; omega)
theorem atL_less {r : Rat} (h0 : 0 ≤ r) (h1 : r ≤ 1) (n : Nat) {k m : Int} (h : k ≤ m) : atL r n m ≤ atL r n k :=
  tot_mono h0 h1 (fun i hi => by simp at hi ⊢; omega)
/-- What a search ends with. -/
def IsSr (g : Nat → Bool) (N r : Nat) : Prop := r ≤ N ∧ (r = 0 ∨ g (r - 1) = false) ∧ (r = N ∨ g r = true)
/-- The least one. -/
def IsLst (g : Nat → Bool) (N r : Nat) : Prop := r ≤ N ∧ (∀ h, h < r → g h = false) ∧ (r < N → g r = true)
theorem IsSr.lst {g : Nat → Bool} {N r : Nat} (h : IsSr g N r) (hm : ∀ i j, i ≤ j → g i = true → g j = true) : IsLst g N r := by
  obtain ⟨h1, h2, h3⟩ := h
  refine ⟨h1, fun i hi => ?_, fun hr => ?_⟩
  · rcases h2 with h2 | h2
    · omega
    · cases hg : g i with
      | false => rfl
      | true => rw [hm i (r - 1) (by omega) hg] at h2; cases h2
  · rcases h3 with h3 | h3
    · omega
    · exact h3
theorem IsLst.uniq {g : Nat → Bool} {N r s : Nat} (h : IsLst g N r) (k : IsLst g N s) : r = s := by
  rcases Nat.lt_trichotomy r s with h1 | h1 | h1
  · have := k.2.1 r h1
    rw [h.2.2 (by have := k.1; omega)] at this
    cases this
  · exact h1
  · have := h.2.1 s h1
    rw [k.2.2 (by have := h.1; omega)] at this
    cases this
theorem IsLst.cut {g : Nat → Bool} {N M r : Nat} (h : IsLst g N r) (hM : M ≤ N) : IsLst g M (min r M) := by
  obtain ⟨h1, h2, h3⟩ := h
  exact ⟨Nat.min_le_right _ _, fun i hi => h2 i (by omega), fun hr => by
    have e : min r M = r := by omega
    rw [e]; exact h3 (by omega)⟩
theorem IsLst.mono {g g' : Nat → Bool} {N r s : Nat} (h : IsLst g N r) (k : IsLst g' N s) (hg : ∀ i, g i = true → g' i = true) : s ≤ r := by
  rcases Nat.lt_or_ge r s with h1 | h1
  · have h2 := k.2.1 r h1
    rw [hg r (h.2.2 (by have := k.1; omega))] at h2
    cases h2
  · exact h1
/-- The greatest one. -/
def IsGrt (g : Nat → Bool) (N v : Nat) : Prop := v ≤ N ∧ (v = 0 ∨ g v = true) ∧ (v = N ∨ g (v + 1) = false)
theorem IsGrt.uniq {g : Nat → Bool} {N v u : Nat} (hm : ∀ i j, i ≤ j → g j = true → g i = true) (h : IsGrt g N v) (k : IsGrt g N u) : v = u := by
  have key : ∀ {v u : Nat}, IsGrt g N v → IsGrt g N u → ¬ v < u := by
    intro v u h k hlt
    rcases k.2.1 with h1 | h1
    · omega
    · rcases h.2.2 with h2 | h2
      · have := k.1; omega
      · rw [hm (v + 1) u (by omega) h1] at h2; cases h2
  have h1 := key h k
  have h2 := key k h
  omega
theorem IsLst.grt {g : Nat → Bool} {N r : Nat} (hm : ∀ i j, i ≤ j → g j = true → g i = true) (h : IsLst (fun i => !g i) (N + 1) r) : IsGrt g N (r - 1) := by
  obtain ⟨h1, h2, h3⟩ := h
  refine ⟨by omega, ?_, ?_⟩
  · rcases Nat.eq_zero_or_pos r with h4 | h4
    · left; omega
    · right
      have := h2 (r - 1) (by omega)
      simpa using this
  · by_cases h4 : r - 1 = N
    · exact .inl h4
    · right
      rcases Nat.eq_zero_or_pos r with h5 | h5
      · subst h5
        have h6 := h3 (by omega)
        simp only [Bool.not_eq_true'] at h6
        cases h7 : g (0 - 1 + 1) with
        | false => rfl
        | true => rw [hm 0 _ (by omega) h7] at h6; cases h6
      · have h6 := h3 (by omega)
        rw [show r - 1 + 1 = r by omega]
        simpa using h6
end Go.Proofs.YtnokfhkcfebimaaGreat

/- The walk of the law NoiseTails. -/
namespace Go.Proofs.YtnokfhkcfebimaaGreat
open Go.RowKit

theorem atmost_okI (w : World) (a : Fa) (r : Rat) (n : Nat) (N m : Int) (hN : N = n) (ha : Fo w a (some r)) (hc : Chn r) (hn : n ≤ 32) : Calls Tryz.prog 61 #[.agg #[.slice a.A a.n a.c, .slice a.B a.m a.d], .int .i64 N, .int .i64 m] w fun e w' => RetV w (tot r n (fun j => decide ((j : Int) ≤ m))) e w' := by
  subst hN
  exact atmost_ok w a r n m ha hc hn
theorem tails_one (r : Rat) (n : Nat) (k : Int) : tot r n (fun j => decide (k ≤ (j : Int))) + tot r n (fun j => decide ((j : Int) ≤ k - 1)) = 1 := by
  have h := tot_split r n (fun j => decide (k ≤ (j : Int)))
  have e : (fun j : Nat => !decide (k ≤ (j : Int))) = (fun j : Nat => decide ((j : Int) ≤ k - 1)) := by
    funext j
    rw [← decide_not]
    exact decide_eq_decide.2 (by omega)
  rw [e] at h
  exact h
end Go.Proofs.YtnokfhkcfebimaaGreat

/- Contracts: report's closures, within, sort.Search over them. -/
namespace Go.Proofs.YtnokfhkcfebimaaGreat
open Go.RowKit

theorem mk1000_chn {b : Nat} (h : b ≤ 1000) : Chn (mkRat (b : Int) 1000) := mk_chn (by omega) h (by omega)

set_option maxRecDepth 100000 in
set_option maxHeartbeats 8000000 in
theorem upg_any (w : World) (p : Fa) (r : Rat) (n : Nat) (m : Int) (b3 b4 : Nat) (h3 : w.cell? ⟨b3, 0, none⟩ = some (.int .i64 (n : Int))) (h4 : w.cell? ⟨b4, 0, none⟩ = some (.int .i64 m)) (s3 : b3 < w.heap.size) (s4 : b4 < w.heap.size) (hp : Fo w p (some r)) (hc : Chn r) (hn : n ≤ 32) :
    Calls Tryz.prog 60 #[.agg #[.slice p.A p.n p.c, .slice p.B p.m p.d], .pointer (some ⟨b3, 0, none⟩), .pointer (some ⟨b4, 0, none⟩)] w fun e w' => RetV w (atM r n m) e w' := by
  have HP := hide hp
  have HC := hide hc
  go_enter Tryz.func60, Tryz.ntmps60
  go_upto_region 1 with (fail)
  generalize hW : World.alloc (World.alloc w _) _ = v
  have HB := hide (show Bf v w.heap.size p r by rw [← hW]; exact ⟨(Bq.mk0 _ p rfl).alloc _, (HP.out.alloc _).alloc _⟩)
  have HR := hide (show Rb v (w.heap.size + 1) by rw [← hW]; exact Rb.mk0 _ (by simp))
  have HV := hide (show Below w.heap.size w v by rw [← hW]; exact ((Below.refl _ _).alloc (Nat.le_refl _) _).alloc (by simp) _)
  have k3 : v.cell? ⟨b3, 0, none⟩ = some (.int .i64 (n : Int)) := by rw [HV.out.cell (by exact s3)]; exact h3
  have k4 : v.cell? ⟨b4, 0, none⟩ = some (.int .i64 m) := by rw [HV.out.cell (by exact s4)]; exact h4
  have s0 := HB.out.b.c0
  have s1 := HB.out.b.c1
  clear hW hp hc h3 h4
  go_wp2_with (go_at_call 61; (with_reducible refine (atmost_ok _ p r n m HB.out.o HC.out hn).mono ?_); rintro e w1 ⟨c, rfl, ho, hb⟩; have HO := hide ho; have HB1 := hide (HV.out.trans (hb.mono HV.out.size)); have HR1 := hide (HR.out.below hb); obtain ⟨z0, z1, zf, zz, -⟩ := HR1.out; clear ho hb)
  refine bodyPost_ret (v := .tuple #[.agg #[.slice c.A c.n c.c, .slice c.B c.m c.d], .int .i64 0]) (by simp [results, Tryz.results60, go_sem, *]) rfl ⟨c, rfl, HO.out.put2 HR1.out.nb _ _ (by simp), Rb.end0 HB1.out (by omega) _ _⟩
set_option maxRecDepth 100000 in
set_option maxHeartbeats 8000000 in
theorem upwithin_any (w : World) (b : Nat) (hb1 : b ≤ 1000) (al : Fa) (ar : Rat) (n : Nat) (m : Int) (b3 b4 : Nat) (h3 : w.cell? ⟨b3, 0, none⟩ = some (.int .i64 (n : Int))) (h4 : w.cell? ⟨b4, 0, none⟩ = some (.int .i64 m)) (s3 : b3 < w.heap.size) (s4 : b4 < w.heap.size) (ha : Fo w al (some ar)) (hn : n ≤ 32) :
    Calls Tryz.prog 59 #[.int .i64 (b : Int), .agg #[.slice al.A al.n al.c, .slice al.B al.m al.d], .func (.func 60) #[] #[.pointer (some ⟨b3, 0, none⟩), .pointer (some ⟨b4, 0, none⟩)]] w fun e w' => e = .returned (.bool (decide (atM (mkRat (b : Int) 1000) n m ≤ ar))) ∧ Below w.heap.size w w' := by
  have HA := hide ha
  have HN := hide hn
  have hcc := mk1000_chn hb1
  have HC := hide hcc
  have HF := hide (show ∀ W, Calls Tryz.prog 93 #[.int .i64 (b : Int), .int .i64 1000] W fun e w' => Ret W (some (mkRat (b : Int) 1000), 0) e w' from fun W => fof_any W b 1000 (by omega) (by omega) (by omega))
  by_cases hle : atM (mkRat (b : Int) 1000) n m ≤ ar
  · have HX := hide (show decide (atM (mkRat (b : Int) 1000) n m ≤ ar) = true from decide_eq_true hle)
    have g1 : decide (cmpO (some (atM (mkRat (b : Int) 1000) n m)) (some ar) ≤ 0) = true := decide_eq_true (cmpQ_le.2 hle)
    clear ha hn hcc hle
    go_enter Tryz.func59, Tryz.ntmps59
    go_upto_region 1 with (fail)
    generalize hW : World.alloc w _ = v
    have HV := hide (show Below w.heap.size w v by rw [← hW]; exact (Below.refl _ _).alloc (Nat.le_refl _) _)
    have HL := hide (show Bf v w.heap.size al ar by rw [← hW]; exact ⟨Bq.mk0 _ al rfl, HA.out.alloc _⟩)
    clear hW
    go_upto_region 2 with (go_at_call 93; (with_reducible refine (HF.out _).mono ?_); rintro e w1 ⟨c, rfl, ho, hb⟩; have HO := hide (show Fo w1 c (some (mkRat (b : Int) 1000)) from ho); have HB1 := hide (HV.out.trans (hb.mono HV.out.size)); have HL1 := hide (HL.out.below hb); clear ho hb)
    generalize hW : World.alloc w1 _ = v2
    have HP2 := hide (show Bf v2 w1.heap.size c (mkRat (b : Int) 1000) by rw [← hW]; exact ⟨Bq.mk0 _ c rfl, HO.out.alloc _⟩)
    have HL2 := hide (show Bf v2 w.heap.size al ar by rw [← hW]; exact HL1.out.alloc _)
    have HB2 := hide (show Below w.heap.size w v2 by rw [← hW]; exact HB1.out.alloc HB1.out.size _)
    have k3 : v2.cell? ⟨b3, 0, none⟩ = some (.int .i64 (n : Int)) := by rw [HB2.out.cell (by exact s3)]; exact h3
    have k4 : v2.cell? ⟨b4, 0, none⟩ = some (.int .i64 m) := by rw [HB2.out.cell (by exact s4)]; exact h4
    have z3 : b3 < v2.heap.size := Nat.lt_of_lt_of_le s3 HB2.out.size
    have z4 : b4 < v2.heap.size := Nat.lt_of_lt_of_le s4 HB2.out.size
    obtain ⟨bp, hbp⟩ : ∃ x, x = w1.heap.size := ⟨_, rfl⟩
    rw [← hbp] at HP2 ⊢
    have p0 := HP2.out.b.c0
    have p1 := HP2.out.b.c1
    clear hW hbp h3 h4
    go_upto_region 3 with (go_at_call 60; (with_reducible refine (upg_any _ c _ n m b3 b4 k3 k4 z3 z4 HP2.out.o HC.out HN.out).mono ?_); rintro e w3 ⟨c2, rfl, ho, hb⟩; have HO3 := hide ho; have HB3 := hide (HB2.out.trans (hb.mono HB2.out.size)); have HL3 := hide (HL2.out.below hb); clear ho hb)
    generalize hW : World.alloc w3 _ = v4
    have HP4 := hide (show Bf v4 w3.heap.size c2 _ by rw [← hW]; exact ⟨Bq.mk0 _ c2 rfl, HO3.out.alloc _⟩)
    have HL4 := hide (show Bf v4 w.heap.size al ar by rw [← hW]; exact HL3.out.alloc _)
    have HB4 := hide (show Below w.heap.size w v4 by rw [← hW]; exact HB3.out.alloc HB3.out.size _)
    have q0 := HP4.out.b.c0
    have q1 := HP4.out.b.c1
    have u0 := HL4.out.b.c0
    have u1 := HL4.out.b.c1
    clear hW k3 k4 p0 p1
    go_wp2_with (go_at_call 71; (with_reducible refine (fcmp_o _ c2 al (some (atM (mkRat (b : Int) 1000) n m)) (some ar) HP4.out.o HL4.out.o).mono ?_); rintro e w5 ⟨rfl, hb⟩; have HB8 := hide (HB4.out.trans (hb.mono HB4.out.size)); clear hb)
    refine bodyPost_ret (v := .bool true) (by simp [results, Tryz.results59, go_sem, *]) rfl ⟨by rw [HX.out], HB8.out⟩
  · have HX := hide (show decide (atM (mkRat (b : Int) 1000) n m ≤ ar) = false from decide_eq_false hle)
    have g1 : decide (cmpO (some (atM (mkRat (b : Int) 1000) n m)) (some ar) ≤ 0) = false := decide_eq_false (fun h => hle (cmpQ_le.1 h))
    clear ha hn hcc hle
    go_enter Tryz.func59, Tryz.ntmps59
    go_upto_region 1 with (fail)
    generalize hW : World.alloc w _ = v
    have HV := hide (show Below w.heap.size w v by rw [← hW]; exact (Below.refl _ _).alloc (Nat.le_refl _) _)
    have HL := hide (show Bf v w.heap.size al ar by rw [← hW]; exact ⟨Bq.mk0 _ al rfl, HA.out.alloc _⟩)
    clear hW
    go_upto_region 2 with (go_at_call 93; (with_reducible refine (HF.out _).mono ?_); rintro e w1 ⟨c, rfl, ho, hb⟩; have HO := hide (show Fo w1 c (some (mkRat (b : Int) 1000)) from ho); have HB1 := hide (HV.out.trans (hb.mono HV.out.size)); have HL1 := hide (HL.out.below hb); clear ho hb)
    generalize hW : World.alloc w1 _ = v2
    have HP2 := hide (show Bf v2 w1.heap.size c (mkRat (b : Int) 1000) by rw [← hW]; exact ⟨Bq.mk0 _ c rfl, HO.out.alloc _⟩)
    have HL2 := hide (show Bf v2 w.heap.size al ar by rw [← hW]; exact HL1.out.alloc _)
    have HB2 := hide (show Below w.heap.size w v2 by rw [← hW]; exact HB1.out.alloc HB1.out.size _)
    have k3 : v2.cell? ⟨b3, 0, none⟩ = some (.int .i64 (n : Int)) := by rw [HB2.out.cell (by exact s3)]; exact h3
    have k4 : v2.cell? ⟨b4, 0, none⟩ = some (.int .i64 m) := by rw [HB2.out.cell (by exact s4)]; exact h4
    have z3 : b3 < v2.heap.size := Nat.lt_of_lt_of_le s3 HB2.out.size
    have z4 : b4 < v2.heap.size := Nat.lt_of_lt_of_le s4 HB2.out.size
    obtain ⟨bp, hbp⟩ : ∃ x, x = w1.heap.size := ⟨_, rfl⟩
    rw [← hbp] at HP2 ⊢
    have p0 := HP2.out.b.c0
    have p1 := HP2.out.b.c1
    clear hW hbp h3 h4
    go_upto_region 3 with (go_at_call 60; (with_reducible refine (upg_any _ c _ n m b3 b4 k3 k4 z3 z4 HP2.out.o HC.out HN.out).mono ?_); rintro e w3 ⟨c2, rfl, ho, hb⟩; have HO3 := hide ho; have HB3 := hide (HB2.out.trans (hb.mono HB2.out.size)); have HL3 := hide (HL2.out.below hb); clear ho hb)
    generalize hW : World.alloc w3 _ = v4
    have HP4 := hide (show Bf v4 w3.heap.size c2 _ by rw [← hW]; exact ⟨Bq.mk0 _ c2 rfl, HO3.out.alloc _⟩)
    have HL4 := hide (show Bf v4 w.heap.size al ar by rw [← hW]; exact HL3.out.alloc _)
    have HB4 := hide (show Below w.heap.size w v4 by rw [← hW]; exact HB3.out.alloc HB3.out.size _)
    have q0 := HP4.out.b.c0
    have q1 := HP4.out.b.c1
    have u0 := HL4.out.b.c0
    have u1 := HL4.out.b.c1
    clear hW k3 k4 p0 p1
    go_wp2_with (go_at_call 71; (with_reducible refine (fcmp_o _ c2 al (some (atM (mkRat (b : Int) 1000) n m)) (some ar) HP4.out.o HL4.out.o).mono ?_); rintro e w5 ⟨rfl, hb⟩; have HB8 := hide (HB4.out.trans (hb.mono HB4.out.size)); clear hb)
    refine bodyPost_ret (v := .bool false) (by simp [results, Tryz.results59, go_sem, *]) rfl ⟨by rw [HX.out], HB8.out⟩
set_option maxRecDepth 100000 in
set_option maxHeartbeats 8000000 in
theorem upcl_any (w : World) (b : Nat) (hb1 : b ≤ 1000) (al : Fa) (ar : Rat) (n : Nat) (m : Int) (b2 b3 b4 : Nat) (h3 : w.cell? ⟨b3, 0, none⟩ = some (.int .i64 (n : Int))) (h4 : w.cell? ⟨b4, 0, none⟩ = some (.int .i64 m)) (s3 : b3 < w.heap.size) (s4 : b4 < w.heap.size) (ha : Bf w b2 al ar) (hn : n ≤ 32) :
    Calls Tryz.prog 58 #[.int .i64 (b : Int), .pointer (some ⟨b2, 0, none⟩), .pointer (some ⟨b3, 0, none⟩), .pointer (some ⟨b4, 0, none⟩)] w fun e w' => e = .returned (.bool (decide (atM (mkRat (b : Int) 1000) n m ≤ ar))) ∧ Below w.heap.size w w' := by
  have HA := hide ha
  have a0 := ha.b.c0
  have a1 := ha.b.c1
  have HW := hide (upwithin_any w b hb1 al ar n m b3 b4 h3 h4 s3 s4 ha.o hn)
  obtain ⟨g, hg⟩ : ∃ g, g = decide (atM (mkRat (b : Int) 1000) n m ≤ ar) := ⟨_, rfl⟩
  rw [← hg] at HW ⊢
  clear ha h3 h4 hg
  go_enter Tryz.func58, Tryz.ntmps58
  go_wp2_with (go_at_call 59; (with_reducible refine HW.out.mono ?_); rintro e w1 ⟨rfl, hb⟩; have HB := hide hb; clear hb)
  refine bodyPost_ret (v := .bool (g)) (by simp [results, Tryz.results58, go_sem, *]) rfl ⟨rfl, HB.out⟩
set_option maxRecDepth 100000 in
set_option maxHeartbeats 8000000 in
theorem upsearch_any (w : World) (al : Fa) (ar : Rat) (n : Nat) (m : Int) (b2 b3 b4 : Nat) (h3 : w.cell? ⟨b3, 0, none⟩ = some (.int .i64 (n : Int))) (h4 : w.cell? ⟨b4, 0, none⟩ = some (.int .i64 m)) (s3 : b3 < w.heap.size) (s4 : b4 < w.heap.size) (ha : Bf w b2 al ar) (hn : n ≤ 32) :
    Calls Tryz.prog 57 #[.int .i64 1001, .func (.func 58) #[] #[.pointer (some ⟨b2, 0, none⟩), .pointer (some ⟨b3, 0, none⟩), .pointer (some ⟨b4, 0, none⟩)]] w fun e w' => ∃ r : Nat, e = .returned (.int .i64 (r : Int)) ∧ IsSr (fun (b : Nat) => decide (atM (mkRat (b : Int) 1000) n m ≤ ar)) 1001 r ∧ Below w.heap.size w w' := by
  have HA := hide (show ∀ W, Below w.heap.size w W → ∀ b : Nat, b ≤ 1000 → Calls Tryz.prog 58 #[.int .i64 (b : Int), .pointer (some ⟨b2, 0, none⟩), .pointer (some ⟨b3, 0, none⟩), .pointer (some ⟨b4, 0, none⟩)] W fun e w' => e = .returned (.bool (decide (atM (mkRat (b : Int) 1000) n m ≤ ar))) ∧ Below W.heap.size W w' from fun W hW b hb =>
    upcl_any W b hb al ar n m b2 b3 b4 (by rw [hW.cell (by exact s3)]; exact h3) (by rw [hW.cell (by exact s4)]; exact h4) (Nat.lt_of_lt_of_le s3 hW.size) (Nat.lt_of_lt_of_le s4 hW.size) (ha.below hW) hn)
  obtain ⟨G, hG⟩ : ∃ G : Nat → Bool, G = fun (b : Nat) => decide (atM (mkRat (b : Int) 1000) n m ≤ ar) := ⟨_, rfl⟩
  rw [← hG]
  have HG := hide (show ∀ W, Below w.heap.size w W → ∀ b : Nat, b ≤ 1000 → Calls Tryz.prog 58 #[.int .i64 (b : Int), .pointer (some ⟨b2, 0, none⟩), .pointer (some ⟨b3, 0, none⟩), .pointer (some ⟨b4, 0, none⟩)] W fun e w' => e = .returned (.bool (G b)) ∧ Below W.heap.size W w' from fun W hW b hb => by rw [hG]; exact HA.out W hW b hb)
  clear h3 h4 ha HA hG
  go_enter Tryz.func57, Tryz.ntmps57
  go_wp2_with fail
  go_loopw [5, 6] (fun iv jv wr => ∃ i j : Nat, iv = .int .i64 (i : Int) ∧ jv = .int .i64 (j : Int) ∧ i ≤ j ∧ j ≤ 1001 ∧ Hid (i = 0 ∨ G (i - 1) = false) ∧ Hid (j = 1001 ∨ G j = true) ∧ Hid (Below w.heap.size w wr)) (fun iv jv _ => ((intOf jv).toNat - (intOf iv).toNat))
  case atStart => exact ⟨0, 1001, rfl, rfl, by omega, by omega, hide (.inl rfl), hide (.inl rfl), hide (Below.refl _ _)⟩
  case round =>
    obtain ⟨i, j, rfl, rfl, hij, hj, HI, HJ, HB⟩ := hrel
    by_cases he : i = j
    · subst he
      have hlt : decide ((i : Int) < (i : Int)) = false := decide_eq_false (by omega)
      go_wp2_with fail
      go_ret
      exact ⟨i, rfl, ⟨hj, HI.out, HJ.out⟩, HB.out⟩
    · have hlt : decide ((i : Int) < (j : Int)) = true := decide_eq_true (by omega)
      have hlt2 : (i : Int) < (j : Int) := by omega
      obtain ⟨h, hh⟩ : ∃ h : Nat, h = (i + j) / 2 := ⟨_, rfl⟩
      have hh1 : i ≤ h := by omega
      have hh2 : h < j := by omega
      have hh3 : ((i : Int) + (j : Int)) / 2 = (h : Int) := by omega
      have hw2 : IntKind.u64.wrap ((i : Int) + (j : Int)) = (i : Int) + (j : Int) := by
        show ((i : Int) + (j : Int)) % 18446744073709551616 = _
        omega
      clear hh
      go_upto_region 4 with (fail)
      clear hh3 hw2
      have HC := hide (HG.out wr HB.out h (by omega))
      cases hg : G h
      · rw [hg] at HC
        have HGH := hide hg
        clear hg
        go_wp2_with (go_at_call 58; (with_reducible refine HC.out.mono ?_); rintro e w2 ⟨rfl, hb⟩; have HB2 := hide (HB.out.trans (hb.mono HB.out.size)); clear hb)
        go_roundw
        case rel => exact ⟨h + 1, j, by go_num, rfl, by omega, hj, hide (.inr (by simpa using HGH.out)), HJ, HB2⟩
        case measure => simp [intOf]; omega
      · rw [hg] at HC
        have HGH := hide hg
        clear hg
        go_wp2_with (go_at_call 58; (with_reducible refine HC.out.mono ?_); rintro e w2 ⟨rfl, hb⟩; have HB2 := hide (HB.out.trans (hb.mono HB.out.size)); clear hb)
        go_roundw
        case rel => exact ⟨i, h, rfl, rfl, by omega, by omega, HI, hide (.inr HGH.out), HB2⟩
        case measure => simp [intOf]; omega

set_option maxRecDepth 100000 in
set_option maxHeartbeats 8000000 in
theorem log_any (w : World) (p : Fa) (r : Rat) (n : Nat) (m : Int) (b3 b4 : Nat) (h3 : w.cell? ⟨b3, 0, none⟩ = some (.int .i64 (n : Int))) (h4 : w.cell? ⟨b4, 0, none⟩ = some (.int .i64 m)) (s3 : b3 < w.heap.size) (s4 : b4 < w.heap.size) (hp : Fo w p (some r)) (hc : Chn r) (hn : n ≤ 32) :
    Calls Tryz.prog 65 #[.agg #[.slice p.A p.n p.c, .slice p.B p.m p.d], .pointer (some ⟨b3, 0, none⟩), .pointer (some ⟨b4, 0, none⟩)] w fun e w' => RetV w (atL r n m) e w' := by
  have HP := hide hp
  have HC := hide hc
  go_enter Tryz.func65, Tryz.ntmps65
  go_upto_region 1 with (fail)
  generalize hW : World.alloc (World.alloc w _) _ = v
  have HB := hide (show Bf v w.heap.size p r by rw [← hW]; exact ⟨(Bq.mk0 _ p rfl).alloc _, (HP.out.alloc _).alloc _⟩)
  have HR := hide (show Rb v (w.heap.size + 1) by rw [← hW]; exact Rb.mk0 _ (by simp))
  have HV := hide (show Below w.heap.size w v by rw [← hW]; exact ((Below.refl _ _).alloc (Nat.le_refl _) _).alloc (by simp) _)
  have k3 : v.cell? ⟨b3, 0, none⟩ = some (.int .i64 (n : Int)) := by rw [HV.out.cell (by exact s3)]; exact h3
  have k4 : v.cell? ⟨b4, 0, none⟩ = some (.int .i64 m) := by rw [HV.out.cell (by exact s4)]; exact h4
  have s0 := HB.out.b.c0
  have s1 := HB.out.b.c1
  clear hW hp hc h3 h4
  go_wp2_with (go_at_call 66; (with_reducible refine (atleast_ok _ p r n m HB.out.o HC.out hn).mono ?_); rintro e w1 ⟨c, rfl, ho, hb⟩; have HO := hide ho; have HB1 := hide (HV.out.trans (hb.mono HV.out.size)); have HR1 := hide (HR.out.below hb); obtain ⟨z0, z1, zf, zz, -⟩ := HR1.out; clear ho hb)
  refine bodyPost_ret (v := .tuple #[.agg #[.slice c.A c.n c.c, .slice c.B c.m c.d], .int .i64 0]) (by simp [results, Tryz.results65, go_sem, *]) rfl ⟨c, rfl, HO.out.put2 HR1.out.nb _ _ (by simp), Rb.end0 HB1.out (by omega) _ _⟩
set_option maxRecDepth 100000 in
set_option maxHeartbeats 8000000 in
theorem lowithin_any (w : World) (b : Nat) (hb1 : b ≤ 1000) (al : Fa) (ar : Rat) (n : Nat) (m : Int) (b3 b4 : Nat) (h3 : w.cell? ⟨b3, 0, none⟩ = some (.int .i64 (n : Int))) (h4 : w.cell? ⟨b4, 0, none⟩ = some (.int .i64 m)) (s3 : b3 < w.heap.size) (s4 : b4 < w.heap.size) (ha : Fo w al (some ar)) (hn : n ≤ 32) :
    Calls Tryz.prog 59 #[.int .i64 (b : Int), .agg #[.slice al.A al.n al.c, .slice al.B al.m al.d], .func (.func 65) #[] #[.pointer (some ⟨b3, 0, none⟩), .pointer (some ⟨b4, 0, none⟩)]] w fun e w' => e = .returned (.bool (decide (atL (mkRat (b : Int) 1000) n m ≤ ar))) ∧ Below w.heap.size w w' := by
  have HA := hide ha
  have HN := hide hn
  have hcc := mk1000_chn hb1
  have HC := hide hcc
  have HF := hide (show ∀ W, Calls Tryz.prog 93 #[.int .i64 (b : Int), .int .i64 1000] W fun e w' => Ret W (some (mkRat (b : Int) 1000), 0) e w' from fun W => fof_any W b 1000 (by omega) (by omega) (by omega))
  by_cases hle : atL (mkRat (b : Int) 1000) n m ≤ ar
  · have HX := hide (show decide (atL (mkRat (b : Int) 1000) n m ≤ ar) = true from decide_eq_true hle)
    have g1 : decide (cmpO (some (atL (mkRat (b : Int) 1000) n m)) (some ar) ≤ 0) = true := decide_eq_true (cmpQ_le.2 hle)
    clear ha hn hcc hle
    go_enter Tryz.func59, Tryz.ntmps59
    go_upto_region 1 with (fail)
    generalize hW : World.alloc w _ = v
    have HV := hide (show Below w.heap.size w v by rw [← hW]; exact (Below.refl _ _).alloc (Nat.le_refl _) _)
    have HL := hide (show Bf v w.heap.size al ar by rw [← hW]; exact ⟨Bq.mk0 _ al rfl, HA.out.alloc _⟩)
    clear hW
    go_upto_region 2 with (go_at_call 93; (with_reducible refine (HF.out _).mono ?_); rintro e w1 ⟨c, rfl, ho, hb⟩; have HO := hide (show Fo w1 c (some (mkRat (b : Int) 1000)) from ho); have HB1 := hide (HV.out.trans (hb.mono HV.out.size)); have HL1 := hide (HL.out.below hb); clear ho hb)
    generalize hW : World.alloc w1 _ = v2
    have HP2 := hide (show Bf v2 w1.heap.size c (mkRat (b : Int) 1000) by rw [← hW]; exact ⟨Bq.mk0 _ c rfl, HO.out.alloc _⟩)
    have HL2 := hide (show Bf v2 w.heap.size al ar by rw [← hW]; exact HL1.out.alloc _)
    have HB2 := hide (show Below w.heap.size w v2 by rw [← hW]; exact HB1.out.alloc HB1.out.size _)
    have k3 : v2.cell? ⟨b3, 0, none⟩ = some (.int .i64 (n : Int)) := by rw [HB2.out.cell (by exact s3)]; exact h3
    have k4 : v2.cell? ⟨b4, 0, none⟩ = some (.int .i64 m) := by rw [HB2.out.cell (by exact s4)]; exact h4
    have z3 : b3 < v2.heap.size := Nat.lt_of_lt_of_le s3 HB2.out.size
    have z4 : b4 < v2.heap.size := Nat.lt_of_lt_of_le s4 HB2.out.size
    obtain ⟨bp, hbp⟩ : ∃ x, x = w1.heap.size := ⟨_, rfl⟩
    rw [← hbp] at HP2 ⊢
    have p0 := HP2.out.b.c0
    have p1 := HP2.out.b.c1
    clear hW hbp h3 h4
    go_upto_region 3 with (go_at_call 65; (with_reducible refine (log_any _ c _ n m b3 b4 k3 k4 z3 z4 HP2.out.o HC.out HN.out).mono ?_); rintro e w3 ⟨c2, rfl, ho, hb⟩; have HO3 := hide ho; have HB3 := hide (HB2.out.trans (hb.mono HB2.out.size)); have HL3 := hide (HL2.out.below hb); clear ho hb)
    generalize hW : World.alloc w3 _ = v4
    have HP4 := hide (show Bf v4 w3.heap.size c2 _ by rw [← hW]; exact ⟨Bq.mk0 _ c2 rfl, HO3.out.alloc _⟩)
    have HL4 := hide (show Bf v4 w.heap.size al ar by rw [← hW]; exact HL3.out.alloc _)
    have HB4 := hide (show Below w.heap.size w v4 by rw [← hW]; exact HB3.out.alloc HB3.out.size _)
    have q0 := HP4.out.b.c0
    have q1 := HP4.out.b.c1
    have u0 := HL4.out.b.c0
    have u1 := HL4.out.b.c1
    clear hW k3 k4 p0 p1
    go_wp2_with (go_at_call 71; (with_reducible refine (fcmp_o _ c2 al (some (atL (mkRat (b : Int) 1000) n m)) (some ar) HP4.out.o HL4.out.o).mono ?_); rintro e w5 ⟨rfl, hb⟩; have HB8 := hide (HB4.out.trans (hb.mono HB4.out.size)); clear hb)
    refine bodyPost_ret (v := .bool true) (by simp [results, Tryz.results59, go_sem, *]) rfl ⟨by rw [HX.out], HB8.out⟩
  · have HX := hide (show decide (atL (mkRat (b : Int) 1000) n m ≤ ar) = false from decide_eq_false hle)
    have g1 : decide (cmpO (some (atL (mkRat (b : Int) 1000) n m)) (some ar) ≤ 0) = false := decide_eq_false (fun h => hle (cmpQ_le.1 h))
    clear ha hn hcc hle
    go_enter Tryz.func59, Tryz.ntmps59
    go_upto_region 1 with (fail)
    generalize hW : World.alloc w _ = v
    have HV := hide (show Below w.heap.size w v by rw [← hW]; exact (Below.refl _ _).alloc (Nat.le_refl _) _)
    have HL := hide (show Bf v w.heap.size al ar by rw [← hW]; exact ⟨Bq.mk0 _ al rfl, HA.out.alloc _⟩)
    clear hW
    go_upto_region 2 with (go_at_call 93; (with_reducible refine (HF.out _).mono ?_); rintro e w1 ⟨c, rfl, ho, hb⟩; have HO := hide (show Fo w1 c (some (mkRat (b : Int) 1000)) from ho); have HB1 := hide (HV.out.trans (hb.mono HV.out.size)); have HL1 := hide (HL.out.below hb); clear ho hb)
    generalize hW : World.alloc w1 _ = v2
    have HP2 := hide (show Bf v2 w1.heap.size c (mkRat (b : Int) 1000) by rw [← hW]; exact ⟨Bq.mk0 _ c rfl, HO.out.alloc _⟩)
    have HL2 := hide (show Bf v2 w.heap.size al ar by rw [← hW]; exact HL1.out.alloc _)
    have HB2 := hide (show Below w.heap.size w v2 by rw [← hW]; exact HB1.out.alloc HB1.out.size _)
    have k3 : v2.cell? ⟨b3, 0, none⟩ = some (.int .i64 (n : Int)) := by rw [HB2.out.cell (by exact s3)]; exact h3
    have k4 : v2.cell? ⟨b4, 0, none⟩ = some (.int .i64 m) := by rw [HB2.out.cell (by exact s4)]; exact h4
    have z3 : b3 < v2.heap.size := Nat.lt_of_lt_of_le s3 HB2.out.size
    have z4 : b4 < v2.heap.size := Nat.lt_of_lt_of_le s4 HB2.out.size
    obtain ⟨bp, hbp⟩ : ∃ x, x = w1.heap.size := ⟨_, rfl⟩
    rw [← hbp] at HP2 ⊢
    have p0 := HP2.out.b.c0
    have p1 := HP2.out.b.c1
    clear hW hbp h3 h4
    go_upto_region 3 with (go_at_call 65; (with_reducible refine (log_any _ c _ n m b3 b4 k3 k4 z3 z4 HP2.out.o HC.out HN.out).mono ?_); rintro e w3 ⟨c2, rfl, ho, hb⟩; have HO3 := hide ho; have HB3 := hide (HB2.out.trans (hb.mono HB2.out.size)); have HL3 := hide (HL2.out.below hb); clear ho hb)
    generalize hW : World.alloc w3 _ = v4
    have HP4 := hide (show Bf v4 w3.heap.size c2 _ by rw [← hW]; exact ⟨Bq.mk0 _ c2 rfl, HO3.out.alloc _⟩)
    have HL4 := hide (show Bf v4 w.heap.size al ar by rw [← hW]; exact HL3.out.alloc _)
    have HB4 := hide (show Below w.heap.size w v4 by rw [← hW]; exact HB3.out.alloc HB3.out.size _)
    have q0 := HP4.out.b.c0
    have q1 := HP4.out.b.c1
    have u0 := HL4.out.b.c0
    have u1 := HL4.out.b.c1
    clear hW k3 k4 p0 p1
    go_wp2_with (go_at_call 71; (with_reducible refine (fcmp_o _ c2 al (some (atL (mkRat (b : Int) 1000) n m)) (some ar) HP4.out.o HL4.out.o).mono ?_); rintro e w5 ⟨rfl, hb⟩; have HB8 := hide (HB4.out.trans (hb.mono HB4.out.size)); clear hb)
    refine bodyPost_ret (v := .bool false) (by simp [results, Tryz.results59, go_sem, *]) rfl ⟨by rw [HX.out], HB8.out⟩
set_option maxRecDepth 100000 in
set_option maxHeartbeats 8000000 in
theorem locl_any (w : World) (b : Nat) (hb1 : b ≤ 1000) (al : Fa) (ar : Rat) (n : Nat) (m : Int) (b2 b3 b4 : Nat) (h3 : w.cell? ⟨b3, 0, none⟩ = some (.int .i64 (n : Int))) (h4 : w.cell? ⟨b4, 0, none⟩ = some (.int .i64 m)) (s3 : b3 < w.heap.size) (s4 : b4 < w.heap.size) (ha : Bf w b2 al ar) (hn : n ≤ 32) :
    Calls Tryz.prog 64 #[.int .i64 (b : Int), .pointer (some ⟨b2, 0, none⟩), .pointer (some ⟨b3, 0, none⟩), .pointer (some ⟨b4, 0, none⟩)] w fun e w' => e = .returned (.bool (!decide (atL (mkRat (b : Int) 1000) n m ≤ ar))) ∧ Below w.heap.size w w' := by
  have HA := hide ha
  have a0 := ha.b.c0
  have a1 := ha.b.c1
  have HW := hide (lowithin_any w b hb1 al ar n m b3 b4 h3 h4 s3 s4 ha.o hn)
  obtain ⟨g, hg⟩ : ∃ g, g = decide (atL (mkRat (b : Int) 1000) n m ≤ ar) := ⟨_, rfl⟩
  rw [← hg] at HW ⊢
  clear ha h3 h4 hg
  go_enter Tryz.func64, Tryz.ntmps64
  go_wp2_with (go_at_call 59; (with_reducible refine HW.out.mono ?_); rintro e w1 ⟨rfl, hb⟩; have HB := hide hb; clear hb)
  refine bodyPost_ret (v := .bool (!g)) (by simp [results, Tryz.results64, go_sem, *]) rfl ⟨rfl, HB.out⟩
set_option maxRecDepth 100000 in
set_option maxHeartbeats 8000000 in
theorem losearch_any (w : World) (al : Fa) (ar : Rat) (n : Nat) (m : Int) (b2 b3 b4 : Nat) (h3 : w.cell? ⟨b3, 0, none⟩ = some (.int .i64 (n : Int))) (h4 : w.cell? ⟨b4, 0, none⟩ = some (.int .i64 m)) (s3 : b3 < w.heap.size) (s4 : b4 < w.heap.size) (ha : Bf w b2 al ar) (hn : n ≤ 32) :
    Calls Tryz.prog 57 #[.int .i64 1001, .func (.func 64) #[] #[.pointer (some ⟨b2, 0, none⟩), .pointer (some ⟨b3, 0, none⟩), .pointer (some ⟨b4, 0, none⟩)]] w fun e w' => ∃ r : Nat, e = .returned (.int .i64 (r : Int)) ∧ IsSr (fun (b : Nat) => !decide (atL (mkRat (b : Int) 1000) n m ≤ ar)) 1001 r ∧ Below w.heap.size w w' := by
  have HA := hide (show ∀ W, Below w.heap.size w W → ∀ b : Nat, b ≤ 1000 → Calls Tryz.prog 64 #[.int .i64 (b : Int), .pointer (some ⟨b2, 0, none⟩), .pointer (some ⟨b3, 0, none⟩), .pointer (some ⟨b4, 0, none⟩)] W fun e w' => e = .returned (.bool (!decide (atL (mkRat (b : Int) 1000) n m ≤ ar))) ∧ Below W.heap.size W w' from fun W hW b hb =>
    locl_any W b hb al ar n m b2 b3 b4 (by rw [hW.cell (by exact s3)]; exact h3) (by rw [hW.cell (by exact s4)]; exact h4) (Nat.lt_of_lt_of_le s3 hW.size) (Nat.lt_of_lt_of_le s4 hW.size) (ha.below hW) hn)
  obtain ⟨G, hG⟩ : ∃ G : Nat → Bool, G = fun (b : Nat) => !decide (atL (mkRat (b : Int) 1000) n m ≤ ar) := ⟨_, rfl⟩
  rw [← hG]
  have HG := hide (show ∀ W, Below w.heap.size w W → ∀ b : Nat, b ≤ 1000 → Calls Tryz.prog 64 #[.int .i64 (b : Int), .pointer (some ⟨b2, 0, none⟩), .pointer (some ⟨b3, 0, none⟩), .pointer (some ⟨b4, 0, none⟩)] W fun e w' => e = .returned (.bool (G b)) ∧ Below W.heap.size W w' from fun W hW b hb => by rw [hG]; exact HA.out W hW b hb)
  clear h3 h4 ha HA hG
  go_enter Tryz.func57, Tryz.ntmps57
  go_wp2_with fail
  go_loopw [5, 6] (fun iv jv wr => ∃ i j : Nat, iv = .int .i64 (i : Int) ∧ jv = .int .i64 (j : Int) ∧ i ≤ j ∧ j ≤ 1001 ∧ Hid (i = 0 ∨ G (i - 1) = false) ∧ Hid (j = 1001 ∨ G j = true) ∧ Hid (Below w.heap.size w wr)) (fun iv jv _ => ((intOf jv).toNat - (intOf iv).toNat))
  case atStart => exact ⟨0, 1001, rfl, rfl, by omega, by omega, hide (.inl rfl), hide (.inl rfl), hide (Below.refl _ _)⟩
  case round =>
    obtain ⟨i, j, rfl, rfl, hij, hj, HI, HJ, HB⟩ := hrel
    by_cases he : i = j
    · subst he
      have hlt : decide ((i : Int) < (i : Int)) = false := decide_eq_false (by omega)
      go_wp2_with fail
      go_ret
      exact ⟨i, rfl, ⟨hj, HI.out, HJ.out⟩, HB.out⟩
    · have hlt : decide ((i : Int) < (j : Int)) = true := decide_eq_true (by omega)
      have hlt2 : (i : Int) < (j : Int) := by omega
      obtain ⟨h, hh⟩ : ∃ h : Nat, h = (i + j) / 2 := ⟨_, rfl⟩
      have hh1 : i ≤ h := by omega
      have hh2 : h < j := by omega
      have hh3 : ((i : Int) + (j : Int)) / 2 = (h : Int) := by omega
      have hw2 : IntKind.u64.wrap ((i : Int) + (j : Int)) = (i : Int) + (j : Int) := by
        show ((i : Int) + (j : Int)) % 18446744073709551616 = _
        omega
      clear hh
      go_upto_region 4 with (fail)
      clear hh3 hw2
      have HC := hide (HG.out wr HB.out h (by omega))
      cases hg : G h
      · rw [hg] at HC
        have HGH := hide hg
        clear hg
        go_wp2_with (go_at_call 64; (with_reducible refine HC.out.mono ?_); rintro e w2 ⟨rfl, hb⟩; have HB2 := hide (HB.out.trans (hb.mono HB.out.size)); clear hb)
        go_roundw
        case rel => exact ⟨h + 1, j, by go_num, rfl, by omega, hj, hide (.inr (by simpa using HGH.out)), HJ, HB2⟩
        case measure => simp [intOf]; omega
      · rw [hg] at HC
        have HGH := hide hg
        clear hg
        go_wp2_with (go_at_call 64; (with_reducible refine HC.out.mono ?_); rintro e w2 ⟨rfl, hb⟩; have HB2 := hide (HB.out.trans (hb.mono HB.out.size)); clear hb)
        go_roundw
        case rel => exact ⟨i, h, rfl, rfl, by omega, by omega, HI, hide (.inr HGH.out), HB2⟩
        case measure => simp [intOf]; omega
end Go.Proofs.YtnokfhkcfebimaaGreat

/- Contracts: report.check, Upper, Lower. -/
namespace Go.Proofs.YtnokfhkcfebimaaGreat
open Go.RowKit

theorem mk1000_le {i j : Nat} (h : i ≤ j) : mkRat (i : Int) 1000 ≤ mkRat (j : Int) 1000 := by
  rw [Rat.mkRat_eq_div, Rat.mkRat_eq_div, Rat.div_def, Rat.div_def]
  refine Rat.mul_le_mul_of_nonneg_right ?_ (inv_nn (by decide))
  exact_mod_cast h
theorem IsSr.congr {g g' : Nat → Bool} {N r : Nat} (h : IsSr g N r) (hN : 0 < N) (e : ∀ i, i < N → g i = g' i) : IsSr g' N r := by
  obtain ⟨h1, h2, h3⟩ := h
  refine ⟨h1, ?_, ?_⟩
  · rcases h2 with h2 | h2
    · exact .inl h2
    · exact .inr (by rw [← e _ (by omega)]; exact h2)
  · rcases h3 with h3 | h3
    · exact .inl h3
    · by_cases hr : r = N
      · exact .inl hr
      · exact .inr (by rw [← e _ (by omega)]; exact h3)
theorem IsLst.congr {g g' : Nat → Bool} {N r : Nat} (h : IsLst g N r) (e : ∀ i, i < N → g i = g' i) : IsLst g' N r := by
  obtain ⟨h1, h2, h3⟩ := h
  exact ⟨h1, fun i hi => by rw [← e i (by omega)]; exact h2 i hi, fun hr => by rw [← e r hr]; exact h3 hr⟩
theorem IsGrt.congr {g g' : Nat → Bool} {N v : Nat} (h : IsGrt g N v) (e : ∀ i, i ≤ N → g i = g' i) : IsGrt g' N v := by
  obtain ⟨h1, h2, h3⟩ := h
  refine ⟨h1, ?_, ?_⟩
  · rcases h2 with h2 | h2
    · exact .inl h2
    · exact .inr (by rw [← e _ h1]; exact h2)
  · rcases h3 with h3 | h3
    · exact .inl h3
    · by_cases hv : v = N
      · exact .inl hv
      · exact .inr (by rw [← e _ (by omega)]; exact h3)
theorem lst_of_sr {g : Nat → Bool} {r : Nat} (h : IsSr g 1001 r) (hm : ∀ i j, i ≤ j → j ≤ 1000 → g i = true → g j = true) : IsLst g 1000 (min r 1000) := by
  have h1 := h.congr (g' := fun b => g b || decide (1000 < b)) (by omega) (fun i hi => by
    have : decide (1000 < i) = false := decide_eq_false (by omega)
    rw [this, Bool.or_false])
  have h2 := (h1.lst (fun i j hij hi => by
    simp only [Bool.or_eq_true, decide_eq_true_eq] at hi ⊢
    by_cases hj : 1000 < j
    · exact .inr hj
    · left
      rcases hi with hi | hi
      · exact hm i j hij (by omega) hi
      · omega)).cut (M := 1000) (by omega)
  exact IsLst.congr h2 (fun i hi => by
    have : decide (1000 < i) = false := decide_eq_false (by omega)
    rw [this, Bool.or_false])
theorem grt_of_sr {g : Nat → Bool} {r : Nat} (h : IsSr (fun i => !g i) 1001 r) (hm : ∀ i j, i ≤ j → j ≤ 1000 → g j = true → g i = true) : IsGrt g 1000 (r - 1) := by
  have h1 := h.congr (g' := fun b => !(g b && decide (b ≤ 1000))) (by omega) (fun i hi => by
    have : decide (i ≤ 1000) = true := decide_eq_true (by omega)
    rw [this, Bool.and_true])
  have hm' : ∀ i j, i ≤ j → (g j && decide (j ≤ 1000)) = true → (g i && decide (i ≤ 1000)) = true := fun i j hij hj => by
    simp only [Bool.and_eq_true, decide_eq_true_eq] at hj ⊢
    exact ⟨hm i j hij hj.2 hj.1, by omega⟩
  have h2 := IsLst.grt (g := fun b => g b && decide (b ≤ 1000)) hm' (N := 1000) (h1.lst (fun i j hij hi => by
    simp only [Bool.not_eq_true'] at hi ⊢
    cases hj : (g j && decide (j ≤ 1000)) with
    | false => rfl
    | true => rw [hm' i j hij hj] at hi; cases hi))
  exact IsGrt.congr h2 (fun i hi => by
    have : decide (i ≤ 1000) = true := decide_eq_true hi
    rw [this, Bool.and_true])
theorem atM_step {n : Nat} {m : Int} {ar : Rat} (i j : Nat) (hij : i ≤ j) (hj : j ≤ 1000) (h : decide (atM (mkRat (i : Int) 1000) n m ≤ ar) = true) : decide (atM (mkRat (j : Int) 1000) n m ≤ ar) = true := by
  rw [decide_eq_true_eq] at h ⊢
  exact Rat.le_trans (atM_anti (mk1000_chn (Nat.le_trans hij hj)).h0 (mk1000_chn hj).h1 (mk1000_le hij) n m) h
theorem atL_step {n : Nat} {m : Int} {ar : Rat} (i j : Nat) (hij : i ≤ j) (hj : j ≤ 1000) (h : decide (atL (mkRat (j : Int) 1000) n m ≤ ar) = true) : decide (atL (mkRat (i : Int) 1000) n m ≤ ar) = true := by
  rw [decide_eq_true_eq] at h ⊢
  exact Rat.le_trans (atL_grow (mk1000_chn (Nat.le_trans hij hj)).h0 (mk1000_chn hj).h1 (mk1000_le hij) n m) h
/-- What the search for the upper bound ends with. -/
theorem upper_is {n : Nat} {m : Int} {ar : Rat} {r : Nat} (h : IsSr (fun (b : Nat) => decide (atM (mkRat (b : Int) 1000) n m ≤ ar)) 1001 r) : IsLst (fun (b : Nat) => decide (atM (mkRat (b : Int) 1000) n m ≤ ar)) 1000 (min r 1000) := lst_of_sr h atM_step
theorem lower_is {n : Nat} {m : Int} {ar : Rat} {r : Nat} (h : IsSr (fun (b : Nat) => !decide (atL (mkRat (b : Int) 1000) n m ≤ ar)) 1001 r) : IsGrt (fun (b : Nat) => decide (atL (mkRat (b : Int) 1000) n m ≤ ar)) 1000 (r - 1) := grt_of_sr h atL_step
set_option maxRecDepth 100000 in
set_option maxHeartbeats 8000000 in
theorem repcheck_ok (w : World) (n : Nat) (m : Int) (al : Fa) (ar : Rat) (ha : Fo w al (some ar)) (hi : Inn ar) (hn : n ≤ 32) (hm : 0 ≤ m) (hmn : m ≤ n) :
    Calls Tryz.prog 56 #[.int .i64 (n : Int), .int .i64 m, .agg #[.slice al.A al.n al.c, .slice al.B al.m al.d]] w fun e w' => e = .returned (.int .i64 0) ∧ Below w.heap.size w w' := by
  have HA := hide ha
  have HCH := hide (show chO (some ar) = true by simp [chO, hi.c.h1, hi.c.hd])
  have HF := hide (show ∀ W, Calls Tryz.prog 93 #[.int .i64 1, .int .i64 1] W fun e w' => Ret W (some 1, 0) e w' from fun W => by
    have := fof_any W 1 1 (by omega) (by omega) (by omega)
    rwa [show mkRat ((1 : Nat) : Int) 1 = 1 by decide +kernel] at this)
  have hlen : 0 < al.n := (fq_len ha.1 (fracOf_self ha.2)).1.2 hi.p
  have g0 : decide ((al.n : Int) = 0) = false := decide_eq_false (by omega)
  have g1 : ¬ ((al.n : Int) = 0) := by omega
  have g2 : ((al.n : Int) == 0) = false := beq_eq_false_iff_ne.2 g1
  have hcv : cmpO (some ar) (some 1) < 0 := cmpQ_neg.2 hi.q
  obtain ⟨z, hz⟩ : ∃ z, z = cmpO (some ar) (some 1) := ⟨_, rfl⟩
  rw [← hz] at hcv
  have HZ := hide hz
  have g3 : ¬ (z = 0) := by omega
  have g4 : (z == 0) = false := beq_eq_false_iff_ne.2 g3
  have k1 : decide ((n : Int) < 0) = false := decide_eq_false (by omega)
  have k2 : decide ((32 : Int) < (n : Int)) = false := decide_eq_false (by omega)
  have k3 : decide (m < 0) = false := decide_eq_false (by omega)
  have k4 : decide ((n : Int) < m) = false := decide_eq_false (by omega)
  clear ha hi hz hlen
  go_enter Tryz.func56, Tryz.ntmps56
  go_upto_region 1 with (fail)
  generalize hW : World.alloc w _ = v
  have HV := hide (show Below w.heap.size w v by rw [← hW]; exact (Below.refl _ _).alloc (Nat.le_refl _) _)
  have HL := hide (show Bf v w.heap.size al ar by rw [← hW]; exact ⟨Bq.mk0 _ al rfl, HA.out.alloc _⟩)
  clear hW
  go_upto_region 2 with (go_at_call 93; (with_reducible refine (HF.out _).mono ?_); rintro e w1 ⟨c, rfl, ho, hb⟩; have HO := hide (show Fo w1 c (some 1) from ho); have HB1 := hide (HV.out.trans (hb.mono HV.out.size)); have HL1 := hide (HL.out.below hb); clear ho hb)
  generalize hW : World.alloc w1 _ = v2
  have HP2 := hide (show Bf v2 w1.heap.size c 1 by rw [← hW]; exact ⟨Bq.mk0 _ c rfl, HO.out.alloc _⟩)
  have HL2 := hide (show Bf v2 w.heap.size al ar by rw [← hW]; exact HL1.out.alloc _)
  have HB2 := hide (show Below w.heap.size w v2 by rw [← hW]; exact HB1.out.alloc HB1.out.size _)
  obtain ⟨bp, hbp⟩ : ∃ x, x = w1.heap.size := ⟨_, rfl⟩
  rw [← hbp] at HP2 ⊢
  have q0 := HL2.out.b.c0
  have q1 := HL2.out.b.c1
  clear hW hbp
  go_wp2_with (first
    | (go_at_call 71; (with_reducible refine (fcmp_o _ al c (some ar) (some 1) HL3.out.o HP3.out.o).mono ?_); rintro e w5 ⟨rfl, hb⟩; rw [← HZ.out]; have HB8 := hide (HB3.out.trans (hb.mono HB3.out.size)); clear hb)
    | (go_at_call 43; (with_reducible refine (chance_o _ al _ HL2.out.o).mono ?_); rintro e w2 ⟨rfl, hb⟩; rw [HCH.out]; have HB3 := hide (HB2.out.trans (hb.mono HB2.out.size)); have HP3 := hide (HP2.out.below hb); have HL3 := hide (HL2.out.below hb); have u0 := HL3.out.b.c0; have u1 := HL3.out.b.c1; have y0 := HP3.out.b.c0; have y1 := HP3.out.b.c1; clear hb))
  refine bodyPost_ret (v := .int .i64 0) (by simp [results, Tryz.results56, go_sem, *]) rfl ⟨rfl, HB8.out⟩
set_option maxRecDepth 100000 in
set_option maxHeartbeats 8000000 in
theorem upper_ok (w : World) (n : Nat) (m : Int) (al : Fa) (ar : Rat) (ha : Fo w al (some ar)) (hi : Inn ar) (hn : n ≤ 32) (hm : 0 ≤ m) (hmn : m ≤ n) :
    Calls Tryz.prog 32 #[.int .i64 (n : Int), .int .i64 m, .agg #[.slice al.A al.n al.c, .slice al.B al.m al.d]] w fun e w' => ∃ v : Nat, e = .returned (.tuple #[.int .i64 (v : Int), .int .i64 0]) ∧ IsLst (fun (b : Nat) => decide (atM (mkRat (b : Int) 1000) n m ≤ ar)) 1000 v ∧ Below w.heap.size w w' := by
  have HA := hide ha
  have HI := hide hi
  clear ha hi
  go_enter Tryz.func32, Tryz.ntmps32
  go_upto_region 1 with (fail)
  generalize hW : World.alloc (World.alloc (World.alloc w _) _) _ = v
  have HV := hide (show Below w.heap.size w v by rw [← hW]; exact (((Below.refl _ _).alloc (Nat.le_refl _) _).alloc (by simp) _).alloc (by simp; omega) _)
  have h3 : v.cell? ⟨w.heap.size, 0, none⟩ = some (.int .i64 (n : Int)) := by rw [← hW]; simp [go_sem]
  have h4 : v.cell? ⟨w.heap.size + 1, 0, none⟩ = some (.int .i64 m) := by rw [← hW]; simp [go_sem]
  have HL := hide (show Bf v (w.heap.size + 2) al ar by rw [← hW]; exact ⟨Bq.mk0 _ al (by simp), ((HA.out.alloc _).alloc _).alloc _⟩)
  have sz : w.heap.size + 2 < v.heap.size := HL.out.b.sz
  obtain ⟨b2, hb2⟩ : ∃ x, x = w.heap.size + 1 + 1 := ⟨_, rfl⟩
  have e2 : b2 = w.heap.size + 2 := hb2
  rw [← hb2]
  rw [← e2] at HL sz
  have k0 := HL.out.b.c0
  have k1 := HL.out.b.c1
  have s3 : w.heap.size < v.heap.size := by omega
  have s4 : w.heap.size + 1 < v.heap.size := by omega
  clear hW hb2 e2
  go_upto_region 5 with (first
    | (go_at_call 57; (with_reducible refine (upsearch_any _ al ar n m b2 w.heap.size (w.heap.size + 1) h31 h41 s31 s41 HL1.out hn).mono ?_); rintro e w2 ⟨r, rfl, hr, hb⟩; have HR := hide hr; have HB2 := hide (HB1.out.trans (hb.mono HB1.out.size)); clear hb)
    | (go_at_call 56; (with_reducible refine (repcheck_ok _ n m al ar HL.out.o HI.out hn hm hmn).mono ?_); rintro e w1 ⟨rfl, hb⟩; have HB1 := hide (HV.out.trans (hb.mono HV.out.size)); have HL1 := hide (HL.out.below hb); have h31 : w1.cell? ⟨w.heap.size, 0, none⟩ = some (.int .i64 (n : Int)) := (by rw [hb.cell (by exact s3)]; exact h3); have h41 : w1.cell? ⟨w.heap.size + 1, 0, none⟩ = some (.int .i64 m) := (by rw [hb.cell (by exact s4)]; exact h4); have s31 := Nat.lt_of_lt_of_le s3 hb.size; have s41 := Nat.lt_of_lt_of_le s4 hb.size; clear hb))
  have HLS := hide (upper_is HR.out)
  have hr1 : r ≤ 1001 := HR.out.1
  by_cases hrr : r ≤ 1000
  · have hmin : min r 1000 = r := by omega
    have HE := hide (show IsLst _ 1000 r by have := HLS.out; rwa [hmin] at this)
    have hm1 : min (r : Int) 1000 = (r : Int) := by omega
    clear hmin
    go_wp2_with fail
    refine bodyPost_ret (v := .tuple #[.int .i64 (r : Int), .int .i64 0]) (by simp [results, Tryz.results32, go_sem, *]) rfl ⟨r, rfl, HE.out, HB2.out⟩
  · obtain rfl : r = 1001 := by omega
    go_wp2_with fail
    refine bodyPost_ret (v := .tuple #[.int .i64 1000, .int .i64 0]) (by simp [results, Tryz.results32, go_sem, *]) rfl ⟨1000, rfl, HLS.out, HB2.out⟩
set_option maxRecDepth 100000 in
set_option maxHeartbeats 8000000 in
theorem loper_ok (w : World) (n : Nat) (m : Int) (al : Fa) (ar : Rat) (ha : Fo w al (some ar)) (hi : Inn ar) (hn : n ≤ 32) (hm : 0 ≤ m) (hmn : m ≤ n) :
    Calls Tryz.prog 34 #[.int .i64 (n : Int), .int .i64 m, .agg #[.slice al.A al.n al.c, .slice al.B al.m al.d]] w fun e w' => ∃ v : Nat, e = .returned (.tuple #[.int .i64 (v : Int), .int .i64 0]) ∧ IsGrt (fun (b : Nat) => decide (atL (mkRat (b : Int) 1000) n m ≤ ar)) 1000 v ∧ Below w.heap.size w w' := by
  have HA := hide ha
  have HI := hide hi
  clear ha hi
  go_enter Tryz.func34, Tryz.ntmps34
  go_upto_region 1 with (fail)
  generalize hW : World.alloc (World.alloc (World.alloc w _) _) _ = v
  have HV := hide (show Below w.heap.size w v by rw [← hW]; exact (((Below.refl _ _).alloc (Nat.le_refl _) _).alloc (by simp) _).alloc (by simp; omega) _)
  have h3 : v.cell? ⟨w.heap.size, 0, none⟩ = some (.int .i64 (n : Int)) := by rw [← hW]; simp [go_sem]
  have h4 : v.cell? ⟨w.heap.size + 1, 0, none⟩ = some (.int .i64 m) := by rw [← hW]; simp [go_sem]
  have HL := hide (show Bf v (w.heap.size + 2) al ar by rw [← hW]; exact ⟨Bq.mk0 _ al (by simp), ((HA.out.alloc _).alloc _).alloc _⟩)
  have sz : w.heap.size + 2 < v.heap.size := HL.out.b.sz
  obtain ⟨b2, hb2⟩ : ∃ x, x = w.heap.size + 1 + 1 := ⟨_, rfl⟩
  have e2 : b2 = w.heap.size + 2 := hb2
  rw [← hb2]
  rw [← e2] at HL sz
  have k0 := HL.out.b.c0
  have k1 := HL.out.b.c1
  have s3 : w.heap.size < v.heap.size := by omega
  have s4 : w.heap.size + 1 < v.heap.size := by omega
  clear hW hb2 e2
  go_upto_region 5 with (first
    | (go_at_call 57; (with_reducible refine (losearch_any _ al ar n m b2 w.heap.size (w.heap.size + 1) h31 h41 s31 s41 HL1.out hn).mono ?_); rintro e w2 ⟨r, rfl, hr, hb⟩; have HR := hide hr; have HB2 := hide (HB1.out.trans (hb.mono HB1.out.size)); clear hb)
    | (go_at_call 56; (with_reducible refine (repcheck_ok _ n m al ar HL.out.o HI.out hn hm hmn).mono ?_); rintro e w1 ⟨rfl, hb⟩; have HB1 := hide (HV.out.trans (hb.mono HV.out.size)); have HL1 := hide (HL.out.below hb); have h31 : w1.cell? ⟨w.heap.size, 0, none⟩ = some (.int .i64 (n : Int)) := (by rw [hb.cell (by exact s3)]; exact h3); have h41 : w1.cell? ⟨w.heap.size + 1, 0, none⟩ = some (.int .i64 m) := (by rw [hb.cell (by exact s4)]; exact h4); have s31 := Nat.lt_of_lt_of_le s3 hb.size; have s41 := Nat.lt_of_lt_of_le s4 hb.size; clear hb))
  have HLS := hide (lower_is HR.out)
  have hr1 : r ≤ 1001 := HR.out.1
  rcases Nat.eq_zero_or_pos r with hrr | hrr
  · subst hrr
    go_wp2_with fail
    refine bodyPost_ret (v := .tuple #[.int .i64 0, .int .i64 0]) (by simp [results, Tryz.results34, go_sem, *]) rfl ⟨0, rfl, HLS.out, HB2.out⟩
  · obtain ⟨k, rfl⟩ : ∃ k, r = k + 1 := ⟨r - 1, by omega⟩
    have e1 : ((k + 1 : Nat) : Int) - 1 = (k : Int) := by omega
    have e2 : max (k : Int) 0 = (k : Int) := by omega
    have e3 : wrap64 (((k + 1 : Nat) : Int) - 1) = (k : Int) := by rw [e1]; exact IntWalk.wrap64_in (k : Int) (by omega)
    go_wp2_with fail
    refine bodyPost_ret (v := .tuple #[.int .i64 (k : Int), .int .i64 0]) (by simp [results, Tryz.results34, go_sem, *]) rfl ⟨k, rfl, HLS.out, HB2.out⟩
end Go.Proofs.YtnokfhkcfebimaaGreat

/- Contracts: the reference's zero, one, Inner of posteriors. -/
namespace Go.Proofs.YtnokfhkcfebimaaGreat
open Go.RowKit

set_option maxRecDepth 100000 in
set_option maxHeartbeats 4000000 in
theorem r35zero_any (w : World) : Calls Tryz.prog 130 #[] w fun e w' => Ret1 w (some 0) e w' := by
  go_enter Tryz.func130, Tryz.ntmps130
  go_upto_region 1 with (fail)
  generalize hW : World.alloc w _ = v
  have HRB := hide (show Rb v w.heap.size by rw [← hW]; exact Rb.mk0 _ rfl)
  have HBV := hide (show Below w.heap.size w v by rw [← hW]; exact (Below.refl _ _).alloc (Nat.le_refl _) _)
  clear hW
  go_wp2_with (go_at_call 48; (with_reducible refine (rzof_zero _).mono ?_); rintro e w1 ⟨q, rfl, ho, hb1⟩; have HO := hide ho; have HB1 := hide (HBV.out.trans (hb1.mono HBV.out.size)); have HR1 := hide (HRB.out.below hb1); obtain ⟨r0, r1, rf, rz, -⟩ := HR1.out; clear ho hb1)
  refine bodyPost_ret (v := .agg #[.slice q.A q.n q.c, .slice q.B q.m q.d]) (by simp [results, Tryz.results130, go_sem, *]) rfl ⟨q, rfl, HO.out.put2 HR1.out.nb _ _ (by simp), Rb.end0 HB1.out (Nat.le_refl _) _ _⟩
set_option maxRecDepth 100000 in
set_option maxHeartbeats 4000000 in
theorem r35one_any (w : World) : Calls Tryz.prog 131 #[] w fun e w' => Ret1 w (some 1) e w' := by
  go_enter Tryz.func131, Tryz.ntmps131
  go_upto_region 1 with (fail)
  generalize hW : World.alloc w _ = v
  have HRB := hide (show Rb v w.heap.size by rw [← hW]; exact Rb.mk0 _ rfl)
  have HBV := hide (show Below w.heap.size w v by rw [← hW]; exact (Below.refl _ _).alloc (Nat.le_refl _) _)
  clear hW
  go_wp2_with (go_at_call 48; (with_reducible refine (rzof_one _).mono ?_); rintro e w1 ⟨q, rfl, ho, hb1⟩; have HO := hide ho; have HB1 := hide (HBV.out.trans (hb1.mono HBV.out.size)); have HR1 := hide (HRB.out.below hb1); obtain ⟨r0, r1, rf, rz, -⟩ := HR1.out; clear ho hb1)
  refine bodyPost_ret (v := .agg #[.slice q.A q.n q.c, .slice q.B q.m q.d]) (by simp [results, Tryz.results131, go_sem, *]) rfl ⟨q, rfl, HO.out.put2 HR1.out.nb _ _ (by simp), Rb.end0 HB1.out (Nat.le_refl _) _ _⟩
set_option maxRecDepth 100000 in
set_option maxHeartbeats 8000000 in
theorem r35inner_any (w : World) (a : Fa) (l k : List Nat) (hq : Fq w a l k) :
    Calls Tryz.prog 96 #[.agg #[.slice a.A a.n a.c, .slice a.B a.m a.d]] w fun e w' => e = .returned (.bool (innO (fracOf l k))) ∧ Below w.heap.size w w' := by
  rcases h1 : chO (fracOf l k)
  · have H1 := hide h1
    have HX := hide (innO_no h1)
    clear h1
    go_enter Tryz.func96, Tryz.ntmps96
    go_upto_region 1 with (fail)
    generalize hW : World.alloc w _ = v
    have HB := hide (show Cb v w.heap.size [.slice a.A a.n a.c, .slice a.B a.m a.d] by rw [← hW]; exact Cb.mk0 _ (by simp) _ rfl)
    have HQ0 := hide (show Fq v a l k by rw [← hW]; exact hq.alloc _)
    have HBV := hide (show Below w.heap.size w v by rw [← hW]; exact (Below.refl _ _).alloc (Nat.le_refl _) _)
    clear hW hq
    apply region_seq 15 [3, 4, 5, 6, 7, 8, 9, 10, 11, 12, 13, 14, 15, 16, 2] [eqV _, eqV _, eqV _, eqV _, eqV _, eqV _, eqV _, eqV _, eqV _, eqV _, eqV _, eqV _, eqV _, eqV _, eqV _] [false, false, false, false, false, false, false, false, false, false, false, false, false, false, false] (by kernel_rfl) (by decide) rfl rfl rfl (by decide) (by kernel_rfl) (by kernel_rfl) ?stb10 ?steps10 ?fin10
    case stb10 => repeat' (first | exact trivial | apply stb_eq | fail | apply And.intro)
    case steps10 =>
      repeat' (first | exact trivial | apply And.intro)
      all_goals
        intro a' w' hbw hdf hoff hdep K hK
        have o1 := hoff 1 rfl
        (have HC := hide (HB.out.below hbw); have HQ := hide (HQ0.out.below hbw); have y0 := HC.out.cell 0 _ rfl; have y1 := HC.out.cell 1 _ rfl)
        replace hdep := hdep _ rfl
        simp only [List.getElem_toArray, List.getElem_cons_succ, List.getElem_cons_zero, List.toList_toArray, depAll, binds_data, binds_chain, binds_guard, binds_phase, binds_text, binds_gc, cond_true, cond_false, true_and, getR, eqV, List.getD_cons_succ, List.getD_cons_zero, and_true] at hdep
        simp only [Nat.zero_add, Nat.reduceAdd, getR, eqV, List.getD_cons_succ, List.getD_cons_zero] at hK
        clear hoff hdf
        skip
        first
          | (refine rg_unwanted rfl rfl rfl (b' := false) (by first | (simp [hdep]; done) | assumption) (by decide) ?_; exact hK _ _ rfl (Below.refl _ _) (by simp))
          | (refine rg_unwanted rfl rfl rfl (b' := true) (by first | (simp [hdep]; done) | assumption) (by decide) ?_; exact hK _ _ rfl (Below.refl _ _) (by simp))
          | (refine rg_wanted rfl rfl rfl (b' := true) (by first | (simp [hdep]; done) | assumption) rfl (fun K' hKK => ?_); go_wp2_with (go_at_call 46; (with_reducible refine (rzchance_any _ a l k HQ.out).mono ?_); rintro e w1 ⟨rfl, hb⟩; rw [H1.out]); first | exact hK _ _ rfl (Below.refl _ _) (by simp) | exact hK _ _ rfl hb (by simp))
          | (refine rg_wanted rfl rfl rfl (b' := false) (by first | (simp [hdep]; done) | assumption) rfl (fun K' hKK => ?_); go_wp2_with (go_at_call 46; (with_reducible refine (rzchance_any _ a l k HQ.out).mono ?_); rintro e w1 ⟨rfl, hb⟩; rw [H1.out]); first | exact hK _ _ rfl (Below.refl _ _) (by simp) | exact hK _ _ rfl hb (by simp))
          | (refine rg_free rfl rfl (fun K' hKK => ?_); fail)
          | (refine rg_free rfl rfl (fun K' hKK => ?_); go_wp2_with (go_at_call 46; (with_reducible refine (rzchance_any _ a l k HQ.out).mono ?_); rintro e w1 ⟨rfl, hb⟩; rw [H1.out]); first | exact hK _ _ rfl (Below.refl _ _) (by simp) | exact hK _ _ rfl hb (by simp))
    intro w' hbw
    repeat (refine fin_eq ?_)
    refine fin_nil ?_
    (simp only [List.setIfInBounds_toArray, List.set_cons_succ, List.set_cons_zero]; refine wpAny_done (by kernel_rfl) ?_ _)
    go_wp2_with fail
    refine bodyPost_ret (v := .bool false) (by simp [results, Tryz.results96, go_sem, *]) rfl ⟨by rw [HX.out], HBV.out.trans (hbw.mono HBV.out.size)⟩
  · obtain ⟨r, hA⟩ := chO_some h1
    have HA := hide hA
    have H1 := hide h1
    have HXX := hide (show innO (fracOf l k) = (decide (0 < r) && decide (r < 1)) by rw [hA] at h1 ⊢; exact innO_some h1)
    clear hA h1
    by_cases h0 : 0 < r
    · have g0 : decide (0 < cmpO (some r) (some 0)) = true := decide_eq_true (cmpQ_pos.2 h0)
      have HX := hide (show innO (fracOf l k) = decide (cmpO (some r) (some 1) < 0) by rw [HXX.out, decide_eq_true h0, cmp_lt]; simp [ltO])
      clear h0 HXX
      go_enter Tryz.func96, Tryz.ntmps96
      go_upto_region 1 with (fail)
      generalize hW : World.alloc w _ = v
      have HB := hide (show Cb v w.heap.size [.slice a.A a.n a.c, .slice a.B a.m a.d] by rw [← hW]; exact Cb.mk0 _ (by simp) _ rfl)
      have HQ0 := hide (show Fq v a l k by rw [← hW]; exact hq.alloc _)
      have HBV := hide (show Below w.heap.size w v by rw [← hW]; exact (Below.refl _ _).alloc (Nat.le_refl _) _)
      clear hW hq
      apply region_seq 15 [3, 4, 5, 6, 7, 8, 9, 10, 11, 12, 13, 14, 15, 16, 2] [eqV _, eqV _, eqV _, eqV _, fun x w => ∃ c : Fa, x = .agg #[.slice c.A c.n c.c, .slice c.B c.m c.d] ∧ Fo w c (some 0), eqV _, eqV _, eqV _, eqV _, eqV _, fun x w => ∃ c : Fa, x = .agg #[.slice c.A c.n c.c, .slice c.B c.m c.d] ∧ Fo w c (some 1), eqV _, eqV _, eqV _, eqV _] [false, false, false, false, false, false, false, false, false, false, false, false, false, false, false] (by kernel_rfl) (by decide) rfl rfl rfl (by decide) (by kernel_rfl) (by kernel_rfl) ?stb11 ?steps11 ?fin11
      case stb11 => repeat' (first | exact trivial | apply stb_eq | (exact fun x w w' ⟨c, h1, h2⟩ hb => ⟨c, h1, h2.below hb⟩) | apply And.intro)
      case steps11 =>
        repeat' (first | exact trivial | apply And.intro)
        all_goals
          intro a' w' hbw hdf hoff hdep K hK
          have o1 := hoff 1 rfl
          (have HC := hide (HB.out.below hbw); have HQ := hide (HQ0.out.below hbw); have y0 := HC.out.cell 0 _ rfl; have y1 := HC.out.cell 1 _ rfl)
          replace hdep := hdep _ rfl
          simp only [List.getElem_toArray, List.getElem_cons_succ, List.getElem_cons_zero, List.toList_toArray, depAll, binds_data, binds_chain, binds_guard, binds_phase, binds_text, binds_gc, cond_true, cond_false, true_and, getR, eqV, List.getD_cons_succ, List.getD_cons_zero, and_true] at hdep
          simp only [Nat.zero_add, Nat.reduceAdd, getR, eqV, List.getD_cons_succ, List.getD_cons_zero] at hK
          clear hoff hdf
          (first | (obtain ⟨h6, ⟨c0, h7, HO0⟩, -, hg⟩ := hdep) | skip)
          first
            | (refine rg_unwanted rfl rfl rfl (b' := false) (by first | (simp [hdep]; done) | assumption) (by decide) ?_; exact hK _ _ rfl (Below.refl _ _) (by simp))
            | (refine rg_unwanted rfl rfl rfl (b' := true) (by first | (simp [hdep]; done) | assumption) (by decide) ?_; exact hK _ _ rfl (Below.refl _ _) (by simp))
            | (refine rg_wanted rfl rfl rfl (b' := true) (by first | (simp [hdep]; done) | assumption) rfl (fun K' hKK => ?_); go_wp2_with (first | (go_at_call 46; (with_reducible refine (rzchance_any _ a l k HQ.out).mono ?_); rintro e w1 ⟨rfl, hb⟩; rw [H1.out]) | (go_at_call 130; (with_reducible refine (r35zero_any _).mono ?_); rintro e w1 ⟨c1, rfl, ho, hb⟩) | (go_at_call 83; (with_reducible refine (r2cmp_o _ a c0 (some r) (some 0) (fo_of HQ.out HA.out) HO0).mono ?_); rintro e w1 ⟨rfl, hb⟩) | (go_at_call 131; (with_reducible refine (r35one_any _).mono ?_); rintro e w1 ⟨c1, rfl, ho, hb⟩) | (go_at_call 83; (with_reducible refine (r2cmp_o _ a c0 (some r) (some 1) (fo_of HQ.out HA.out) HO0).mono ?_); rintro e w1 ⟨rfl, hb⟩)); first | exact hK _ _ rfl (Below.refl _ _) (by simp) | (first | exact hK _ _ rfl hb (by simp) | exact hK _ _ ⟨c1, rfl, ho⟩ hb (by simp)))
            | (refine rg_wanted rfl rfl rfl (b' := false) (by first | (simp [hdep]; done) | assumption) rfl (fun K' hKK => ?_); go_wp2_with (first | (go_at_call 46; (with_reducible refine (rzchance_any _ a l k HQ.out).mono ?_); rintro e w1 ⟨rfl, hb⟩; rw [H1.out]) | (go_at_call 130; (with_reducible refine (r35zero_any _).mono ?_); rintro e w1 ⟨c1, rfl, ho, hb⟩) | (go_at_call 83; (with_reducible refine (r2cmp_o _ a c0 (some r) (some 0) (fo_of HQ.out HA.out) HO0).mono ?_); rintro e w1 ⟨rfl, hb⟩) | (go_at_call 131; (with_reducible refine (r35one_any _).mono ?_); rintro e w1 ⟨c1, rfl, ho, hb⟩) | (go_at_call 83; (with_reducible refine (r2cmp_o _ a c0 (some r) (some 1) (fo_of HQ.out HA.out) HO0).mono ?_); rintro e w1 ⟨rfl, hb⟩)); first | exact hK _ _ rfl (Below.refl _ _) (by simp) | (first | exact hK _ _ rfl hb (by simp) | exact hK _ _ ⟨c1, rfl, ho⟩ hb (by simp)))
            | (refine rg_free rfl rfl (fun K' hKK => ?_); fail)
            | (refine rg_free rfl rfl (fun K' hKK => ?_); go_wp2_with (first | (go_at_call 46; (with_reducible refine (rzchance_any _ a l k HQ.out).mono ?_); rintro e w1 ⟨rfl, hb⟩; rw [H1.out]) | (go_at_call 130; (with_reducible refine (r35zero_any _).mono ?_); rintro e w1 ⟨c1, rfl, ho, hb⟩) | (go_at_call 83; (with_reducible refine (r2cmp_o _ a c0 (some r) (some 0) (fo_of HQ.out HA.out) HO0).mono ?_); rintro e w1 ⟨rfl, hb⟩) | (go_at_call 131; (with_reducible refine (r35one_any _).mono ?_); rintro e w1 ⟨c1, rfl, ho, hb⟩) | (go_at_call 83; (with_reducible refine (r2cmp_o _ a c0 (some r) (some 1) (fo_of HQ.out HA.out) HO0).mono ?_); rintro e w1 ⟨rfl, hb⟩)); first | exact hK _ _ rfl (Below.refl _ _) (by simp) | (first | exact hK _ _ rfl hb (by simp) | exact hK _ _ ⟨c1, rfl, ho⟩ hb (by simp)))
      intro w' hbw
      repeat (refine fin_eq ?_)
      refine fin_any (fun x4 hx4 => ?_)
      repeat (refine fin_eq ?_)
      refine fin_any (fun x10 hx10 => ?_)
      repeat (refine fin_eq ?_)
      refine fin_nil ?_
      (simp only [List.setIfInBounds_toArray, List.set_cons_succ, List.set_cons_zero]; refine wpAny_done (by kernel_rfl) ?_ _)
      go_wp2_with fail
      refine bodyPost_ret (v := .bool (decide (cmpO (some r) (some 1) < 0))) (by simp [results, Tryz.results96, go_sem, *]) rfl ⟨by rw [HX.out], HBV.out.trans (hbw.mono HBV.out.size)⟩
    · have g0 : decide (0 < cmpO (some r) (some 0)) = false := decide_eq_false (fun h => h0 (cmpQ_pos.1 h))
      have HX := hide (show innO (fracOf l k) = false by rw [HXX.out, decide_eq_false h0]; rfl)
      clear h0 HXX
      go_enter Tryz.func96, Tryz.ntmps96
      go_upto_region 1 with (fail)
      generalize hW : World.alloc w _ = v
      have HB := hide (show Cb v w.heap.size [.slice a.A a.n a.c, .slice a.B a.m a.d] by rw [← hW]; exact Cb.mk0 _ (by simp) _ rfl)
      have HQ0 := hide (show Fq v a l k by rw [← hW]; exact hq.alloc _)
      have HBV := hide (show Below w.heap.size w v by rw [← hW]; exact (Below.refl _ _).alloc (Nat.le_refl _) _)
      clear hW hq
      apply region_seq 15 [3, 4, 5, 6, 7, 8, 9, 10, 11, 12, 13, 14, 15, 16, 2] [eqV _, eqV _, eqV _, eqV _, fun x w => ∃ c : Fa, x = .agg #[.slice c.A c.n c.c, .slice c.B c.m c.d] ∧ Fo w c (some 0), eqV _, eqV _, eqV _, eqV _, eqV _, eqV _, eqV _, eqV _, eqV _, eqV _] [false, false, false, false, false, false, false, false, false, false, false, false, false, false, false] (by kernel_rfl) (by decide) rfl rfl rfl (by decide) (by kernel_rfl) (by kernel_rfl) ?stb12 ?steps12 ?fin12
      case stb12 => repeat' (first | exact trivial | apply stb_eq | (exact fun x w w' ⟨c, h1, h2⟩ hb => ⟨c, h1, h2.below hb⟩) | apply And.intro)
      case steps12 =>
        repeat' (first | exact trivial | apply And.intro)
        all_goals
          intro a' w' hbw hdf hoff hdep K hK
          have o1 := hoff 1 rfl
          (have HC := hide (HB.out.below hbw); have HQ := hide (HQ0.out.below hbw); have y0 := HC.out.cell 0 _ rfl; have y1 := HC.out.cell 1 _ rfl)
          replace hdep := hdep _ rfl
          simp only [List.getElem_toArray, List.getElem_cons_succ, List.getElem_cons_zero, List.toList_toArray, depAll, binds_data, binds_chain, binds_guard, binds_phase, binds_text, binds_gc, cond_true, cond_false, true_and, getR, eqV, List.getD_cons_succ, List.getD_cons_zero, and_true] at hdep
          simp only [Nat.zero_add, Nat.reduceAdd, getR, eqV, List.getD_cons_succ, List.getD_cons_zero] at hK
          clear hoff hdf
          (first | (obtain ⟨h6, ⟨c0, h7, HO0⟩, -, hg⟩ := hdep) | skip)
          first
            | (refine rg_unwanted rfl rfl rfl (b' := false) (by first | (simp [hdep]; done) | assumption) (by decide) ?_; exact hK _ _ rfl (Below.refl _ _) (by simp))
            | (refine rg_unwanted rfl rfl rfl (b' := true) (by first | (simp [hdep]; done) | assumption) (by decide) ?_; exact hK _ _ rfl (Below.refl _ _) (by simp))
            | (refine rg_wanted rfl rfl rfl (b' := true) (by first | (simp [hdep]; done) | assumption) rfl (fun K' hKK => ?_); go_wp2_with (first | (go_at_call 46; (with_reducible refine (rzchance_any _ a l k HQ.out).mono ?_); rintro e w1 ⟨rfl, hb⟩; rw [H1.out]) | (go_at_call 130; (with_reducible refine (r35zero_any _).mono ?_); rintro e w1 ⟨c1, rfl, ho, hb⟩) | (go_at_call 83; (with_reducible refine (r2cmp_o _ a c0 (some r) (some 0) (fo_of HQ.out HA.out) HO0).mono ?_); rintro e w1 ⟨rfl, hb⟩)); first | exact hK _ _ rfl (Below.refl _ _) (by simp) | (first | exact hK _ _ rfl hb (by simp) | exact hK _ _ ⟨c1, rfl, ho⟩ hb (by simp)))
            | (refine rg_wanted rfl rfl rfl (b' := false) (by first | (simp [hdep]; done) | assumption) rfl (fun K' hKK => ?_); go_wp2_with (first | (go_at_call 46; (with_reducible refine (rzchance_any _ a l k HQ.out).mono ?_); rintro e w1 ⟨rfl, hb⟩; rw [H1.out]) | (go_at_call 130; (with_reducible refine (r35zero_any _).mono ?_); rintro e w1 ⟨c1, rfl, ho, hb⟩) | (go_at_call 83; (with_reducible refine (r2cmp_o _ a c0 (some r) (some 0) (fo_of HQ.out HA.out) HO0).mono ?_); rintro e w1 ⟨rfl, hb⟩)); first | exact hK _ _ rfl (Below.refl _ _) (by simp) | (first | exact hK _ _ rfl hb (by simp) | exact hK _ _ ⟨c1, rfl, ho⟩ hb (by simp)))
            | (refine rg_free rfl rfl (fun K' hKK => ?_); fail)
            | (refine rg_free rfl rfl (fun K' hKK => ?_); go_wp2_with (first | (go_at_call 46; (with_reducible refine (rzchance_any _ a l k HQ.out).mono ?_); rintro e w1 ⟨rfl, hb⟩; rw [H1.out]) | (go_at_call 130; (with_reducible refine (r35zero_any _).mono ?_); rintro e w1 ⟨c1, rfl, ho, hb⟩) | (go_at_call 83; (with_reducible refine (r2cmp_o _ a c0 (some r) (some 0) (fo_of HQ.out HA.out) HO0).mono ?_); rintro e w1 ⟨rfl, hb⟩)); first | exact hK _ _ rfl (Below.refl _ _) (by simp) | (first | exact hK _ _ rfl hb (by simp) | exact hK _ _ ⟨c1, rfl, ho⟩ hb (by simp)))
      intro w' hbw
      repeat (refine fin_eq ?_)
      refine fin_any (fun x4 hx4 => ?_)
      repeat (refine fin_eq ?_)
      refine fin_nil ?_
      (simp only [List.setIfInBounds_toArray, List.set_cons_succ, List.set_cons_zero]; refine wpAny_done (by kernel_rfl) ?_ _)
      go_wp2_with fail
      refine bodyPost_ret (v := .bool false) (by simp [results, Tryz.results96, go_sem, *]) rfl ⟨by rw [HX.out], HBV.out.trans (hbw.mono HBV.out.size)⟩
end Go.Proofs.YtnokfhkcfebimaaGreat

/- Contracts: report's check for all arguments; the reference's check, low, high, Upper, Lower. -/
namespace Go.Proofs.YtnokfhkcfebimaaGreat
open Go.RowKit

/-- The first error of samples. -/
def repE (o : Option Rat) (n m : Int) : Int := if innO o = false then 41 else if n < 0 ∨ 32 < n ∨ m < 0 ∨ n < m then 3 else 0
theorem repE_no {o : Option Rat} (n m : Int) (h : innO o = false) : repE o n m = 41 := if_pos h
theorem repE_yes {o : Option Rat} (n m : Int) (h : innO o = true) : repE o n m = if n < 0 ∨ 32 < n ∨ m < 0 ∨ n < m then 3 else 0 := if_neg (by rw [h]; decide)
theorem innO_innV {r : Rat} (h : innO (some r) = true) : Inn r := by
  simp only [innO, Bool.and_eq_true, decide_eq_true_eq] at h
  obtain ⟨⟨h1, h2⟩, h3⟩ := h
  have hc : r.den ≤ 1000 := by simp [chO] at h1; exact h1.2
  exact ⟨⟨Rat.le_of_lt h2, Rat.le_of_lt h3, hc⟩, h2, h3⟩
theorem repE_ok {o : Option Rat} {n m : Int} (h : repE o n m = 0) : ∃ r, o = some r ∧ Inn r ∧ 0 ≤ n ∧ n ≤ 32 ∧ 0 ≤ m ∧ m ≤ n := by
  unfold repE at h
  by_cases hi : innO o = false
  · rw [if_pos hi] at h; simp at h
  · rw [if_neg hi] at h
    have hi' : innO o = true := by simpa using hi
    cases o with
    | none => simp [innO] at hi'
    | some r =>
      refine ⟨r, rfl, innO_innV hi', ?_⟩
      by_cases hb : n < 0 ∨ 32 < n ∨ m < 0 ∨ n < m
      · rw [if_pos hb] at h; simp at h
      · omega
set_option maxRecDepth 100000 in
set_option maxHeartbeats 8000000 in
theorem r38check_any (w : World) (n m : Int) (al : Fa) (l k : List Nat) (hq : Fq w al l k) :
    Calls Tryz.prog 62 #[.int .i64 n, .int .i64 m, .agg #[.slice al.A al.n al.c, .slice al.B al.m al.d]] w fun e w' => e = .returned (.int .i64 (repE (fracOf l k) n m)) ∧ Below w.heap.size w w' := by
  have HQ0 := hide hq
  clear hq
  rcases h1 : innO (fracOf l k)
  · have HI := hide h1
    have HE := hide (repE_no n m h1)
    clear h1
    go_enter Tryz.func62, Tryz.ntmps62
    go_upto_region 1 with (fail)
    generalize hW : World.alloc w _ = v
    have HV := hide (show Below w.heap.size w v by rw [← hW]; exact (Below.refl _ _).alloc (Nat.le_refl _) _)
    have HB := hide (show Bq v w.heap.size al by rw [← hW]; exact Bq.mk0 _ al rfl)
    have HQ := hide (show Fq v al l k by rw [← hW]; exact HQ0.out.alloc _)
    have q0 := HB.out.c0
    have q1 := HB.out.c1
    clear hW
    go_wp2_with (go_at_call 96; (with_reducible refine (r35inner_any _ al l k HQ.out).mono ?_); rintro e w1 ⟨rfl, hb⟩; rw [HI.out]; have HB1 := hide (HV.out.trans (hb.mono HV.out.size)); clear hb)
    refine bodyPost_ret (v := .int .i64 41) (by simp [results, Tryz.results62, go_sem, *]) rfl ⟨by rw [HE.out], HB1.out⟩
  · have HI := hide h1
    have HE := hide (repE_yes n m h1)
    clear h1
    go_enter Tryz.func62, Tryz.ntmps62
    go_upto_region 1 with (fail)
    generalize hW : World.alloc w _ = v
    have HV := hide (show Below w.heap.size w v by rw [← hW]; exact (Below.refl _ _).alloc (Nat.le_refl _) _)
    have HB := hide (show Bq v w.heap.size al by rw [← hW]; exact Bq.mk0 _ al rfl)
    have HQ := hide (show Fq v al l k by rw [← hW]; exact HQ0.out.alloc _)
    have q0 := HB.out.c0
    have q1 := HB.out.c1
    clear hW
    go_wp2_with (go_at_call 96; (with_reducible refine (r35inner_any _ al l k HQ.out).mono ?_); rintro e w1 ⟨rfl, hb⟩; rw [HI.out]; have HB1 := hide (HV.out.trans (hb.mono HV.out.size)); clear hb)
    all_goals (go_ret; first | exact ⟨by rw [HE.out, if_pos (by omega)]; rfl, HB1.out⟩ | exact ⟨by rw [HE.out, if_neg (by omega)]; rfl, HB1.out⟩)

theorem rzatmost_ok (w : World) (a : Fa) (r : Rat) (n : Nat) (m : Int) (ha : Fo w a (some r)) (hc : Chn r) (hn : n ≤ 32) : Calls Tryz.prog 97 #[.agg #[.slice a.A a.n a.c, .slice a.B a.m a.d], .int .i64 (n : Int), .int .i64 m] w fun e w' => RetV w (atM r n m) e w' := by
  have h := rzatmost_any w a _ _ (n : Int) m ha.1
  rw [fracOf_self ha.2, totR_le] at h
  exact h.mono fun e w' h => h.ok (totR_ok hc hn)
theorem rzatleast_ok (w : World) (a : Fa) (r : Rat) (n : Nat) (m : Int) (ha : Fo w a (some r)) (hc : Chn r) (hn : n ≤ 32) (hm : m < 9223372036854775808) : Calls Tryz.prog 99 #[.agg #[.slice a.A a.n a.c, .slice a.B a.m a.d], .int .i64 (n : Int), .int .i64 m] w fun e w' => RetV w (atL r n m) e w' := by
  have h := rzatleast_any w a _ _ (n : Int) m ha.1 hm
  rw [fracOf_self ha.2, totR_ge] at h
  exact h.mono fun e w' h => h.ok (totR_ok hc hn)
set_option maxRecDepth 100000 in
set_option maxHeartbeats 8000000 in
theorem r38low_any (w : World) (b : Nat) (hb1 : b ≤ 1000) (al : Fa) (ar : Rat) (n : Nat) (m : Int) (ha : Fo w al (some ar)) (hn : n ≤ 32) :
    Calls Tryz.prog 63 #[.int .i64 (n : Int), .int .i64 m, .int .i64 (b : Int), .agg #[.slice al.A al.n al.c, .slice al.B al.m al.d]] w fun e w' => e = .returned (.bool (decide (atM (mkRat (b : Int) 1000) n m ≤ ar))) ∧ Below w.heap.size w w' := by
  obtain ⟨g, hg⟩ : ∃ g, g = decide (atM (mkRat (b : Int) 1000) n m ≤ ar) := ⟨_, rfl⟩
  have g1 : decide (cmpO (some (atM (mkRat (b : Int) 1000) n m)) (some ar) ≤ 0) = g := by rw [hg]; exact decide_eq_decide.2 cmpQ_le
  rw [← hg]
  have HA := hide ha
  have HN := hide hn
  have hcc := mk1000_chn hb1
  have HC := hide hcc
  have HF := hide (show ∀ W, Calls Tryz.prog 48 #[.int .i64 (b : Int), .int .i64 1000] W fun e w' => Ret1 W (some (mkRat (b : Int) 1000)) e w' from fun W => rzof_any W b 1000 b 1000 rfl rfl (by omega) (by omega) (by omega))
  clear ha hn hcc hg
  go_enter Tryz.func63, Tryz.ntmps63
  go_upto_region 1 with (fail)
  generalize hW : World.alloc w _ = v
  have HV := hide (show Below w.heap.size w v by rw [← hW]; exact (Below.refl _ _).alloc (Nat.le_refl _) _)
  have HL := hide (show Bf v w.heap.size al ar by rw [← hW]; exact ⟨Bq.mk0 _ al rfl, HA.out.alloc _⟩)
  clear hW
  go_upto_region 2 with (first
    | (go_at_call 97; (with_reducible refine (rzatmost_ok _ c _ n m HO.out HC.out HN.out).mono ?_); rintro e w3 ⟨c2, rfl, ho, hb⟩; have HO3 := hide ho; have HB3 := hide (HB1.out.trans (hb.mono HB1.out.size)); have HL3 := hide (HL1.out.below hb); clear ho hb)
    | (go_at_call 48; (with_reducible refine (HF.out _).mono ?_); rintro e w1 ⟨c, rfl, ho, hb⟩; have HO := hide ho; have HB1 := hide (HV.out.trans (hb.mono HV.out.size)); have HL1 := hide (HL.out.below hb); clear ho hb))
  generalize hW : World.alloc w3 _ = v4
  have HP4 := hide (show Bf v4 w3.heap.size c2 _ by rw [← hW]; exact ⟨Bq.mk0 _ c2 rfl, HO3.out.alloc _⟩)
  have HL4 := hide (show Bf v4 w.heap.size al ar by rw [← hW]; exact HL3.out.alloc _)
  have HB4 := hide (show Below w.heap.size w v4 by rw [← hW]; exact HB3.out.alloc HB3.out.size _)
  have q0 := HP4.out.b.c0
  have q1 := HP4.out.b.c1
  have u0 := HL4.out.b.c0
  have u1 := HL4.out.b.c1
  clear hW
  go_wp2_with (go_at_call 83; (with_reducible refine (r2cmp_o _ c2 al (some (atM (mkRat (b : Int) 1000) n m)) (some ar) HP4.out.o HL4.out.o).mono ?_); rintro e w5 ⟨rfl, hb⟩; have HB8 := hide (HB4.out.trans (hb.mono HB4.out.size)); clear hb)
  refine bodyPost_ret (v := .bool g) (by simp [results, Tryz.results63, go_sem, *]) rfl ⟨rfl, HB8.out⟩
set_option maxRecDepth 100000 in
set_option maxHeartbeats 8000000 in
theorem r38high_any (w : World) (b : Nat) (hb1 : b ≤ 1000) (al : Fa) (ar : Rat) (n : Nat) (m : Int) (ha : Fo w al (some ar)) (hn : n ≤ 32) (hm : m < 9223372036854775808) :
    Calls Tryz.prog 67 #[.int .i64 (n : Int), .int .i64 m, .int .i64 (b : Int), .agg #[.slice al.A al.n al.c, .slice al.B al.m al.d]] w fun e w' => e = .returned (.bool (decide (atL (mkRat (b : Int) 1000) n m ≤ ar))) ∧ Below w.heap.size w w' := by
  have HM := hide hm
  clear hm
  obtain ⟨g, hg⟩ : ∃ g, g = decide (atL (mkRat (b : Int) 1000) n m ≤ ar) := ⟨_, rfl⟩
  have g1 : decide (cmpO (some (atL (mkRat (b : Int) 1000) n m)) (some ar) ≤ 0) = g := by rw [hg]; exact decide_eq_decide.2 cmpQ_le
  rw [← hg]
  have HA := hide ha
  have HN := hide hn
  have hcc := mk1000_chn hb1
  have HC := hide hcc
  have HF := hide (show ∀ W, Calls Tryz.prog 48 #[.int .i64 (b : Int), .int .i64 1000] W fun e w' => Ret1 W (some (mkRat (b : Int) 1000)) e w' from fun W => rzof_any W b 1000 b 1000 rfl rfl (by omega) (by omega) (by omega))
  clear ha hn hcc hg
  go_enter Tryz.func67, Tryz.ntmps67
  go_upto_region 1 with (fail)
  generalize hW : World.alloc w _ = v
  have HV := hide (show Below w.heap.size w v by rw [← hW]; exact (Below.refl _ _).alloc (Nat.le_refl _) _)
  have HL := hide (show Bf v w.heap.size al ar by rw [← hW]; exact ⟨Bq.mk0 _ al rfl, HA.out.alloc _⟩)
  clear hW
  go_upto_region 2 with (first
    | (go_at_call 99; (with_reducible refine (rzatleast_ok _ c _ n m HO.out HC.out HN.out HM.out).mono ?_); rintro e w3 ⟨c2, rfl, ho, hb⟩; have HO3 := hide ho; have HB3 := hide (HB1.out.trans (hb.mono HB1.out.size)); have HL3 := hide (HL1.out.below hb); clear ho hb)
    | (go_at_call 48; (with_reducible refine (HF.out _).mono ?_); rintro e w1 ⟨c, rfl, ho, hb⟩; have HO := hide ho; have HB1 := hide (HV.out.trans (hb.mono HV.out.size)); have HL1 := hide (HL.out.below hb); clear ho hb))
  generalize hW : World.alloc w3 _ = v4
  have HP4 := hide (show Bf v4 w3.heap.size c2 _ by rw [← hW]; exact ⟨Bq.mk0 _ c2 rfl, HO3.out.alloc _⟩)
  have HL4 := hide (show Bf v4 w.heap.size al ar by rw [← hW]; exact HL3.out.alloc _)
  have HB4 := hide (show Below w.heap.size w v4 by rw [← hW]; exact HB3.out.alloc HB3.out.size _)
  have q0 := HP4.out.b.c0
  have q1 := HP4.out.b.c1
  have u0 := HL4.out.b.c0
  have u1 := HL4.out.b.c1
  clear hW
  go_wp2_with (go_at_call 83; (with_reducible refine (r2cmp_o _ c2 al (some (atL (mkRat (b : Int) 1000) n m)) (some ar) HP4.out.o HL4.out.o).mono ?_); rintro e w5 ⟨rfl, hb⟩; have HB8 := hide (HB4.out.trans (hb.mono HB4.out.size)); clear hb)
  refine bodyPost_ret (v := .bool g) (by simp [results, Tryz.results67, go_sem, *]) rfl ⟨rfl, HB8.out⟩
end Go.Proofs.YtnokfhkcfebimaaGreat

/- Contracts: the report laws' level and known. -/
namespace Go.Proofs.YtnokfhkcfebimaaGreat
open Go.RowKit

set_option maxRecDepth 100000 in
set_option maxHeartbeats 8000000 in
theorem level_any (w : World) (T : Nat) (A : Option Addr) (n c : Nat) (l : List Int) (a : Nat) (hP : Tp w T A n c l a) (ha : a ≤ 4294960000) :
    Calls Tryz.prog 31 #[.pointer (some ⟨T, 0, none⟩)] w fun e w' => ∃ (f : Fa) (r : Rat), e = .returned (.agg #[.slice f.A f.n f.c, .slice f.B f.m f.d]) ∧ Fo w' f (some r) ∧ Inn r ∧ Fr w w' (fun b => b = T) := by
  have hTl := hP.t.1
  have HP0 := hide hP
  go_enter Tryz.func31, Tryz.ntmps31
  go_upto_region 1 with (fail)
  generalize hW : World.alloc w _ = v
  have HR := hide (show Rb v w.heap.size by rw [← hW]; exact Rb.mk0 _ rfl)
  have HF := hide (show Fr w v (fun b => b = T) by rw [← hW]; exact (Fr.refl _ _).alloc _)
  have HP := hide (show Tp v T A n c l a by rw [← hW]; exact hP.alloc _)
  clear hW hP
  have hvz := HR.out.sz
  rcases hB : decide (tapeV l a 4 < 1)
  · have HBO := hide hB
    clear hB
    go_wp2_with (first
      | (go_at_call 41; refine (chancetp_any _ T A n c l a 1 4 HP.out (by omega) (by omega)).mono ?_; rintro e w1 ⟨rfl, hp, hf⟩; rw [HBO.out]; have HP1 := hide hp; have HR1 := hide ((HR.out.bq.one hf (by omega)).rb); have HF1 := hide (HF.out.trans hf); have hT1 := HP1.out.t.1; clear hp hf)
      | (go_at_call 26; refine (pickp_any _ T A n c l (a + 1) _ 5 5 [2, 10, 20, 100, 1000] (HP1.out.alloc _) (by omega) (rs_new (by omega) [2, 10, 20, 100, 1000] 3) rfl (by decide) (by decide)).mono ?_; rintro e w2 ⟨⟨v1, hv, rfl⟩, hp, hf⟩; have HV := hide (mem_nat2 2 hv (by decide)); have HR2 := hide (((HR1.out.bq.alloc _).one hf (by omega)).rb); have HF2 := hide ((HF1.out.alloc _).trans hf); have hT2 := hp.t.1; clear hv hp hf; obtain ⟨d1, rfl, hd1, hd2⟩ := HV.out; clear HV)
      | (go_at_call 25; (with_reducible refine (small1_any _ d1 (by omega) (by omega)).mono ?_); rintro e w3 ⟨f, rfl, ho, hb⟩; have HO := hide ho; have HR3 := hide (HR2.out.below hb); have HF3 := hide (HF2.out.below_ hb); obtain ⟨r0, r1, rf, rz, -⟩ := HR3.out; clear ho hb))
    refine bodyPost_ret (v := .agg #[.slice f.A f.n f.c, .slice f.B f.m f.d]) (by simp [results, Tryz.results31, go_sem, *]) rfl ⟨f, mkRat ((1 : Nat) : Int) d1, rfl, HO.out.put2 HR3.out.nb _ _ (by simp), inn_mk hd1 hd2, (HF3.out.setCell (.inl (Nat.le_refl _)) _).setCell (.inl (Nat.le_refl _)) _⟩
  · have HBO := hide hB
    clear hB
    go_wp2_with (first
      | (go_at_call 41; refine (chancetp_any _ T A n c l a 1 4 HP.out (by omega) (by omega)).mono ?_; rintro e w1 ⟨rfl, hp, hf⟩; rw [HBO.out]; have HP1 := hide hp; have HR1 := hide ((HR.out.bq.one hf (by omega)).rb); have HF1 := hide (HF.out.trans hf); have hT1 := HP1.out.t.1; clear hp hf)
      | (go_at_call 40; refine (innermi_any _ T A n c l (a + 1) HP1.out (by omega)).mono ?_; rintro e w2 ⟨f, r, rfl, ho, hc, hi, hp, hf⟩; have HO := hide ho; have HI := hide (inn_of hc hi); have HR2 := hide ((HR1.out.bq.one hf (by omega)).rb); have HF2 := hide (HF1.out.trans hf); obtain ⟨r0, r1, rf, rz, -⟩ := HR2.out; clear ho hc hi hp hf))
    refine bodyPost_ret (v := .agg #[.slice f.A f.n f.c, .slice f.B f.m f.d]) (by simp [results, Tryz.results31, go_sem, *]) rfl ⟨f, r, rfl, HO.out.put2 HR2.out.nb _ _ (by simp), HI.out, (HF2.out.setCell (.inl (Nat.le_refl _)) _).setCell (.inl (Nat.le_refl _)) _⟩
theorem low_ex : IsGrt (fun (b : Nat) => decide (atL (mkRat (b : Int) 1000) 10 0 ≤ mkRat 1 20)) 1000 0 := ⟨by omega, .inl rfl, .inr (by decide +kernel)⟩
theorem up_ex : IsLst (fun (b : Nat) => decide (atM (mkRat (b : Int) 1000) 10 0 ≤ mkRat 1 20)) 1000 259 := by
  have h1 : IsSr (fun (b : Nat) => decide (atM (mkRat (b : Int) 1000) 10 0 ≤ mkRat 1 20)) 1001 259 := ⟨by omega, .inr (by decide +kernel), .inr (by decide +kernel)⟩
  exact upper_is h1
theorem low_anti {n : Nat} {m : Int} {ar : Rat} : ∀ i j, i ≤ j → (fun (b : Nat) => decide (atL (mkRat (b : Int) 1000) n m ≤ ar) && decide (b ≤ 1000)) j = true → (fun (b : Nat) => decide (atL (mkRat (b : Int) 1000) n m ≤ ar) && decide (b ≤ 1000)) i = true := fun i j hij hj => by
  simp only [Bool.and_eq_true] at hj ⊢
  have h2 := of_decide_eq_true hj.2
  exact ⟨atL_step i j hij h2 hj.1, decide_eq_true (by omega)⟩
theorem grt_uniq {n : Nat} {m : Int} {ar : Rat} {v u : Nat} (h : IsGrt (fun (b : Nat) => decide (atL (mkRat (b : Int) 1000) n m ≤ ar)) 1000 v) (k : IsGrt (fun (b : Nat) => decide (atL (mkRat (b : Int) 1000) n m ≤ ar)) 1000 u) : v = u := by
  have e : ∀ i, i ≤ 1000 → (fun (b : Nat) => decide (atL (mkRat (b : Int) 1000) n m ≤ ar)) i = (fun (b : Nat) => decide (atL (mkRat (b : Int) 1000) n m ≤ ar) && decide (b ≤ 1000)) i := fun i hi => by
    show decide (atL (mkRat (i : Int) 1000) n m ≤ ar) = (decide (atL (mkRat (i : Int) 1000) n m ≤ ar) && decide (i ≤ 1000))
    rw [show decide (i ≤ 1000) = true from decide_eq_true hi, Bool.and_true]
  exact IsGrt.uniq low_anti (h.congr e) (k.congr e)
theorem pk1 (w : World) (f : Fa) (h : Fo w f (some (mkRat 1 20))) : Calls Tryz.prog 32 #[.int .i64 10, .int .i64 0, .agg #[.slice f.A f.n f.c, .slice f.B f.m f.d]] w fun e w' => e = .returned (.tuple #[.int .i64 259, .int .i64 0]) ∧ Below w.heap.size w w' := by
  refine (upper_ok w 10 0 f (mkRat 1 20) h inn20 (by omega) (by omega) (by omega)).mono ?_
  rintro e w' ⟨v, rfl, hv, hb⟩
  rw [hv.uniq up_ex]
  exact ⟨rfl, hb⟩
theorem pk2 (w : World) (f : Fa) (h : Fo w f (some (mkRat 1 20))) : Calls Tryz.prog 34 #[.int .i64 10, .int .i64 0, .agg #[.slice f.A f.n f.c, .slice f.B f.m f.d]] w fun e w' => e = .returned (.tuple #[.int .i64 0, .int .i64 0]) ∧ Below w.heap.size w w' := by
  refine (loper_ok w 10 0 f (mkRat 1 20) h inn20 (by omega) (by omega) (by omega)).mono ?_
  rintro e w' ⟨v, rfl, hv, hb⟩
  rw [grt_uniq hv low_ex]
  exact ⟨rfl, hb⟩
set_option maxRecDepth 100000 in
set_option maxHeartbeats 8000000 in
theorem pknown_any (w : World) : Calls Tryz.prog 30 #[] w fun e w' => e = .returned (.bool true) ∧ Below w.heap.size w w' := by
  go_enter Tryz.func30, Tryz.ntmps30
  go_wp2_with (first
    | (go_at_call 34; (with_reducible refine (pk2 _ f2 HO3.out).mono ?_); rintro e w4 ⟨rfl, hb⟩; have HB4 := hide (HB3.out.trans (hb.mono HB3.out.size)); clear hb)
    | (go_at_call 25; (with_reducible refine (sm20 _).mono ?_); rintro e w3 ⟨f2, rfl, ho, hb⟩; have HO3 := hide ho; have HB3 := hide (HB2.out.trans (hb.mono HB2.out.size)); clear ho hb)
    | (go_at_call 32; (with_reducible refine (pk1 _ f1 HO1.out).mono ?_); rintro e w2 ⟨rfl, hb⟩; have HB2 := hide (HB1.out.trans (hb.mono HB1.out.size)); clear hb)
    | (go_at_call 25; (with_reducible refine (sm20 _).mono ?_); rintro e w1 ⟨f1, rfl, ho, hb⟩; have HO1 := hide ho; have HB1 := hide hb; clear ho hb))
  go_ret
  exact ⟨rfl, HB4.out⟩
end Go.Proofs.YtnokfhkcfebimaaGreat

/- Contracts: report's and the reference's bounds, for all arguments. -/
namespace Go.Proofs.YtnokfhkcfebimaaGreat
open Go.RowKit

theorem not_inn {r : Rat} (hc : chO (some r) = true) (h0 : 0 ≤ r) (hi : innO (some r) = false) (hp : 0 < r) : r = 1 := by
  have h1 : r ≤ 1 := by simp [chO] at hc; exact hc.1
  have h2 : ¬ r < 1 := fun h => by
    simp only [innO, hc, decide_eq_true hp, decide_eq_true h] at hi
    simp at hi
  exact Rat.le_antisymm h1 (Rat.not_lt.1 h2)
set_option maxRecDepth 100000 in
set_option maxHeartbeats 8000000 in
theorem repcheck_bad (w : World) (n m : Int) (al : Fa) (l k : List Nat) (hq : Fq w al l k) (hE : repE (fracOf l k) n m ≠ 0) :
    Calls Tryz.prog 56 #[.int .i64 n, .int .i64 m, .agg #[.slice al.A al.n al.c, .slice al.B al.m al.d]] w fun e w' => e = .returned (.int .i64 (repE (fracOf l k) n m)) ∧ Below w.heap.size w w' := by
  have HQ := hide hq
  have HF := hide (show ∀ W, Calls Tryz.prog 93 #[.int .i64 1, .int .i64 1] W fun e w' => Ret W (some 1, 0) e w' from fun W => by
    have := fof_any W 1 1 (by omega) (by omega) (by omega)
    rwa [show mkRat ((1 : Nat) : Int) 1 = 1 by decide +kernel] at this)
  rcases hi : innO (fracOf l k)
  · have HE := hide (repE_no n m hi)
    rcases hc : chO (fracOf l k)
    · have HCH := hide hc
      clear hq hE hi hc
      go_enter Tryz.func56, Tryz.ntmps56
      go_upto_region 1 with (fail)
      generalize hW : World.alloc w _ = v
      have HV := hide (show Below w.heap.size w v by rw [← hW]; exact (Below.refl _ _).alloc (Nat.le_refl _) _)
      have HB := hide (show Bq v w.heap.size al by rw [← hW]; exact Bq.mk0 _ al rfl)
      have HQ1 := hide (show Fq v al l k by rw [← hW]; exact HQ.out.alloc _)
      clear hW
      go_upto_region 2 with (go_at_call 93; (with_reducible refine (HF.out _).mono ?_); rintro e w1 ⟨c, rfl, ho, hb⟩; have HO := hide (show Fo w1 c (some 1) from ho); have HV1 := hide (HV.out.trans (hb.mono HV.out.size)); have HB1 := hide (HB.out.below hb); have HQ2 := hide (HQ1.out.below hb); clear ho hb)
      generalize hW : World.alloc w1 _ = v2
      have HP2 := hide (show Bf v2 w1.heap.size c 1 by rw [← hW]; exact ⟨Bq.mk0 _ c rfl, HO.out.alloc _⟩)
      have HB2 := hide (show Bq v2 w.heap.size al by rw [← hW]; exact HB1.out.alloc _)
      have HQ3 := hide (show Fq v2 al l k by rw [← hW]; exact HQ2.out.alloc _)
      have HV2 := hide (show Below w.heap.size w v2 by rw [← hW]; exact HV1.out.alloc HV1.out.size _)
      obtain ⟨bp, hbp⟩ : ∃ x, x = w1.heap.size := ⟨_, rfl⟩
      rw [← hbp] at HP2 ⊢
      have q0 := HB2.out.c0
      have q1 := HB2.out.c1
      clear hW hbp
      go_wp2_with ((go_at_call 43; (with_reducible refine (chance_any _ al l k HQ3.out).mono ?_); rintro e w2 ⟨rfl, hb⟩; rw [HCH.out]; have HV3 := hide (HV2.out.trans (hb.mono HV2.out.size)); have HP3 := hide (HP2.out.below hb); have HB3 := hide (HB2.out.below hb); have HQ4 := hide (HQ3.out.below hb); have u0 := HB3.out.c0; have u1 := HB3.out.c1; have y0 := HP3.out.b.c0; have y1 := HP3.out.b.c1; clear hb))
      refine bodyPost_ret (v := .int .i64 41) (by simp [results, Tryz.results56, go_sem, *]) rfl ⟨by rw [HE.out], HV3.out⟩
    · obtain ⟨r, hr⟩ := chO_some hc
      have hlen := fq_len hq hr
      have HCH := hide hc
      have HR := hide hr
      by_cases hn0 : al.n = 0
      · have g0 : decide ((al.n : Int) = 0) = true := decide_eq_true (by omega)
        have g1 : (al.n : Int) = 0 := by omega
        have g2 : ((al.n : Int) == 0) = true := by simp [g1]
        clear hq hE hi hc hr hlen hn0
        go_enter Tryz.func56, Tryz.ntmps56
        go_upto_region 1 with (fail)
        generalize hW : World.alloc w _ = v
        have HV := hide (show Below w.heap.size w v by rw [← hW]; exact (Below.refl _ _).alloc (Nat.le_refl _) _)
        have HB := hide (show Bq v w.heap.size al by rw [← hW]; exact Bq.mk0 _ al rfl)
        have HQ1 := hide (show Fq v al l k by rw [← hW]; exact HQ.out.alloc _)
        clear hW
        go_upto_region 2 with (go_at_call 93; (with_reducible refine (HF.out _).mono ?_); rintro e w1 ⟨c, rfl, ho, hb⟩; have HO := hide (show Fo w1 c (some 1) from ho); have HV1 := hide (HV.out.trans (hb.mono HV.out.size)); have HB1 := hide (HB.out.below hb); have HQ2 := hide (HQ1.out.below hb); clear ho hb)
        generalize hW : World.alloc w1 _ = v2
        have HP2 := hide (show Bf v2 w1.heap.size c 1 by rw [← hW]; exact ⟨Bq.mk0 _ c rfl, HO.out.alloc _⟩)
        have HB2 := hide (show Bq v2 w.heap.size al by rw [← hW]; exact HB1.out.alloc _)
        have HQ3 := hide (show Fq v2 al l k by rw [← hW]; exact HQ2.out.alloc _)
        have HV2 := hide (show Below w.heap.size w v2 by rw [← hW]; exact HV1.out.alloc HV1.out.size _)
        obtain ⟨bp, hbp⟩ : ∃ x, x = w1.heap.size := ⟨_, rfl⟩
        rw [← hbp] at HP2 ⊢
        have q0 := HB2.out.c0
        have q1 := HB2.out.c1
        clear hW hbp
        go_wp2_with ((go_at_call 43; (with_reducible refine (chance_any _ al l k HQ3.out).mono ?_); rintro e w2 ⟨rfl, hb⟩; rw [HCH.out]; have HV3 := hide (HV2.out.trans (hb.mono HV2.out.size)); have HP3 := hide (HP2.out.below hb); have HB3 := hide (HB2.out.below hb); have HQ4 := hide (HQ3.out.below hb); have u0 := HB3.out.c0; have u1 := HB3.out.c1; have y0 := HP3.out.b.c0; have y1 := HP3.out.b.c1; clear hb))
        refine bodyPost_ret (v := .int .i64 41) (by simp [results, Tryz.results56, go_sem, *]) rfl ⟨by rw [HE.out], HV3.out⟩
      · have hp : 0 < r := hlen.1.1 (by omega)
        have h1 : r = 1 := not_inn (by rw [← hr]; exact hc) hlen.2 (by rw [← hr]; exact hi) hp
        have g0 : decide ((al.n : Int) = 0) = false := decide_eq_false (by omega)
        have g1 : ¬ ((al.n : Int) = 0) := by omega
        have g2 : ((al.n : Int) == 0) = false := beq_eq_false_iff_ne.2 g1
        have HZ := hide (show (0 : Int) = cmpO (some r) (some 1) by rw [h1]; decide +kernel)
        clear hq hE hi hc hr hlen hn0 hp h1
        go_enter Tryz.func56, Tryz.ntmps56
        go_upto_region 1 with (fail)
        generalize hW : World.alloc w _ = v
        have HV := hide (show Below w.heap.size w v by rw [← hW]; exact (Below.refl _ _).alloc (Nat.le_refl _) _)
        have HB := hide (show Bq v w.heap.size al by rw [← hW]; exact Bq.mk0 _ al rfl)
        have HQ1 := hide (show Fq v al l k by rw [← hW]; exact HQ.out.alloc _)
        clear hW
        go_upto_region 2 with (go_at_call 93; (with_reducible refine (HF.out _).mono ?_); rintro e w1 ⟨c, rfl, ho, hb⟩; have HO := hide (show Fo w1 c (some 1) from ho); have HV1 := hide (HV.out.trans (hb.mono HV.out.size)); have HB1 := hide (HB.out.below hb); have HQ2 := hide (HQ1.out.below hb); clear ho hb)
        generalize hW : World.alloc w1 _ = v2
        have HP2 := hide (show Bf v2 w1.heap.size c 1 by rw [← hW]; exact ⟨Bq.mk0 _ c rfl, HO.out.alloc _⟩)
        have HB2 := hide (show Bq v2 w.heap.size al by rw [← hW]; exact HB1.out.alloc _)
        have HQ3 := hide (show Fq v2 al l k by rw [← hW]; exact HQ2.out.alloc _)
        have HV2 := hide (show Below w.heap.size w v2 by rw [← hW]; exact HV1.out.alloc HV1.out.size _)
        obtain ⟨bp, hbp⟩ : ∃ x, x = w1.heap.size := ⟨_, rfl⟩
        rw [← hbp] at HP2 ⊢
        have q0 := HB2.out.c0
        have q1 := HB2.out.c1
        clear hW hbp
        go_wp2_with (first | (go_at_call 71; (with_reducible refine (fcmp_o _ al c (some r) (some 1) (fo_of HQ4.out HR.out) HP3.out.o).mono ?_); rintro e w5 ⟨rfl, hb⟩; rw [← HZ.out]; have HV8 := hide (HV3.out.trans (hb.mono HV3.out.size)); clear hb) | (go_at_call 43; (with_reducible refine (chance_any _ al l k HQ3.out).mono ?_); rintro e w2 ⟨rfl, hb⟩; rw [HCH.out]; have HV3 := hide (HV2.out.trans (hb.mono HV2.out.size)); have HP3 := hide (HP2.out.below hb); have HB3 := hide (HB2.out.below hb); have HQ4 := hide (HQ3.out.below hb); have u0 := HB3.out.c0; have u1 := HB3.out.c1; have y0 := HP3.out.b.c0; have y1 := HP3.out.b.c1; clear hb))
        refine bodyPost_ret (v := .int .i64 41) (by simp [results, Tryz.results56, go_sem, *]) rfl ⟨by rw [HE.out], HV8.out⟩
  · have HE := hide (repE_yes n m hi)
    have hbad : n < 0 ∨ 32 < n ∨ m < 0 ∨ n < m := Classical.byContradiction fun h => hE (by rw [HE.out, if_neg h])
    have HE3 := hide (show repE (fracOf l k) n m = 3 by rw [HE.out, if_pos hbad])
    cases hr : fracOf l k with
    | none => rw [hr] at hi; simp [innO] at hi
    | some r =>
      rw [hr] at hi
      have hin := innO_innV hi
      have hlen := fq_len hq hr
      have HCH := hide (show chO (fracOf l k) = true by rw [hr]; simp [chO, hin.c.h1, hin.c.hd])
      have HR := hide hr
      have hpos : 0 < al.n := hlen.1.2 hin.p
      have g0 : decide ((al.n : Int) = 0) = false := decide_eq_false (by omega)
      have g1 : ¬ ((al.n : Int) = 0) := by omega
      have g2 : ((al.n : Int) == 0) = false := beq_eq_false_iff_ne.2 g1
      have hcv : cmpO (some r) (some 1) < 0 := cmpQ_neg.2 hin.q
      obtain ⟨z, hz⟩ : ∃ z, z = cmpO (some r) (some 1) := ⟨_, rfl⟩
      rw [← hz] at hcv
      have HZ := hide hz
      have g3 : ¬ (z = 0) := by omega
      have g4 : (z == 0) = false := beq_eq_false_iff_ne.2 g3
      rw [hr] at HE3
      clear hq hE hi hr hin hlen hpos hcv hz HE
      go_enter Tryz.func56, Tryz.ntmps56
      go_upto_region 1 with (fail)
      generalize hW : World.alloc w _ = v
      have HV := hide (show Below w.heap.size w v by rw [← hW]; exact (Below.refl _ _).alloc (Nat.le_refl _) _)
      have HB := hide (show Bq v w.heap.size al by rw [← hW]; exact Bq.mk0 _ al rfl)
      have HQ1 := hide (show Fq v al l k by rw [← hW]; exact HQ.out.alloc _)
      clear hW
      go_upto_region 2 with (go_at_call 93; (with_reducible refine (HF.out _).mono ?_); rintro e w1 ⟨c, rfl, ho, hb⟩; have HO := hide (show Fo w1 c (some 1) from ho); have HV1 := hide (HV.out.trans (hb.mono HV.out.size)); have HB1 := hide (HB.out.below hb); have HQ2 := hide (HQ1.out.below hb); clear ho hb)
      generalize hW : World.alloc w1 _ = v2
      have HP2 := hide (show Bf v2 w1.heap.size c 1 by rw [← hW]; exact ⟨Bq.mk0 _ c rfl, HO.out.alloc _⟩)
      have HB2 := hide (show Bq v2 w.heap.size al by rw [← hW]; exact HB1.out.alloc _)
      have HQ3 := hide (show Fq v2 al l k by rw [← hW]; exact HQ2.out.alloc _)
      have HV2 := hide (show Below w.heap.size w v2 by rw [← hW]; exact HV1.out.alloc HV1.out.size _)
      obtain ⟨bp, hbp⟩ : ∃ x, x = w1.heap.size := ⟨_, rfl⟩
      rw [← hbp] at HP2 ⊢
      have q0 := HB2.out.c0
      have q1 := HB2.out.c1
      clear hW hbp
      go_wp2_with (first | (go_at_call 71; (with_reducible refine (fcmp_o _ al c (some r) (some 1) (fo_of HQ4.out HR.out) HP3.out.o).mono ?_); rintro e w5 ⟨rfl, hb⟩; rw [← HZ.out]; have HV8 := hide (HV3.out.trans (hb.mono HV3.out.size)); clear hb) | (go_at_call 43; (with_reducible refine (chance_any _ al l k HQ3.out).mono ?_); rintro e w2 ⟨rfl, hb⟩; rw [HCH.out]; have HV3 := hide (HV2.out.trans (hb.mono HV2.out.size)); have HP3 := hide (HP2.out.below hb); have HB3 := hide (HB2.out.below hb); have HQ4 := hide (HQ3.out.below hb); have u0 := HB3.out.c0; have u1 := HB3.out.c1; have y0 := HP3.out.b.c0; have y1 := HP3.out.b.c1; clear hb))
      all_goals first | (exfalso; omega) | (go_ret; exact ⟨by rw [HE3.out]; rfl, HV8.out⟩)
set_option maxRecDepth 100000 in
set_option maxHeartbeats 8000000 in
theorem upper_bad (w : World) (n m : Int) (al : Fa) (l k : List Nat) (hq : Fq w al l k) (hE : repE (fracOf l k) n m ≠ 0) :
    Calls Tryz.prog 32 #[.int .i64 n, .int .i64 m, .agg #[.slice al.A al.n al.c, .slice al.B al.m al.d]] w fun e w' => e = .returned (.tuple #[.int .i64 0, .int .i64 (repE (fracOf l k) n m)]) ∧ Below w.heap.size w w' := by
  obtain ⟨E, hEE⟩ : ∃ E, E = repE (fracOf l k) n m := ⟨_, rfl⟩
  rw [← hEE] at hE ⊢
  have HE := hide hEE
  have HQ := hide hq
  have HCK := hide (show ∀ W, Fq W al l k → Calls Tryz.prog 56 #[.int .i64 n, .int .i64 m, .agg #[.slice al.A al.n al.c, .slice al.B al.m al.d]] W fun e w' => e = .returned (.int .i64 E) ∧ Below W.heap.size W w' from fun W hW => by rw [hEE]; exact repcheck_bad W n m al l k hW (by rw [← hEE]; exact hE))
  have z1 : (E != 0) = true := by simpa using hE
  have z2 : ¬ E = 0 := hE
  clear hq hEE
  go_enter Tryz.func32, Tryz.ntmps32
  go_upto_region 1 with (fail)
  generalize hW : World.alloc (World.alloc (World.alloc w _) _) _ = v
  have HV := hide (show Below w.heap.size w v by rw [← hW]; exact (((Below.refl _ _).alloc (Nat.le_refl _) _).alloc (by simp) _).alloc (by simp; omega) _)
  have h3 : v.cell? ⟨w.heap.size, 0, none⟩ = some (.int .i64 n) := by rw [← hW]; simp [go_sem]
  have h4 : v.cell? ⟨w.heap.size + 1, 0, none⟩ = some (.int .i64 m) := by rw [← hW]; simp [go_sem]
  have HB := hide (show Bq v (w.heap.size + 2) al by rw [← hW]; exact Bq.mk0 _ al (by simp))
  have HQ1 := hide (show Fq v al l k by rw [← hW]; exact ((HQ.out.alloc _).alloc _).alloc _)
  have q0 := HB.out.c0
  have q1 := HB.out.c1
  have qz := HB.out.sz
  clear hW
  go_wp2_with (go_at_call 56; (with_reducible refine (HCK.out _ HQ1.out).mono ?_); rintro e w1 ⟨rfl, hb⟩; have HV1 := hide (HV.out.trans (hb.mono HV.out.size)); clear hb)
  refine bodyPost_ret (v := .tuple #[.int .i64 0, .int .i64 E]) (by simp [results, Tryz.results32, go_sem, *]) rfl ⟨rfl, HV1.out⟩
set_option maxRecDepth 100000 in
set_option maxHeartbeats 8000000 in
theorem loper_bad (w : World) (n m : Int) (al : Fa) (l k : List Nat) (hq : Fq w al l k) (hE : repE (fracOf l k) n m ≠ 0) :
    Calls Tryz.prog 34 #[.int .i64 n, .int .i64 m, .agg #[.slice al.A al.n al.c, .slice al.B al.m al.d]] w fun e w' => e = .returned (.tuple #[.int .i64 0, .int .i64 (repE (fracOf l k) n m)]) ∧ Below w.heap.size w w' := by
  obtain ⟨E, hEE⟩ : ∃ E, E = repE (fracOf l k) n m := ⟨_, rfl⟩
  rw [← hEE] at hE ⊢
  have HE := hide hEE
  have HQ := hide hq
  have HCK := hide (show ∀ W, Fq W al l k → Calls Tryz.prog 56 #[.int .i64 n, .int .i64 m, .agg #[.slice al.A al.n al.c, .slice al.B al.m al.d]] W fun e w' => e = .returned (.int .i64 E) ∧ Below W.heap.size W w' from fun W hW => by rw [hEE]; exact repcheck_bad W n m al l k hW (by rw [← hEE]; exact hE))
  have z1 : (E != 0) = true := by simpa using hE
  have z2 : ¬ E = 0 := hE
  clear hq hEE
  go_enter Tryz.func34, Tryz.ntmps34
  go_upto_region 1 with (fail)
  generalize hW : World.alloc (World.alloc (World.alloc w _) _) _ = v
  have HV := hide (show Below w.heap.size w v by rw [← hW]; exact (((Below.refl _ _).alloc (Nat.le_refl _) _).alloc (by simp) _).alloc (by simp; omega) _)
  have h3 : v.cell? ⟨w.heap.size, 0, none⟩ = some (.int .i64 n) := by rw [← hW]; simp [go_sem]
  have h4 : v.cell? ⟨w.heap.size + 1, 0, none⟩ = some (.int .i64 m) := by rw [← hW]; simp [go_sem]
  have HB := hide (show Bq v (w.heap.size + 2) al by rw [← hW]; exact Bq.mk0 _ al (by simp))
  have HQ1 := hide (show Fq v al l k by rw [← hW]; exact ((HQ.out.alloc _).alloc _).alloc _)
  have q0 := HB.out.c0
  have q1 := HB.out.c1
  have qz := HB.out.sz
  clear hW
  go_wp2_with (go_at_call 56; (with_reducible refine (HCK.out _ HQ1.out).mono ?_); rintro e w1 ⟨rfl, hb⟩; have HV1 := hide (HV.out.trans (hb.mono HV.out.size)); clear hb)
  refine bodyPost_ret (v := .tuple #[.int .i64 0, .int .i64 E]) (by simp [results, Tryz.results34, go_sem, *]) rfl ⟨rfl, HV1.out⟩
set_option maxRecDepth 100000 in
set_option maxHeartbeats 8000000 in
theorem r38up_bad (w : World) (n m : Int) (al : Fa) (l k : List Nat) (hq : Fq w al l k) (hE : repE (fracOf l k) n m ≠ 0) :
    Calls Tryz.prog 33 #[.int .i64 n, .int .i64 m, .agg #[.slice al.A al.n al.c, .slice al.B al.m al.d]] w fun e w' => e = .returned (.tuple #[.int .i64 0, .int .i64 (repE (fracOf l k) n m)]) ∧ Below w.heap.size w w' := by
  obtain ⟨E, hEE⟩ : ∃ E, E = repE (fracOf l k) n m := ⟨_, rfl⟩
  rw [← hEE] at hE ⊢
  have HE := hide hEE
  have HQ := hide hq
  have HCK := hide (show ∀ W, Fq W al l k → Calls Tryz.prog 62 #[.int .i64 n, .int .i64 m, .agg #[.slice al.A al.n al.c, .slice al.B al.m al.d]] W fun e w' => e = .returned (.int .i64 E) ∧ Below W.heap.size W w' from fun W hW => by rw [hEE]; exact r38check_any W n m al l k hW)
  have z1 : (E != 0) = true := by simpa using hE
  have z2 : ¬ E = 0 := hE
  clear hq hEE
  go_enter Tryz.func33, Tryz.ntmps33
  go_upto_region 1 with (fail)
  generalize hW : World.alloc w _ = v
  have HV := hide (show Below w.heap.size w v by rw [← hW]; exact (Below.refl _ _).alloc (Nat.le_refl _) _)
  have HB := hide (show Bq v w.heap.size al by rw [← hW]; exact Bq.mk0 _ al rfl)
  have HQ1 := hide (show Fq v al l k by rw [← hW]; exact HQ.out.alloc _)
  have q0 := HB.out.c0
  have q1 := HB.out.c1
  clear hW
  go_wp2_with (go_at_call 62; (with_reducible refine (HCK.out _ HQ1.out).mono ?_); rintro e w1 ⟨rfl, hb⟩; have HV1 := hide (HV.out.trans (hb.mono HV.out.size)); clear hb)
  refine bodyPost_ret (v := .tuple #[.int .i64 0, .int .i64 E]) (by simp [results, Tryz.results33, go_sem, *]) rfl ⟨rfl, HV1.out⟩
set_option maxRecDepth 100000 in
set_option maxHeartbeats 8000000 in
theorem r38lo_bad (w : World) (n m : Int) (al : Fa) (l k : List Nat) (hq : Fq w al l k) (hE : repE (fracOf l k) n m ≠ 0) :
    Calls Tryz.prog 35 #[.int .i64 n, .int .i64 m, .agg #[.slice al.A al.n al.c, .slice al.B al.m al.d]] w fun e w' => e = .returned (.tuple #[.int .i64 0, .int .i64 (repE (fracOf l k) n m)]) ∧ Below w.heap.size w w' := by
  obtain ⟨E, hEE⟩ : ∃ E, E = repE (fracOf l k) n m := ⟨_, rfl⟩
  rw [← hEE] at hE ⊢
  have HE := hide hEE
  have HQ := hide hq
  have HCK := hide (show ∀ W, Fq W al l k → Calls Tryz.prog 62 #[.int .i64 n, .int .i64 m, .agg #[.slice al.A al.n al.c, .slice al.B al.m al.d]] W fun e w' => e = .returned (.int .i64 E) ∧ Below W.heap.size W w' from fun W hW => by rw [hEE]; exact r38check_any W n m al l k hW)
  have z1 : (E != 0) = true := by simpa using hE
  have z2 : ¬ E = 0 := hE
  clear hq hEE
  go_enter Tryz.func35, Tryz.ntmps35
  go_upto_region 1 with (fail)
  generalize hW : World.alloc w _ = v
  have HV := hide (show Below w.heap.size w v by rw [← hW]; exact (Below.refl _ _).alloc (Nat.le_refl _) _)
  have HB := hide (show Bq v w.heap.size al by rw [← hW]; exact Bq.mk0 _ al rfl)
  have HQ1 := hide (show Fq v al l k by rw [← hW]; exact HQ.out.alloc _)
  have q0 := HB.out.c0
  have q1 := HB.out.c1
  clear hW
  go_wp2_with (go_at_call 62; (with_reducible refine (HCK.out _ HQ1.out).mono ?_); rintro e w1 ⟨rfl, hb⟩; have HV1 := hide (HV.out.trans (hb.mono HV.out.size)); clear hb)
  refine bodyPost_ret (v := .tuple #[.int .i64 0, .int .i64 E]) (by simp [results, Tryz.results35, go_sem, *]) rfl ⟨rfl, HV1.out⟩
end Go.Proofs.YtnokfhkcfebimaaGreat

/- Contracts: the reference's bounds, found by halving. -/
namespace Go.Proofs.YtnokfhkcfebimaaGreat
open Go.RowKit

theorem lst_half {g : Nat → Bool} {r : Nat} (hm : ∀ i j, i ≤ j → j ≤ 1000 → g i = true → g j = true) (h0 : r ≤ 1000) (h1 : r = 0 ∨ g (r - 1) = false) (h2 : r = 1000 ∨ g r = true) : IsLst g 1000 r := by
  refine ⟨h0, fun h hh => ?_, fun hr => by rcases h2 with h2 | h2; omega; exact h2⟩
  rcases h1 with h1 | h1
  · omega
  · cases hg : g h with
    | false => rfl
    | true => rw [hm h (r - 1) (by omega) (by omega) hg] at h1; cases h1
theorem r38check_ok {n : Nat} {m : Int} {al : Fa} {ar : Rat} (hi : Inn ar) (hn : n ≤ 32) (hm : 0 ≤ m) (hmn : m ≤ n) (hok : okR (some ar)) : ∀ W, Fq W al (numL (some ar)) (denL (some ar)) → Calls Tryz.prog 62 #[.int .i64 (n : Int), .int .i64 m, .agg #[.slice al.A al.n al.c, .slice al.B al.m al.d]] W fun e w' => e = .returned (.int .i64 0) ∧ Below W.heap.size W w' := fun W hW => by
  have h := r38check_any W (n : Int) m al _ _ hW
  rw [fracOf_self hok] at h
  have h1 : innO (some ar) = true := by simp [innO, chO, hi.c.h1, hi.c.hd, hi.p, hi.q]
  rw [repE_yes (n : Int) m h1, if_neg (by omega)] at h
  exact h
set_option maxRecDepth 100000 in
set_option maxHeartbeats 8000000 in
theorem r38up_ok (w : World) (n : Nat) (m : Int) (al : Fa) (ar : Rat) (ha : Fo w al (some ar)) (hi : Inn ar) (hn : n ≤ 32) (hm : 0 ≤ m) (hmn : m ≤ n) :
    Calls Tryz.prog 33 #[.int .i64 (n : Int), .int .i64 m, .agg #[.slice al.A al.n al.c, .slice al.B al.m al.d]] w fun e w' => ∃ v : Nat, e = .returned (.tuple #[.int .i64 (v : Int), .int .i64 0]) ∧ IsLst (fun (b : Nat) => decide (atM (mkRat (b : Int) 1000) n m ≤ ar)) 1000 v ∧ Below w.heap.size w w' := by
  have HCK := hide (r38check_ok (al := al) hi hn hm hmn ha.2)
  have HA := hide ha
  obtain ⟨G, hG⟩ : ∃ G : Nat → Bool, G = fun (b : Nat) => decide (atM (mkRat (b : Int) 1000) n m ≤ ar) := ⟨_, rfl⟩
  rw [← hG]
  have HG := hide (show ∀ W, Fo W al (some ar) → ∀ b : Nat, b ≤ 1000 → Calls Tryz.prog 63 #[.int .i64 (n : Int), .int .i64 m, .int .i64 (b : Int), .agg #[.slice al.A al.n al.c, .slice al.B al.m al.d]] W fun e w' => e = .returned (.bool (G b)) ∧ Below W.heap.size W w' from fun W hW b hb => by rw [hG]; exact r38low_any W b hb al ar n m hW hn)
  have HM := hide (show ∀ i j, i ≤ j → j ≤ 1000 → G i = true → G j = true from fun i j h1 h2 h3 => by rw [hG] at h3 ⊢; exact atM_step i j h1 h2 h3)
  clear ha hi hG hm hmn
  go_enter Tryz.func33, Tryz.ntmps33
  go_upto_region 1 with (fail)
  generalize hW : World.alloc w _ = v
  have HV := hide (show Below w.heap.size w v by rw [← hW]; exact (Below.refl _ _).alloc (Nat.le_refl _) _)
  have HL := hide (show Bf v w.heap.size al ar by rw [← hW]; exact ⟨Bq.mk0 _ al rfl, HA.out.alloc _⟩)
  have q0 := HL.out.b.c0
  have q1 := HL.out.b.c1
  have HQL := hide (show Fq v al (numL (some ar)) (denL (some ar)) from HL.out.o.1)
  clear hW
  go_wp2_with (go_at_call 62; (with_reducible refine (HCK.out _ HQL.out).mono ?_); rintro e w1 ⟨rfl, hb⟩; have HV1 := hide (HV.out.trans (hb.mono HV.out.size)); have HL1 := hide (HL.out.below hb); clear hb)
  go_loopw [9, 10] (fun iv jv wr => ∃ i j : Nat, iv = .int .i64 (i : Int) ∧ jv = .int .i64 (j : Int) ∧ i ≤ j ∧ j ≤ 1000 ∧ Hid (i = 0 ∨ G (i - 1) = false) ∧ Hid (j = 1000 ∨ G j = true) ∧ Hid (Below w1.heap.size w1 wr)) (fun iv jv _ => ((intOf jv).toNat - (intOf iv).toNat))
  case atStart => exact ⟨0, 1000, rfl, rfl, by omega, by omega, hide (.inl rfl), hide (.inl rfl), hide (Below.refl _ _)⟩
  case round =>
    obtain ⟨i, j, rfl, rfl, hij, hj, HI, HJ, HB⟩ := hrel
    have HLr := hide (HL1.out.below HB.out)
    have HBw := hide (HV1.out.trans (HB.out.mono HV1.out.size))
    by_cases he : i = j
    · subst he
      have hlt : decide ((i : Int) < (i : Int)) = false := decide_eq_false (by omega)
      go_wp2_with fail
      refine bodyPost_ret (v := .tuple #[.int .i64 (i : Int), .int .i64 0]) (by simp [results, Tryz.results33, go_sem, *]) rfl ⟨i, rfl, lst_half HM.out hj HI.out HJ.out, HBw.out⟩
    · have hlt : decide ((i : Int) < (j : Int)) = true := decide_eq_true (by omega)
      have hlt2 : (i : Int) < (j : Int) := by omega
      obtain ⟨h, hh⟩ : ∃ h : Nat, h = (i + j) / 2 := ⟨_, rfl⟩
      have hh1 : i ≤ h := by omega
      have hh2 : h < j := by omega
      have hh3 : ((i : Int) + (j : Int)) / 2 = (h : Int) := by omega
      have hh4 : ((i : Int) + (j : Int)).tdiv 2 = (h : Int) := by rw [Int.tdiv_eq_ediv_of_nonneg (by omega)]; exact hh3
      have hi1000 : i ≤ 1000 := by omega
      have q0 := HLr.out.b.c0
      have q1 := HLr.out.b.c1
      clear hh
      go_upto_region 7 with (fail)
      clear hh3 hh4
      have HC := hide (HG.out wr HLr.out.o h (by omega))
      cases hg : G h
      · rw [hg] at HC
        have HGH := hide hg
        clear hg
        go_wp2_with (go_at_call 63; (with_reducible refine HC.out.mono ?_); rintro e w2 ⟨rfl, hb⟩; have HB2 := hide (HB.out.trans (hb.mono HB.out.size)); clear hb)
        go_roundw
        case rel => exact ⟨h + 1, j, by go_num, rfl, by omega, hj, hide (.inr (by simpa using HGH.out)), HJ, HB2⟩
        case measure => simp [intOf]; omega
      · rw [hg] at HC
        have HGH := hide hg
        clear hg
        go_wp2_with (go_at_call 63; (with_reducible refine HC.out.mono ?_); rintro e w2 ⟨rfl, hb⟩; have HB2 := hide (HB.out.trans (hb.mono HB.out.size)); clear hb)
        go_roundw
        case rel => exact ⟨i, h, rfl, rfl, by omega, by omega, HI, hide (.inr HGH.out), HB2⟩
        case measure => simp [intOf]; omega
set_option maxRecDepth 100000 in
set_option maxHeartbeats 8000000 in
theorem r38lo_ok (w : World) (n : Nat) (m : Int) (al : Fa) (ar : Rat) (ha : Fo w al (some ar)) (hi : Inn ar) (hn : n ≤ 32) (hm : 0 ≤ m) (hmn : m ≤ n) :
    Calls Tryz.prog 35 #[.int .i64 (n : Int), .int .i64 m, .agg #[.slice al.A al.n al.c, .slice al.B al.m al.d]] w fun e w' => ∃ v : Nat, e = .returned (.tuple #[.int .i64 (v : Int), .int .i64 0]) ∧ IsGrt (fun (b : Nat) => decide (atL (mkRat (b : Int) 1000) n m ≤ ar)) 1000 v ∧ Below w.heap.size w w' := by
  have HCK := hide (r38check_ok (al := al) hi hn hm hmn ha.2)
  have HA := hide ha
  obtain ⟨G, hG⟩ : ∃ G : Nat → Bool, G = fun (b : Nat) => decide (atL (mkRat (b : Int) 1000) n m ≤ ar) := ⟨_, rfl⟩
  rw [← hG]
  have HG := hide (show ∀ W, Fo W al (some ar) → ∀ b : Nat, b ≤ 1000 → Calls Tryz.prog 67 #[.int .i64 (n : Int), .int .i64 m, .int .i64 (b : Int), .agg #[.slice al.A al.n al.c, .slice al.B al.m al.d]] W fun e w' => e = .returned (.bool (G b)) ∧ Below W.heap.size W w' from fun W hW b hb => by rw [hG]; exact r38high_any W b hb al ar n m hW hn (by omega))
  clear ha hi hG hm hmn
  go_enter Tryz.func35, Tryz.ntmps35
  go_upto_region 1 with (fail)
  generalize hW : World.alloc w _ = v
  have HV := hide (show Below w.heap.size w v by rw [← hW]; exact (Below.refl _ _).alloc (Nat.le_refl _) _)
  have HL := hide (show Bf v w.heap.size al ar by rw [← hW]; exact ⟨Bq.mk0 _ al rfl, HA.out.alloc _⟩)
  have q0 := HL.out.b.c0
  have q1 := HL.out.b.c1
  have HQL := hide (show Fq v al (numL (some ar)) (denL (some ar)) from HL.out.o.1)
  clear hW
  go_wp2_with (go_at_call 62; (with_reducible refine (HCK.out _ HQL.out).mono ?_); rintro e w1 ⟨rfl, hb⟩; have HV1 := hide (HV.out.trans (hb.mono HV.out.size)); have HL1 := hide (HL.out.below hb); clear hb)
  go_loopw [9, 10] (fun iv jv wr => ∃ i j : Nat, iv = .int .i64 (i : Int) ∧ jv = .int .i64 (j : Int) ∧ i ≤ j ∧ j ≤ 1000 ∧ Hid (i = 0 ∨ G i = true) ∧ Hid (j = 1000 ∨ G (j + 1) = false) ∧ Hid (Below w1.heap.size w1 wr)) (fun iv jv _ => ((intOf jv).toNat - (intOf iv).toNat))
  case atStart => exact ⟨0, 1000, rfl, rfl, by omega, by omega, hide (.inl rfl), hide (.inl rfl), hide (Below.refl _ _)⟩
  case round =>
    obtain ⟨i, j, rfl, rfl, hij, hj, HI, HJ, HB⟩ := hrel
    have HLr := hide (HL1.out.below HB.out)
    have HBw := hide (HV1.out.trans (HB.out.mono HV1.out.size))
    by_cases he : i = j
    · subst he
      have hlt : decide ((i : Int) < (i : Int)) = false := decide_eq_false (by omega)
      go_wp2_with fail
      refine bodyPost_ret (v := .tuple #[.int .i64 (i : Int), .int .i64 0]) (by simp [results, Tryz.results35, go_sem, *]) rfl ⟨i, rfl, ⟨hj, HI.out, HJ.out⟩, HBw.out⟩
    · have hlt : decide ((i : Int) < (j : Int)) = true := decide_eq_true (by omega)
      have hlt2 : (i : Int) < (j : Int) := by omega
      obtain ⟨h, hh⟩ : ∃ h : Nat, h + 1 = (i + j + 1) / 2 := ⟨(i + j + 1) / 2 - 1, by omega⟩
      have hh1 : i ≤ h := by omega
      have hh2 : h < j := by omega
      have hh3 : ((i : Int) + (j : Int) + 1) / 2 = ((h + 1 : Nat) : Int) := by omega
      have hh4 : ((i : Int) + (j : Int) + 1).tdiv 2 = ((h + 1 : Nat) : Int) := by rw [Int.tdiv_eq_ediv_of_nonneg (by omega)]; exact hh3
      have hi1000 : i ≤ 1000 := by omega
      have q0 := HLr.out.b.c0
      have q1 := HLr.out.b.c1
      obtain ⟨h', hh'⟩ : ∃ h', h' = h + 1 := ⟨_, rfl⟩
      rw [← hh'] at hh3 hh4
      have hh5 : h' ≤ 1000 := by omega
      have hh6 : i < h' := by omega
      have hh7 : h' ≤ j := by omega
      have HHH := hide hh'
      clear hh hh'
      go_upto_region 7 with (fail)
      clear hh3 hh4
      have HC := hide (HG.out wr HLr.out.o h' (by omega))
      cases hg : G h'
      · rw [hg] at HC
        have HGH := hide hg
        clear hg
        go_wp2_with (go_at_call 67; (with_reducible refine HC.out.mono ?_); rintro e w2 ⟨rfl, hb⟩; have HB2 := hide (HB.out.trans (hb.mono HB.out.size)); clear hb)
        go_roundw
        case rel => exact ⟨i, h, rfl, by rw [HHH.out]; go_num, by omega, by omega, HI, hide (.inr (by rw [← HHH.out]; exact HGH.out)), HB2⟩
        case measure => have := HHH.out; simp [intOf] <;> omega
      · rw [hg] at HC
        have HGH := hide hg
        clear hg
        go_wp2_with (go_at_call 67; (with_reducible refine HC.out.mono ?_); rintro e w2 ⟨rfl, hb⟩; have HB2 := hide (HB.out.trans (hb.mono HB.out.size)); clear hb)
        go_roundw
        case rel => exact ⟨h', j, rfl, rfl, by omega, hj, hide (.inr HGH.out), HJ, HB2⟩
        case measure => simp [intOf] <;> omega
end Go.Proofs.YtnokfhkcfebimaaGreat

/- The walk of the law ReportBounds. -/
namespace Go.Proofs.YtnokfhkcfebimaaGreat
open Go.RowKit

theorem lst_ex (g : Nat → Bool) : ∀ N, ∃ v, IsLst g N v
  | 0 => ⟨0, Nat.le_refl _, fun h hh => by omega, fun h => by omega⟩
  | N + 1 => by
    obtain ⟨v, h1, h2, h3⟩ := lst_ex g N
    by_cases hv : v < N
    · exact ⟨v, by omega, h2, fun _ => h3 hv⟩
    · obtain rfl : v = N := by omega
      cases hg : g v with
      | true => exact ⟨v, by omega, h2, fun _ => hg⟩
      | false => exact ⟨v + 1, by omega, fun h hh => by
          by_cases he : h = v
          · rw [he]; exact hg
          · exact h2 h (by omega), fun h => by omega⟩
theorem grt_ex (g : Nat → Bool) (N : Nat) : ∃ v, IsGrt g N v := by
  obtain ⟨v, h1, h2, h3⟩ := lst_ex (fun i => !g (i + 1)) N
  refine ⟨v, h1, ?_, ?_⟩
  · by_cases hv : v = 0
    · exact .inl hv
    · have := h2 (v - 1) (by omega)
      dsimp only at this
      rw [show v - 1 + 1 = v by omega] at this
      exact .inr (by simpa using this)
  · by_cases hv : v = N
    · exact .inl hv
    · have := h3 (by omega)
      exact .inr (by simpa using this)
/-- Program and reference say the same. -/
theorem bounds_both (q : Fa) (lq kq : List Nat) (n m : Int) : ∃ (V U E : Int), (∀ W, Fq W q lq kq → Calls Tryz.prog 32 #[.int .i64 n, .int .i64 m, .agg #[.slice q.A q.n q.c, .slice q.B q.m q.d]] W fun e w' => e = .returned (.tuple #[.int .i64 V, .int .i64 E]) ∧ Below W.heap.size W w') ∧ (∀ W, Fq W q lq kq → Calls Tryz.prog 33 #[.int .i64 n, .int .i64 m, .agg #[.slice q.A q.n q.c, .slice q.B q.m q.d]] W fun e w' => e = .returned (.tuple #[.int .i64 V, .int .i64 E]) ∧ Below W.heap.size W w') ∧ (∀ W, Fq W q lq kq → Calls Tryz.prog 34 #[.int .i64 n, .int .i64 m, .agg #[.slice q.A q.n q.c, .slice q.B q.m q.d]] W fun e w' => e = .returned (.tuple #[.int .i64 U, .int .i64 E]) ∧ Below W.heap.size W w') ∧ (∀ W, Fq W q lq kq → Calls Tryz.prog 35 #[.int .i64 n, .int .i64 m, .agg #[.slice q.A q.n q.c, .slice q.B q.m q.d]] W fun e w' => e = .returned (.tuple #[.int .i64 U, .int .i64 E]) ∧ Below W.heap.size W w') := by
  by_cases hE : repE (fracOf lq kq) n m = 0
  · obtain ⟨r, hr, hi, h0, h32, hm0, hmn⟩ := repE_ok hE
    obtain ⟨n', rfl⟩ : ∃ n' : Nat, n = (n' : Int) := ⟨n.toNat, by omega⟩
    obtain ⟨v, hv⟩ := lst_ex (fun (b : Nat) => decide (atM (mkRat (b : Int) 1000) n' m ≤ r)) 1000
    obtain ⟨u, hu⟩ := grt_ex (fun (b : Nat) => decide (atL (mkRat (b : Int) 1000) n' m ≤ r)) 1000
    refine ⟨(v : Int), (u : Int), 0, fun W hW => ?_, fun W hW => ?_, fun W hW => ?_, fun W hW => ?_⟩
    · exact (upper_ok W n' m q r (fo_of hW hr) hi (by omega) hm0 hmn).mono fun e w' ⟨v', h1, h2, h3⟩ => ⟨by rw [h1, hv.uniq h2], h3⟩
    · exact (r38up_ok W n' m q r (fo_of hW hr) hi (by omega) hm0 hmn).mono fun e w' ⟨v', h1, h2, h3⟩ => ⟨by rw [h1, hv.uniq h2], h3⟩
    · exact (loper_ok W n' m q r (fo_of hW hr) hi (by omega) hm0 hmn).mono fun e w' ⟨v', h1, h2, h3⟩ => ⟨by rw [h1, grt_uniq hu h2], h3⟩
    · exact (r38lo_ok W n' m q r (fo_of hW hr) hi (by omega) hm0 hmn).mono fun e w' ⟨v', h1, h2, h3⟩ => ⟨by rw [h1, grt_uniq hu h2], h3⟩
  · exact ⟨0, 0, repE (fracOf lq kq) n m, fun W hW => upper_bad W n m q lq kq hW hE, fun W hW => r38up_bad W n m q lq kq hW hE, fun W hW => loper_bad W n m q lq kq hW hE, fun W hW => r38lo_bad W n m q lq kq hW hE⟩
set_option maxRecDepth 100000 in
set_option maxHeartbeats 16000000 in
theorem pbounds_walk (w : World) (A : Option Addr) (n c : Nat) (l : List Int) (p : Fa) (lp kp : List Nat) (X Y : Int) (hA : Rs w none 1 iv A l) (hl : l.length = n) (hF : CameF w p lp kp) :
    Calls Tryz.prog 7 #[.slice A n c, .agg #[.slice p.A p.n p.c, .slice p.B p.m p.d], .int .i64 X, .int .i64 Y] w fun e w' => e = .returned (.bool true) ∧ Below w.heap.size w w' := by
  by_cases hbig : 100 < wrap64 ((p.n : Int) + (p.m : Int))
  · have d1 : decide ((100 : Int) < wrap64 ((p.n : Int) + (p.m : Int))) = true := decide_eq_true hbig
    clear hF hA
    go_enter Tryz.func7, Tryz.ntmps7
    go_wp2_with (go_at_call 30; (with_reducible refine (pknown_any _).mono ?_); rintro e w9 ⟨rfl, hb⟩; have HB9 := hide (((Below.refl _ _).alloc (Nat.le_refl _) _ : Below w.heap.size w _).trans (hb.mono (by simp))); clear hb)
    go_ret
    exact ⟨rfl, HB9.out⟩
  · have d1 : decide ((100 : Int) < wrap64 ((p.n : Int) + (p.m : Int))) = false := decide_eq_false hbig
    have HQ0 := hide (show Fq w p lp kp from ⟨hF.u, hF.v, hF.c, hF.d, hF.n, hF.m⟩)
    obtain ⟨x1, hx1, hF1⟩ := fold_nat X 10 (by omega) (by omega)
    obtain ⟨y1, hy1, hF2⟩ := fold_nat Y ((x1 : Int) + 1) (by omega) (by omega)
    have HFX := hide hF1
    have HFY := hide hF2
    have hx9 : x1 ≤ 9 := by omega
    clear hF1 hF2 hx1 hy1
    go_enter Tryz.func7, Tryz.ntmps7
    go_upto_region 3 with (fail)
    generalize hW : World.alloc w _ = v
    have HBV := hide (show Below w.heap.size w v by rw [← hW]; exact (Below.refl _ _).alloc (Nat.le_refl _) _)
    have HBX := hide (show Bq v w.heap.size p by rw [← hW]; exact Bq.mk0 _ p rfl)
    have hvz : w.heap.size < v.heap.size := HBX.out.sz
    have HAV := hide (hA.below HBV.out)
    have HL := hide hl
    have HP1 := hide (HQ0.out.below HBV.out)
    have k0 := And.intro HBX.out.c0 HBX.out.c1
    clear hW hA hl hF hbig
    go_upto_region 4 with (fail)
    go_region_held3 (fun W => (W.cell? ⟨w.heap.size, 0, none⟩ = some (.slice p.A p.n p.c) ∧ W.cell? ⟨w.heap.size, 1, none⟩ = some (.slice p.B p.m p.d))) (first | with_reducible exact k0 | with_reducible exact k1 | (constructor <;> go_keep)) (first
      | (go_at_call 31; refine (level_any _ v.heap.size A n c l 0 (by first | exact tp_new HAV.out HL.out _ | exact tp_drew (tp_new HAV.out HL.out _)) (by omega)).mono ?_; rintro e w2 ⟨f, ar, rfl, ho, hi, hf⟩; have HB1 := hide (by first | exact fr_new rfl hf | exact fr_newd rfl hf : Below v.heap.size v w2); have HO2 := hide ho; have HP2 := hide (HP1.out.below HB1.out); have HBX2 := hide (HBX.out.below HB1.out); have k1 := And.intro HBX2.out.c0 HBX2.out.c1; have hwz2 := HBX2.out.sz; clear ho hi hf))
    generalize hW : World.alloc w2 _ = v2
    have HFW := hide (show FRow v2 w2.heap.size [(p, lp, kp), (f, lm (rn ar), lm ar.den)] by rw [← hW]; exact frow_two HP2.out HO2.out.1 26)
    have HB2 := hide (show Below w.heap.size w v2 by rw [← hW]; exact (HBV.out.trans (HB1.out.mono HBV.out.size)).alloc (Nat.le_trans HBV.out.size HB1.out.size) _)
    obtain ⟨b2, hb2⟩ : ∃ b, b = w2.heap.size := ⟨_, rfl⟩
    rw [← hb2] at HFW ⊢
    clear hW hb2 k0 k1 HP2 HBX2 HP1
    go_wp2_with fail
    go_loopw [39] (fun iv wr => ∃ j : Nat, iv = .int .i64 (j : Int) ∧ j ≤ 2 ∧ Hid (Below v2.heap.size v2 wr)) (fun iv _ => 2 - (intOf iv).toNat)
    case atStart => exact ⟨0, rfl, by omega, hide (Below.refl _ _)⟩
    case round =>
      obtain ⟨j, rfl, hj, HBr⟩ := hrel
      obtain ⟨wo, hwo⟩ : ∃ wo, wo = wr := ⟨wr, rfl⟩
      subst hwo
      by_cases hj2 : j = 2
      · subst hj2
        go_wp2_with (go_at_call 30; (with_reducible refine (pknown_any _).mono ?_); rintro e w9 ⟨rfl, hb⟩; have HB9 := hide (HBr.out.trans (hb.mono HBr.out.size)); clear hb)
        go_ret
        exact ⟨rfl, HB2.out.trans (HB9.out.mono HB2.out.size)⟩
      · have hj0 : (0 : Int) ≤ (j : Int) := by omega
        have hjlt : (j : Int) < 2 := by omega
        obtain ⟨⟨q, lq, kq⟩, hx⟩ : ∃ x, [(p, lp, kp), (f, lm (rn ar), lm ar.den)][j]? = some x := ⟨_, List.getElem?_eq_getElem (by simp; omega)⟩
        obtain ⟨q0, q1, hq⟩ := (HFW.out.below HBr.out).2 j _ hx
        have HQr := hide hq
        have hbz := (HFW.out.below HBr.out).1
        clear hx hq
        dsimp only at q0 q1
        go_upto_region 7 with (fail)
        generalize hW : World.alloc wo _ = v8
        have HB8 := hide (show Bq v8 wo.heap.size q by rw [← hW]; exact Bq.mk0 _ q rfl)
        have HQ8 := hide (show Fq v8 q lq kq by rw [← hW]; exact HQr.out.alloc _)
        have HV8 := hide (show Below v2.heap.size v2 v8 by rw [← hW]; exact HBr.out.alloc HBr.out.size _)
        obtain ⟨b8, hb8⟩ : ∃ b, b = wo.heap.size := ⟨_, rfl⟩
        rw [← hb8] at HB8 ⊢
        clear hW hb8 q0 q1 hbz
        go_wp2_with (first
          | (go_at_call 27; (with_reducible refine (HFY.out _).mono ?_); rintro e w' ⟨rfl, rfl⟩)
          | (go_at_call 27; (with_reducible refine (HFX.out _).mono ?_); rintro e w' ⟨rfl, rfl⟩))
        generalize hW : World.alloc v8 _ = v9
        have HC9 := hide (show Cb v9 v8.heap.size [.int .i64 X, .int .i64 Y, .int .i64 (x1 : Int), .int .i64 (y1 : Int)] by rw [← hW]; exact Cb.mk0 _ (by simp) _ rfl)
        have HB9 := hide (show Bq v9 b8 q by rw [← hW]; exact HB8.out.alloc _)
        have HQ9 := hide (show Fq v9 q lq kq by rw [← hW]; exact HQ8.out.alloc _)
        have HV9 := hide (show Below v2.heap.size v2 v9 by rw [← hW]; exact HV8.out.alloc HV8.out.size _)
        obtain ⟨b9, hb9⟩ : ∃ b, b = v8.heap.size := ⟨_, rfl⟩
        rw [← hb9] at HC9 ⊢
        clear hW hb9
        go_loopw [56] (fun iv wr => ∃ i : Nat, iv = .int .i64 (i : Int) ∧ i ≤ 2 ∧ Hid (Below v9.heap.size v9 wr)) (fun iv _ => 2 - (intOf iv).toNat)
        case atStart => exact ⟨0, rfl, by omega, hide (Below.refl _ _)⟩
        case round =>
          obtain ⟨i, rfl, hi, HBi⟩ := hrel
          by_cases hi2 : i = 2
          · subst hi2
            go_wp2_with fail
            go_roundw
            case rel => exact ⟨j + 1, by go_num, by omega, hide (HV9.out.trans (HBi.out.mono HV9.out.size))⟩
            case measure => simp [intOf] <;> omega
          · have hi0 : (0 : Int) ≤ (i : Int) := by omega
            have hilt : (i : Int) < 2 := by omega
            have HCi := hide (HC9.out.below HBi.out)
            have HBqi := hide (HB9.out.below HBi.out)
            have HQi := hide (HQ9.out.below HBi.out)
            obtain ⟨na, mb, hc0, hc1⟩ : ∃ na mb : Int, wr.cell? ⟨b9, i * 2, none⟩ = some (.int .i64 na) ∧ wr.cell? ⟨b9, i * 2 + 1, none⟩ = some (.int .i64 mb) := by
              obtain rfl | rfl : i = 0 ∨ i = 1 := by omega
              · exact ⟨X, Y, HCi.out.cell 0 _ rfl, HCi.out.cell 1 _ rfl⟩
              · exact ⟨(x1 : Int), (y1 : Int), HCi.out.cell 2 _ rfl, HCi.out.cell 3 _ rfl⟩
            have hcz := HCi.out.sz
            obtain ⟨V, U, E, h1, h2, h3, h4⟩ := bounds_both q lq kq na mb
            have HC1 := hide h1
            have HC2 := hide h2
            have HC3 := hide h3
            have HC4 := hide h4
            have z1 : (E != E) = false := by simp
            have z2 : (V != V) = false := by simp
            have z3 : (U != U) = false := by simp
            clear h1 h2 h3 h4
            go_upto_region 10 with (fail)
            generalize hW : World.alloc wr _ = v10
            have HN10 := hide (show Cb v10 wr.heap.size [.int .i64 na, .int .i64 mb] by rw [← hW]; exact Cb.mk0 _ (by simp) _ rfl)
            have HB10 := hide (show Bq v10 b8 q by rw [← hW]; exact HBqi.out.alloc _)
            have HQ10 := hide (show Fq v10 q lq kq by rw [← hW]; exact HQi.out.alloc _)
            have HV10 := hide (show Below v9.heap.size v9 v10 by rw [← hW]; exact HBi.out.alloc HBi.out.size _)
            obtain ⟨b10, hb10⟩ : ∃ b, b = wr.heap.size := ⟨_, rfl⟩
            rw [← hb10] at HN10 ⊢
            clear hW hb10 hc0 hc1 hcz
            have n0 := HN10.out.cell 0 _ rfl
            have n1 := HN10.out.cell 1 _ rfl
            have nz := HN10.out.sz
            have u0 := HB10.out.c0
            have u1 := HB10.out.c1
            go_wp2_with (first
              | (go_at_call 35; (with_reducible refine (HC4.out _ HQ13.out).mono ?_); rintro e w14 ⟨rfl, hb⟩; have HV14 := hide (HV13.out.trans (hb.mono HV13.out.size)); clear hb)
              | (go_at_call 34; (with_reducible refine (HC3.out _ HQ12.out).mono ?_); rintro e w13 ⟨rfl, hb⟩; have HV13 := hide (HV12.out.trans (hb.mono HV12.out.size)); have HQ13 := hide (HQ12.out.below hb); have HN13 := hide (HN12.out.below hb); have HB13 := hide (HB12.out.below hb); have c0 := HN13.out.cell 0 _ rfl; have c1 := HN13.out.cell 1 _ rfl; have cz := HN13.out.sz; have c2 := HB13.out.c0; have c3 := HB13.out.c1; clear hb)
              | (go_at_call 33; (with_reducible refine (HC2.out _ HQ11.out).mono ?_); rintro e w12 ⟨rfl, hb⟩; have HV12 := hide (HV11.out.trans (hb.mono HV11.out.size)); have HQ12 := hide (HQ11.out.below hb); have HN12 := hide (HN11.out.below hb); have HB12 := hide (HB11.out.below hb); have e0 := HN12.out.cell 0 _ rfl; have e1 := HN12.out.cell 1 _ rfl; have ez := HN12.out.sz; have e2 := HB12.out.c0; have e3 := HB12.out.c1; clear hb)
              | (go_at_call 32; (with_reducible refine (HC1.out _ HQ10.out).mono ?_); rintro e w11 ⟨rfl, hb⟩; have HV11 := hide (HV10.out.trans (hb.mono HV10.out.size)); have HQ11 := hide (HQ10.out.below hb); have HN11 := hide (HN10.out.below hb); have HB11 := hide (HB10.out.below hb); have d0 := HN11.out.cell 0 _ rfl; have d1 := HN11.out.cell 1 _ rfl; have dz := HN11.out.sz; have d2 := HB11.out.c0; have d3 := HB11.out.c1; clear hb))
            go_roundw
            case rel => exact ⟨i + 1, by go_num, by omega, HV14⟩
            case measure => simp [intOf] <;> omega
end Go.Proofs.YtnokfhkcfebimaaGreat
