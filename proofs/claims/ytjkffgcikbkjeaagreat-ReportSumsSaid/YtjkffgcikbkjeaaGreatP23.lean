/- Contracts of the functions that these laws reach: part 23: Contract: the reference's Exactly; Contracts: the reference's between, AtLeast, AtMost; Contracts: the reference's AtLeast, AtMost; Plain laws: the reference's sums count what the program's count; Plain laws of the bounds of a rate; The walk of the law NoiseTails. -/
import Derived.Test.YtjkffgcikbkjeaaGreatP17
import Derived.Test.YtjkffgcikbkjeaaGreatP22
import Derived.Test.YtjkffgcikbkjeaaGreatP11
import Derived.Test.YtjkffgcikbkjeaaGreatP18
set_option linter.unusedVariables false
set_option linter.unusedSimpArgs false

/- Contract: the reference's Exactly. -/
namespace Go.Proofs.YtjkffgcikbkjeaaGreat
open Go.RowKit

theorem sm_one (r : Rat) (n k : Nat) : ∀ m, sm r n (fun j => decide ((j : Int) = (k : Int))) m = if k < m then tm r n k else 0
  | 0 => by rw [if_neg (by omega)]; rfl
  | m + 1 => by
    show sm r n _ m + (if decide ((m : Int) = (k : Int)) = true then tm r n m else 0) = _
    rw [sm_one r n k m]
    have add0 : ∀ x : Rat, x + 0 = x := fun x => by grind
    have zadd : ∀ x : Rat, 0 + x = x := fun x => by grind
    by_cases h : k < m
    · have e : decide ((m : Int) = (k : Int)) = false := decide_eq_false (by omega)
      rw [e, if_pos h, if_pos (show k < m + 1 by omega), if_neg (by simp), add0]
    · by_cases h2 : k = m
      · subst h2
        have e : decide ((k : Int) = (k : Int)) = true := decide_eq_true rfl
        rw [e, if_neg h, if_pos (show k < k + 1 by omega), if_pos rfl, zadd]
      · have e : decide ((m : Int) = (k : Int)) = false := decide_eq_false (by omega)
        rw [e, if_neg h, if_neg (show ¬ k < m + 1 by omega), if_neg (by simp), add0]
theorem sm_none (r : Rat) (n : Nat) (m : Int) (hm : m < 0) : ∀ j, sm r n (fun j => decide ((j : Int) = m)) j = 0
  | 0 => rfl
  | j + 1 => by
    show sm r n _ j + (if decide ((j : Int) = m) = true then tm r n j else 0) = _
    rw [sm_none r n m hm j, if_neg (by simp; omega)]
    grind
theorem tot_out (r : Rat) (n : Nat) (m : Int) (h : m < 0 ∨ (n : Int) < m) : tot r n (fun j => decide ((j : Int) = m)) = 0 := by
  by_cases h0 : m < 0
  · exact sm_none r n m h0 _
  · obtain ⟨k, rfl⟩ : ∃ k : Nat, m = k := ⟨m.toNat, by omega⟩
    unfold tot
    rw [sm_one, if_neg (show ¬ k < n + 1 by omega)]
theorem tot_one (r : Rat) (n k : Nat) (h : k ≤ n) : tot r n (fun j => decide ((j : Int) = (k : Int))) = tm r n k := by
  unfold tot
  rw [sm_one, if_pos (show k < n + 1 by omega)]
theorem r2pow_ok (w : World) (a : Fa) (r : Rat) (k : Nat) (ha : Fo w a (some r)) (hk : k ≤ 65536) (hf : fitsR (r ^ k) = true) : Calls Tryz.prog 118 #[.agg #[.slice a.A a.n a.c, .slice a.B a.m a.d], .int .i64 (k : Int)] w fun e w' => RetV w (r ^ k) e w' :=
  (r2pow_o w a (some r) k ha (by omega) (by omega)).mono fun e w' h => Ret.ok (by
    show (if (k : Int) < 0 ∨ 65536 < (k : Int) then (none, 3) else limR (r ^ ((k : Int)).toNat)) = _
    rw [if_neg (by omega), Int.toNat_natCast, limR_fit hf]) h
theorem r2mul_ok (w : World) (a b : Fa) (r s : Rat) (ha : Fo w a (some r)) (hb : Fo w b (some s)) (hf : fitsR (r * s) = true) : Calls Tryz.prog 120 #[.agg #[.slice a.A a.n a.c, .slice a.B a.m a.d], .agg #[.slice b.A b.n b.c, .slice b.B b.m b.d]] w fun e w' => RetV w (r * s) e w' :=
  (r2mul_o w a b (some r) (some s) ha hb).mono fun e w' h => Ret.ok (by show limR (r * s) = _; rw [limR_fit hf]) h
theorem r2add_ok (w : World) (a b : Fa) (r s : Rat) (ha : Fo w a (some r)) (hb : Fo w b (some s)) (hf : fitsR (r + s) = true) : Calls Tryz.prog 102 #[.agg #[.slice a.A a.n a.c, .slice a.B a.m a.d], .agg #[.slice b.A b.n b.c, .slice b.B b.m b.d]] w fun e w' => RetV w (r + s) e w' :=
  (r2add_o w a b (some r) (some s) ha hb).mono fun e w' h => Ret.ok (by show limR (r + s) = _; rw [limR_fit hf]) h
theorem r1of_one (w : World) : Calls Tryz.prog 100 #[.int .u64 1] w fun e w' => ∃ A m c, e = .returned (.slice A m c) ∧ m ≤ c ∧ m ≤ 2 ∧ Ul w' none A m (lm 1) ∧ Below w.heap.size w w' := r1of_any w 1 (by omega)
set_option maxRecDepth 100000 in
set_option maxHeartbeats 8000000 in
theorem rzexactly_any (w : World) (a : Fa) (l k : List Nat) (n m : Int) (hq : Fq w a l k) :
    Calls Tryz.prog 101 #[.agg #[.slice a.A a.n a.c, .slice a.B a.m a.d], .int .i64 n, .int .i64 m] w fun e w' => Ret w (totR (fracOf l k) n (fun j => decide ((j : Int) = m))) e w' := by
  by_cases hch : chO (fracOf l k) = true
  · by_cases hn : n < 0 ∨ 32 < n
    · have HX := hide (show totR (fracOf l k) n (fun j => decide ((j : Int) = m)) = (none, 3) by unfold totR; rw [if_pos hch, if_pos hn])
      have HCH := hide hch
      have HCE := hide (show chooseE n = 3 from if_pos hn)
      clear hch hn
      go_enter Tryz.func101, Tryz.ntmps101
      go_upto_region 1 with (fail)
      generalize hW : World.alloc (World.alloc w _) _ = v
      have HF := hide (show F1 w v a (l) (k) by rw [← hW]; exact F1.mk0 hq _ _)
      obtain ⟨a0, a1, az, r0, r1, rf⟩ := HF.out.ca
      clear hW hq
      go_wp2_with (first | (go_at_call 81; (with_reducible refine (rzchance_any _ a l k HF.out.q).mono ?_); rintro e w1 ⟨rfl, hb⟩; rw [HCH.out]; have HF1 := hide (HF.out.below hb); obtain ⟨e0, e1, ez, s0, s1, sf⟩ := HF1.out.ca; clear hb) | (go_at_call 117; (with_reducible refine (rchoose_any _ _ m).mono ?_); rintro e w2 ⟨A2, m2, c2, rfl, hc2, hm2, hu2, hb⟩; rw [HCE.out]; have HU2 := hide hu2; have HF2 := hide (HF1.out.below hb); obtain ⟨g0, g1, gz, t0, t1, tf⟩ := HF2.out.ca; clear hu2 hb))
      refine bodyPost_ret (v := .tuple #[.agg #[.slice none 0 0, .slice none 0 0], .int .i64 3]) (by simp [results, Tryz.results101, go_sem, *]) rfl (HF2.out.err HX.out)
    · have HCE := hide (show chooseE n = 0 from if_neg hn)
      obtain ⟨N, rfl⟩ : ∃ N : Nat, n = N := ⟨n.toNat, by omega⟩
      have HN := hide (show N ≤ 32 by omega)
      rcases hA : fracOf l k with _ | r
      · rw [hA] at hch; exact absurd hch (by simp [chO])
      have hA2 := fracOf_some hA
      have hc : Chn r := chO_chn rfl hA2.2.2.1 (by rw [← hA]; exact hch)
      have HCH := hide hch
      by_cases ho : m < 0 ∨ (N : Int) < m
      · have HX := hide (show totR (some r) (N : Int) (fun j => decide ((j : Int) = m)) = (some 0, 0) by
          rw [totR_ok hc HN.out, tot_out r N m ho])
        clear hA2 hn hch
        by_cases hm : m < 0
        · skip
          go_enter Tryz.func101, Tryz.ntmps101
          go_upto_region 1 with (fail)
          generalize hW : World.alloc (World.alloc w _) _ = v
          have HF := hide (show F1 w v a (l) (k) by rw [← hW]; exact F1.mk0 hq _ _)
          obtain ⟨a0, a1, az, r0, r1, rf⟩ := HF.out.ca
          clear hW hq
          go_wp2_with (first | (go_at_call 81; (with_reducible refine (rzchance_any _ a l k HF.out.q).mono ?_); rintro e w1 ⟨rfl, hb⟩; rw [HCH.out]; have HF1 := hide (HF.out.below hb); obtain ⟨e0, e1, ez, s0, s1, sf⟩ := HF1.out.ca; clear hb) | (go_at_call 117; (with_reducible refine (rchoose_any _ _ m).mono ?_); rintro e w2 ⟨A2, m2, c2, rfl, hc2, hm2, hu2, hb⟩; rw [HCE.out]; have HU2 := hide hu2; have HF2 := hide (HF1.out.below hb); obtain ⟨g0, g1, gz, t0, t1, tf⟩ := HF2.out.ca; clear hu2 hb) | go_at_call 60; (with_reducible refine (rzof_zero _).mono ?_); rintro e w3 ⟨q, rfl, ho, hb⟩; have HO := hide ho; have HF3 := hide (HF2.out.below hb); obtain ⟨i0, i1, iz, v0, v1, vf⟩ := HF3.out.ca; clear ho hb)
          refine bodyPost_ret (v := .tuple #[.agg #[.slice q.A q.n q.c, .slice q.B q.m q.d], .int .i64 0]) (by simp [results, Tryz.results101, go_sem, *]) rfl (HF3.out.end (by rw [HX.out]) (by rw [HX.out]; exact HO.out))
        · have hm2 : decide ((N : Int) < m) = true := decide_eq_true (by omega)
          go_enter Tryz.func101, Tryz.ntmps101
          go_upto_region 1 with (fail)
          generalize hW : World.alloc (World.alloc w _) _ = v
          have HF := hide (show F1 w v a (l) (k) by rw [← hW]; exact F1.mk0 hq _ _)
          obtain ⟨a0, a1, az, r0, r1, rf⟩ := HF.out.ca
          clear hW hq
          go_wp2_with (first | (go_at_call 81; (with_reducible refine (rzchance_any _ a l k HF.out.q).mono ?_); rintro e w1 ⟨rfl, hb⟩; rw [HCH.out]; have HF1 := hide (HF.out.below hb); obtain ⟨e0, e1, ez, s0, s1, sf⟩ := HF1.out.ca; clear hb) | (go_at_call 117; (with_reducible refine (rchoose_any _ _ m).mono ?_); rintro e w2 ⟨A2, m2, c2, rfl, hc2, hm2, hu2, hb⟩; rw [HCE.out]; have HU2 := hide hu2; have HF2 := hide (HF1.out.below hb); obtain ⟨g0, g1, gz, t0, t1, tf⟩ := HF2.out.ca; clear hu2 hb) | go_at_call 60; (with_reducible refine (rzof_zero _).mono ?_); rintro e w3 ⟨q, rfl, ho, hb⟩; have HO := hide ho; have HF3 := hide (HF2.out.below hb); obtain ⟨i0, i1, iz, v0, v1, vf⟩ := HF3.out.ca; clear ho hb)
          refine bodyPost_ret (v := .tuple #[.agg #[.slice q.A q.n q.c, .slice q.B q.m q.d], .int .i64 0]) (by simp [results, Tryz.results101, go_sem, *]) rfl (HF3.out.end (by rw [HX.out]) (by rw [HX.out]; exact HO.out))
      · obtain ⟨K, rfl⟩ : ∃ K : Nat, m = K := ⟨m.toNat, by omega⟩
        have hKN : K ≤ N := by omega
        obtain ⟨D, hD⟩ : ∃ D, D = N - K := ⟨_, rfl⟩
        have hND : (N : Int) - (K : Int) = (D : Int) := by omega
        have hm1 : ¬ (N : Int) < (K : Int) := by omega
        have HX := hide (show totR (some r) (N : Int) (fun j => decide ((j : Int) = (K : Int))) = (some (tm r N K), 0) by
          rw [totR_ok hc HN.out, tot_one r N K hKN])
        have HTM := hide (show (ch N K : Rat) * r ^ K * (1 - r) ^ D = tm r N K by rw [hD]; rfl)
        have HFA := hide (show Fo w a (some r) from ⟨by have h := hq; rw [hA2.1, hA2.2.1] at h; exact h, hA2.2.2⟩)
        have HCL := hide (show chooseL (N : Int) (K : Int) = lm (ch N K) by
          unfold chooseL
          rw [if_neg hn, if_neg (by omega)]
          rfl)
        have HC64 := hide (show ch N K < 18446744073709551616 by
          have h1 := ch_le N K
          have h2 : 2 ^ N ≤ 2 ^ 32 := Nat.pow_le_pow_right (by omega) HN.out
          omega)
        have hK65 : K ≤ 65536 := by have := HN.out; omega
        have hD65 : D ≤ 65536 := by have := HN.out; omega
        have hK32 : K ≤ 32 := by have := HN.out; omega
        have hD32 : D ≤ 32 := by have := HN.out; omega
        have f1 := hc.fp hK32
        have f2 := hc.fp' hD32
        have f3 := hc.fcp HN.out hK32
        have f4 := hc.ftm HN.out hKN
        clear hD hn hch ho hA2
        go_enter Tryz.func101, Tryz.ntmps101
        go_upto_region 1 with (fail)
        generalize hW : World.alloc (World.alloc w _) _ = v
        have HF := hide (show F1 w v a (l) (k) by rw [← hW]; exact F1.mk0 hq _ _)
        obtain ⟨a0, a1, az, r0, r1, rf⟩ := HF.out.ca
        clear hW hq
        go_upto_region 9 with (first | (go_at_call 81; (with_reducible refine (rzchance_any _ a l k HF.out.q).mono ?_); rintro e w1 ⟨rfl, hb⟩; rw [HCH.out]; have HF1 := hide (HF.out.below hb); obtain ⟨e0, e1, ez, s0, s1, sf⟩ := HF1.out.ca; clear hb) | go_at_call 117; (with_reducible refine (rchoose_any _ (N : Int) (K : Int)).mono ?_); rintro e w2 ⟨A2, m2, c2, rfl, hc2, hm2, hu2, hb⟩; rw [HCE.out]; rw [HCL.out] at hu2; have HU2 := hide hu2; have HF2 := hide (HF1.out.below hb); obtain ⟨g0, g1, gz, t0, t1, tf⟩ := HF2.out.ca; clear hu2 hb | go_at_call 100; (with_reducible refine (r1of_one _).mono ?_); rintro e w3 ⟨A3, m3, c3, rfl, hc3, hm3, hu3, hb⟩; have HU3 := hide hu3; have HU2b := hide (HU2.out.below hb); have HF3 := hide (HF2.out.below hb); obtain ⟨i0, i1, iz, v0, v1, vf⟩ := HF3.out.ca; clear hu3 hb | go_at_call 103; (with_reducible refine (r2make_nat _ A2 m2 c2 A3 m3 c3 (ch N K) 1 HU2b.out HU3.out (by omega) (by omega) (by omega)).mono ?_); rintro e w4 ⟨q, rfl, ho, hb⟩; have HO4 := hide ho; have HF4 := hide (HF3.out.below hb); clear ho hb)
        generalize hW : World.alloc w4 _ = v5
        have hz4 := HF4.out.sz
        have HX5 := hide (show Fx v5 w4.heap.size q (some (ch N K : Rat)) by rw [← hW, ← mk_one]; exact Fx.mk0 HO4.out _ rfl)
        have HF5 := hide (show F1 w v5 a l k by rw [← hW]; exact HF4.out.below ((Below.refl _ _).alloc (Nat.le_refl _) _))
        have HA5 := hide (HFA.out.below HF5.out.bw)
        have hz5 := HX5.out.b.sz
        obtain ⟨j0, j1, jz, -⟩ := HF5.out.ca
        clear hW
        go_upto_region 10 with (go_at_call 118; (with_reducible refine (r2pow_ok _ a r K HA5.out hK65 f1).mono ?_); rintro e w6 ⟨x, rfl, ho, hb⟩; have HO6 := hide ho; have HF6 := hide (HF5.out.below hb); have HX6 := hide (HX5.out.below hb); clear ho hb)
        generalize hW : World.alloc w6 _ = v7
        have hz6 := HX6.out.b.sz
        have HX7 := hide (show Fx v7 w4.heap.size q (some (ch N K : Rat)) by rw [← hW]; exact HX6.out.alloc _)
        have HY7 := hide (show Fx v7 w6.heap.size x (some (r ^ K)) by rw [← hW]; exact Fx.mk0 HO6.out _ rfl)
        have HF7 := hide (show F1 w v7 a l k by rw [← hW]; exact HF6.out.below ((Below.refl _ _).alloc (Nat.le_refl _) _))
        have HA7 := hide (HFA.out.below HF7.out.bw)
        obtain ⟨k0, k1, kz, -⟩ := HF7.out.ca
        clear hW
        go_upto_region 11 with (first
          | (go_at_call 119; (with_reducible refine (rzrest_any _ a r HA7.out hc.h1 hc.fq).mono ?_); rintro e w8 ⟨y, rfl, ho, hb⟩; have HO8 := hide ho; have HF8 := hide (HF7.out.below hb); have HX8 := hide (HX7.out.below hb); have HY8 := hide (HY7.out.below hb); clear ho hb)
          | (go_at_call 118; (with_reducible refine (r2pow_ok _ y (1 - r) D HO8.out hD65 f2).mono ?_); rintro e w9 ⟨z, rfl, ho, hb⟩; have HO9 := hide ho; have HF9 := hide (HF8.out.below hb); have HX9 := hide (HX8.out.below hb); have HY9 := hide (HY8.out.below hb); clear ho hb))
        generalize hW : World.alloc w9 _ = v10
        have hz9 := HX9.out.b.sz
        have hz9y := HY9.out.b.sz
        have HX10 := hide (show Fx v10 w4.heap.size q (some (ch N K : Rat)) by rw [← hW]; exact HX9.out.alloc _)
        have HY10 := hide (show Fx v10 w6.heap.size x (some (r ^ K)) by rw [← hW]; exact HY9.out.alloc _)
        have HZ10 := hide (show Fx v10 w9.heap.size z (some ((1 - r) ^ D)) by rw [← hW]; exact Fx.mk0 HO9.out _ rfl)
        have HF10 := hide (show F1 w v10 a l k by rw [← hW]; exact HF9.out.below ((Below.refl _ _).alloc (Nat.le_refl _) _))
        obtain ⟨p0, p1, pf, pz, -⟩ := HX10.out.b
        obtain ⟨b0, b1, bf, bz, -⟩ := HY10.out.b
        clear hW
        go_upto_region 12 with (go_at_call 120; (with_reducible refine (r2mul_ok _ q x _ _ HX10.out.o HY10.out.o f3).mono ?_); rintro e w11 ⟨c11, rfl, ho, hb⟩; have HO11 := hide ho; have HF11 := hide (HF10.out.below hb); have HX11 := hide (HX10.out.below hb); have HZ11 := hide (HZ10.out.below hb); obtain ⟨d0, d1, df, dz, -⟩ := HX11.out.b; clear ho hb)
        generalize hW : World.setCell (World.setCell w11 _ _) _ _ = v12
        have HX12 := hide (show Fx v12 w4.heap.size c11 (some ((ch N K : Rat) * r ^ K)) by rw [← hW]; exact HX11.out.put HO11.out)
        have HZ12 := hide (show Fx v12 w9.heap.size z (some ((1 - r) ^ D)) by rw [← hW]; exact HZ11.out.one (fr_fill _ _) HX11.out.b.nb (by omega))
        have HF12 := hide (show F1 w v12 a l k by rw [← hW]; exact HF11.out.one (fr_fill _ _) HX11.out.b.nb (by omega))
        obtain ⟨h0, h1, hf, hz, -⟩ := HX12.out.b
        obtain ⟨o0, o1, of, oz, -⟩ := HZ12.out.b
        clear hW
        go_upto_region 13 with (go_at_call 120; (with_reducible refine (r2mul_ok _ c11 z _ _ HX12.out.o HZ12.out.o (by rw [HTM.out]; exact f4)).mono ?_); rintro e w13 ⟨c13, rfl, ho, hb⟩; rw [HTM.out] at ho; have HO13 := hide ho; have HF13 := hide (HF12.out.below hb); have HX13 := hide (HX12.out.below hb); obtain ⟨l0, l1, lf, lz, -⟩ := HX13.out.b; clear ho hb)
        generalize hW : World.setCell (World.setCell w13 _ _) _ _ = v14
        have HX14 := hide (show Fx v14 w4.heap.size c13 (some (tm r N K)) by rw [← hW]; exact HX13.out.put HO13.out)
        have HF14 := hide (show F1 w v14 a l k by rw [← hW]; exact HF13.out.one (fr_fill _ _) HX13.out.b.nb (by omega))
        obtain ⟨n0, n1, nf, nz, -⟩ := HX14.out.b
        obtain ⟨-, -, qz, u0, u1, uf⟩ := HF14.out.ca
        clear hW
        go_wp2_with fail
        refine bodyPost_ret (v := .tuple #[.agg #[.slice c13.A c13.n c13.c, .slice c13.B c13.m c13.d], .int .i64 0]) (by simp [results, Tryz.results101, go_sem, *]) rfl (HF14.out.end (by rw [HX.out]) (by rw [HX.out]; exact HX14.out.o))
  · have HX := hide (show totR (fracOf l k) n (fun j => decide ((j : Int) = m)) = (none, 41) by unfold totR; rw [if_neg hch])
    have HCH := hide (show chO (fracOf l k) = false by simpa using hch)
    clear hch
    go_enter Tryz.func101, Tryz.ntmps101
    go_upto_region 1 with (fail)
    generalize hW : World.alloc (World.alloc w _) _ = v
    have HF := hide (show F1 w v a (l) (k) by rw [← hW]; exact F1.mk0 hq _ _)
    obtain ⟨a0, a1, az, r0, r1, rf⟩ := HF.out.ca
    clear hW hq
    go_wp2_with ((go_at_call 81; (with_reducible refine (rzchance_any _ a l k HF.out.q).mono ?_); rintro e w1 ⟨rfl, hb⟩; rw [HCH.out]; have HF1 := hide (HF.out.below hb); obtain ⟨e0, e1, ez, s0, s1, sf⟩ := HF1.out.ca; clear hb))
    refine bodyPost_ret (v := .tuple #[.agg #[.slice none 0 0, .slice none 0 0], .int .i64 41]) (by simp [results, Tryz.results101, go_sem, *]) rfl (HF1.out.err HX.out)
end Go.Proofs.YtjkffgcikbkjeaaGreat

/- Contracts: the reference's between, AtLeast, AtMost. -/
namespace Go.Proofs.YtjkffgcikbkjeaaGreat
open Go.RowKit

theorem sm_stop {r : Rat} {N : Nat} {f : Nat → Bool} {k : Nat} (h : ∀ j, k ≤ j → j ≤ N → f j = false) : ∀ m, sm r N f (k + m) = sm r N f k
  | 0 => rfl
  | m + 1 => by
    show sm r N f (k + m) + (if f (k + m) = true then tm r N (k + m) else 0) = _
    have add0 : ∀ x : Rat, x + 0 = x := fun x => by grind
    rw [sm_stop h m]
    by_cases hN : k + m ≤ N
    · rw [h _ (by omega) hN, if_neg (by simp), add0]
    · rw [tm_over (show N < k + m by omega)]
      split <;> rw [add0]
theorem sm_start {r : Rat} {N : Nat} {f : Nat → Bool} : ∀ {k : Nat}, (∀ j, j < k → f j = false) → sm r N f k = 0
  | 0, _ => rfl
  | k + 1, h => by
    show sm r N f k + (if f k = true then tm r N k else 0) = _
    have add0 : ∀ x : Rat, x + 0 = x := fun x => by grind
    rw [sm_start (fun j hj => h j (by omega)), h k (by omega), if_neg (by simp), add0]
theorem sm_end {r : Rat} {N : Nat} {f : Nat → Bool} {k : Nat} (h : ∀ j, k ≤ j → j ≤ N → f j = false) : sm r N f k = tot r N f := by
  unfold tot
  rcases Nat.le_total k (N + 1) with h1 | h1
  · obtain ⟨d, hd⟩ := Nat.exists_eq_add_of_le h1
    rw [hd, sm_stop h]
  · obtain ⟨d, rfl⟩ := Nat.exists_eq_add_of_le h1
    rw [sm_stop (k := N + 1) (fun j h2 h3 => by omega)]
def btw (lo hi : Int) (j : Nat) : Bool := decide (lo ≤ (j : Int)) && decide ((j : Int) ≤ hi)
theorem rzexactly_ok (w : World) (a : Fa) (r : Rat) (N K : Nat) (ha : Fo w a (some r)) (hc : Chn r) (hN : N ≤ 32) (hK : K ≤ N) : Calls Tryz.prog 101 #[.agg #[.slice a.A a.n a.c, .slice a.B a.m a.d], .int .i64 (N : Int), .int .i64 (K : Int)] w fun e w' => RetV w (tm r N K) e w' :=
  (rzexactly_any w a _ _ (N : Int) (K : Int) ha.1).mono fun e w' h => Ret.ok (by
    rw [fracOf_self ha.2, totR_ok hc hN, tot_one r N K hK]) h
set_option maxRecDepth 100000 in
set_option maxHeartbeats 8000000 in
theorem rzbetween_any (w : World) (a : Fa) (l k : List Nat) (n lo hi : Int) (hq : Fq w a l k) (hlo63 : lo < 9223372036854775808) :
    Calls Tryz.prog 84 #[.agg #[.slice a.A a.n a.c, .slice a.B a.m a.d], .int .i64 n, .int .i64 lo, .int .i64 hi] w fun e w' => Ret w (totR (fracOf l k) n (btw lo hi)) e w' := by
  by_cases hch : chO (fracOf l k) = true
  · by_cases hn : n < 0 ∨ 32 < n
    · have HX := hide (show totR (fracOf l k) n (btw lo hi) = (none, 3) by unfold totR; rw [if_pos hch, if_pos hn])
      have HCH := hide hch
      by_cases hn0 : n < 0
      · clear hch hn
        go_enter Tryz.func84, Tryz.ntmps84
        go_upto_region 1 with (fail)
        generalize hW : World.alloc (World.alloc w _) _ = v
        have HF := hide (show F1 w v a (l) (k) by rw [← hW]; exact F1.mk0 hq _ _)
        obtain ⟨a0, a1, az, r0, r1, rf⟩ := HF.out.ca
        clear hW hq
        go_wp2_with ((go_at_call 81; (with_reducible refine (rzchance_any _ a l k HF.out.q).mono ?_); rintro e w1 ⟨rfl, hb⟩; rw [HCH.out]; have HF1 := hide (HF.out.below hb); obtain ⟨e0, e1, ez, s0, s1, sf⟩ := HF1.out.ca; clear hb))
        refine bodyPost_ret (v := .tuple #[.agg #[.slice none 0 0, .slice none 0 0], .int .i64 3]) (by simp [results, Tryz.results84, go_sem, *]) rfl (HF1.out.err HX.out)
      · have hn32 : decide ((32 : Int) < n) = true := decide_eq_true (by omega)
        clear hch hn
        go_enter Tryz.func84, Tryz.ntmps84
        go_upto_region 1 with (fail)
        generalize hW : World.alloc (World.alloc w _) _ = v
        have HF := hide (show F1 w v a (l) (k) by rw [← hW]; exact F1.mk0 hq _ _)
        obtain ⟨a0, a1, az, r0, r1, rf⟩ := HF.out.ca
        clear hW hq
        go_wp2_with ((go_at_call 81; (with_reducible refine (rzchance_any _ a l k HF.out.q).mono ?_); rintro e w1 ⟨rfl, hb⟩; rw [HCH.out]; have HF1 := hide (HF.out.below hb); obtain ⟨e0, e1, ez, s0, s1, sf⟩ := HF1.out.ca; clear hb))
        refine bodyPost_ret (v := .tuple #[.agg #[.slice none 0 0, .slice none 0 0], .int .i64 3]) (by simp [results, Tryz.results84, go_sem, *]) rfl (HF1.out.err HX.out)
    · obtain ⟨N, rfl⟩ : ∃ N : Nat, n = N := ⟨n.toNat, by omega⟩
      have HN := hide (show N ≤ 32 by omega)
      rcases hA : fracOf l k with _ | r
      · rw [hA] at hch; exact absurd hch (by simp [chO])
      have hA2 := fracOf_some hA
      have hc : Chn r := chO_chn rfl hA2.2.2.1 (by rw [← hA]; exact hch)
      have HCH := hide hch
      have HXX := hide (show totR (some r) (N : Int) (btw lo hi) = (some (tot r N (btw lo hi)), 0) by rw [totR_ok hc HN.out])
      have HFA := hide (show Fo w a (some r) from ⟨by have h := hq; rw [hA2.1, hA2.2.1] at h; exact h, hA2.2.2⟩)
      have dn0 : decide ((N : Int) < 0) = false := decide_eq_false (by omega)
      have dn1 : decide ((32 : Int) < (N : Int)) = false := decide_eq_false (by omega)
      have dn2 : decide (32 < N) = false := decide_eq_false (by omega)
      clear hn hch hA2
      go_enter Tryz.func84, Tryz.ntmps84
      go_upto_region 1 with (fail)
      generalize hW : World.alloc (World.alloc w _) _ = v
      have HF := hide (show F1 w v a (l) (k) by rw [← hW]; exact F1.mk0 hq _ _)
      obtain ⟨a0, a1, az, r0, r1, rf⟩ := HF.out.ca
      clear hW hq
      go_upto_region 6 with (first | (go_at_call 81; (with_reducible refine (rzchance_any _ a l k HF.out.q).mono ?_); rintro e w1 ⟨rfl, hb⟩; rw [HCH.out]; have HF1 := hide (HF.out.below hb); obtain ⟨e0, e1, ez, s0, s1, sf⟩ := HF1.out.ca; clear hb) | go_at_call 60; (with_reducible refine (rzof_zero _).mono ?_); rintro e w3 ⟨q, rfl, ho, hb⟩; have HO := hide ho; have HF3 := hide (HF1.out.below hb); clear ho hb)
      generalize hW : World.alloc w3 _ = v5
      have HX5 := hide (show Fx v5 w3.heap.size q (some 0) by rw [← hW]; exact Fx.mk0 HO.out _ rfl)
      have HF5 := hide (show F1 w v5 a l k by rw [← hW]; exact HF3.out.below ((Below.refl _ _).alloc (Nat.le_refl _) _))
      have hz3 := HF3.out.sz
      obtain ⟨b10, hb10⟩ : ∃ b, b = w3.heap.size := ⟨_, rfl⟩
      rw [← hb10] at HX5 hz3 ⊢
      clear hW hb10
      by_cases h0 : ¬ 0 < lo
      · go_upto_region 7 with (fail)
        go_loopw [11, 12, 13] (fun kv xv ev wr => ∃ (K : Nat) (c : Fa), kv = .int .i64 (K : Int) ∧ K < 9223372036854775808 ∧ lo ≤ (K : Int) ∧ Hid (Fx wr b10 c (some (sm r N (btw lo hi) K))) ∧ Hid (F1 w wr a l k)) (fun kv _ _ _ => N + 1 - (intOf kv).toNat)
        case atStart => exact ⟨0, q, rfl, by omega, by omega, hide (by rw [sm_start (fun j hj => by omega)]; exact HX5.out), HF5⟩
        case round =>
          obtain ⟨K, c, rfl, hK63, hlo, HX, HF⟩ := hrel
          clear HX5 HF5
          obtain ⟨d0, d1, df, dz, -⟩ := HX.out.b
          obtain ⟨e0, e1, ez, s0, s1, sf⟩ := HF.out.ca
          have HA := hide (HFA.out.below HF.out.bw)
          by_cases hgo : (K : Int) ≤ (N : Int) ∧ (K : Int) ≤ hi
          · obtain ⟨hgo1, hgo2⟩ := hgo
            have hKN : K ≤ N := by omega
            have hK33 : K ≤ 32 := by have := HN.out; omega
            have HB := hide (show sm r N (btw lo hi) K + tm r N K = sm r N (btw lo hi) (K + 1) by
              show _ = sm r N (btw lo hi) K + (if btw lo hi K = true then tm r N K else 0)
              rw [if_pos (by simp [btw, hlo, hgo2])])
            have HS := hide (show fitsR (sm r N (btw lo hi) K + tm r N K) = true by rw [HB.out]; exact hc.fsm HN.out (btw lo hi) (m := K + 1) (by omega))
            by_cases hmin : hi < (N : Int)
            · (go_upto_region 10 with (go_at_call 101; (with_reducible refine (rzexactly_ok _ a r N K HA.out hc HN.out hKN).mono ?_); rintro e w6 ⟨x, rfl, ho, hb⟩; have HO6 := hide ho; have HF6 := hide (HF.out.below hb); have HX6 := hide (HX.out.below hb); clear ho hb); generalize hW : World.alloc w6 _ = v7; have HX7 := hide (show Fx v7 b10 c (some (sm r N (btw lo hi) K)) by rw [← hW]; exact HX6.out.alloc _); have HY7 := hide (show Fo v7 x (some (tm r N K)) by rw [← hW]; exact HO6.out.alloc _); have HF7 := hide (show F1 w v7 a l k by rw [← hW]; exact HF6.out.below ((Below.refl _ _).alloc (Nat.le_refl _) _)); have hy7 := hide (show Bq v7 w6.heap.size x by rw [← hW]; exact Bq.mk0 _ x rfl); obtain ⟨f0, f1, ff, fz, -⟩ := HX7.out.b; obtain ⟨h0, h1, hf, hz, -⟩ := hy7.out; clear hW; go_wp2_with (go_at_call 102; (with_reducible refine (r2add_ok _ c x (sm r N (btw lo hi) K) (tm r N K) HX7.out.o HY7.out HS.out).mono ?_); rintro e w11 ⟨c11, rfl, ho, hb⟩; rw [HB.out] at ho; have HO11 := hide ho; have HF11 := hide (HF7.out.below hb); have HX11 := hide (HX7.out.below hb); obtain ⟨g0, g1, gf, gz, -⟩ := HX11.out.b; clear ho hb); exact ⟨⟨K + 1, c11, by go_num, by omega, by omega, hide (HX11.out.put HO11.out), hide (HF11.out.one (fr_fill _ _) HX11.out.b.nb (by omega))⟩, by simp [intOf] <;> omega⟩)
            · (go_upto_region 10 with (go_at_call 101; (with_reducible refine (rzexactly_ok _ a r N K HA.out hc HN.out hKN).mono ?_); rintro e w6 ⟨x, rfl, ho, hb⟩; have HO6 := hide ho; have HF6 := hide (HF.out.below hb); have HX6 := hide (HX.out.below hb); clear ho hb); generalize hW : World.alloc w6 _ = v7; have HX7 := hide (show Fx v7 b10 c (some (sm r N (btw lo hi) K)) by rw [← hW]; exact HX6.out.alloc _); have HY7 := hide (show Fo v7 x (some (tm r N K)) by rw [← hW]; exact HO6.out.alloc _); have HF7 := hide (show F1 w v7 a l k by rw [← hW]; exact HF6.out.below ((Below.refl _ _).alloc (Nat.le_refl _) _)); have hy7 := hide (show Bq v7 w6.heap.size x by rw [← hW]; exact Bq.mk0 _ x rfl); obtain ⟨f0, f1, ff, fz, -⟩ := HX7.out.b; obtain ⟨h0, h1, hf, hz, -⟩ := hy7.out; clear hW; go_wp2_with (go_at_call 102; (with_reducible refine (r2add_ok _ c x (sm r N (btw lo hi) K) (tm r N K) HX7.out.o HY7.out HS.out).mono ?_); rintro e w11 ⟨c11, rfl, ho, hb⟩; rw [HB.out] at ho; have HO11 := hide ho; have HF11 := hide (HF7.out.below hb); have HX11 := hide (HX7.out.below hb); obtain ⟨g0, g1, gf, gz, -⟩ := HX11.out.b; clear ho hb); exact ⟨⟨K + 1, c11, by go_num, by omega, by omega, hide (HX11.out.put HO11.out), hide (HF11.out.one (fr_fill _ _) HX11.out.b.nb (by omega))⟩, by simp [intOf] <;> omega⟩)
          · have HE := hide (show sm r N (btw lo hi) K = tot r N (btw lo hi) from sm_end (fun j h1 h2 => by simp [btw]; omega))
            rw [HE.out] at HX
            by_cases hmin : hi < (N : Int)
            · have hgo1 : ¬ (K : Int) ≤ hi := by omega
              go_wp2_with fail
              refine bodyPost_ret (v := .tuple #[.agg #[.slice c.A c.n c.c, .slice c.B c.m c.d], .int .i64 0]) (by simp [results, Tryz.results84, go_sem, *]) rfl (HF.out.end (by rw [HXX.out]) (by rw [HXX.out]; exact HX.out.o))
            · have hgo1 : ¬ (K : Int) ≤ (N : Int) := by omega
              go_wp2_with fail
              refine bodyPost_ret (v := .tuple #[.agg #[.slice c.A c.n c.c, .slice c.B c.m c.d], .int .i64 0]) (by simp [results, Tryz.results84, go_sem, *]) rfl (HF.out.end (by rw [HXX.out]) (by rw [HXX.out]; exact HX.out.o))
      · obtain ⟨L0, hL⟩ : ∃ L : Nat, lo = L := ⟨lo.toNat, by omega⟩
        have HLO := hide hL
        clear hL
        go_upto_region 7 with (fail)
        go_loopw [11, 12, 13] (fun kv xv ev wr => ∃ (K : Nat) (c : Fa), kv = .int .i64 (K : Int) ∧ K < 9223372036854775808 ∧ lo ≤ (K : Int) ∧ Hid (Fx wr b10 c (some (sm r N (btw lo hi) K))) ∧ Hid (F1 w wr a l k)) (fun kv _ _ _ => N + 1 - (intOf kv).toNat)
        case atStart => exact ⟨L0, q, by rw [HLO.out], by have := HLO.out; omega, by rw [HLO.out]; omega, hide (by rw [sm_start (fun j hj => by have := HLO.out; simp [btw]; omega)]; exact HX5.out), HF5⟩
        case round =>
          obtain ⟨K, c, rfl, hK63, hlo, HX, HF⟩ := hrel
          clear HX5 HF5
          obtain ⟨d0, d1, df, dz, -⟩ := HX.out.b
          obtain ⟨e0, e1, ez, s0, s1, sf⟩ := HF.out.ca
          have HA := hide (HFA.out.below HF.out.bw)
          by_cases hgo : (K : Int) ≤ (N : Int) ∧ (K : Int) ≤ hi
          · obtain ⟨hgo1, hgo2⟩ := hgo
            have hKN : K ≤ N := by omega
            have hK33 : K ≤ 32 := by have := HN.out; omega
            have HB := hide (show sm r N (btw lo hi) K + tm r N K = sm r N (btw lo hi) (K + 1) by
              show _ = sm r N (btw lo hi) K + (if btw lo hi K = true then tm r N K else 0)
              rw [if_pos (by simp [btw, hlo, hgo2])])
            have HS := hide (show fitsR (sm r N (btw lo hi) K + tm r N K) = true by rw [HB.out]; exact hc.fsm HN.out (btw lo hi) (m := K + 1) (by omega))
            by_cases hmin : hi < (N : Int)
            · (go_upto_region 10 with (go_at_call 101; (with_reducible refine (rzexactly_ok _ a r N K HA.out hc HN.out hKN).mono ?_); rintro e w6 ⟨x, rfl, ho, hb⟩; have HO6 := hide ho; have HF6 := hide (HF.out.below hb); have HX6 := hide (HX.out.below hb); clear ho hb); generalize hW : World.alloc w6 _ = v7; have HX7 := hide (show Fx v7 b10 c (some (sm r N (btw lo hi) K)) by rw [← hW]; exact HX6.out.alloc _); have HY7 := hide (show Fo v7 x (some (tm r N K)) by rw [← hW]; exact HO6.out.alloc _); have HF7 := hide (show F1 w v7 a l k by rw [← hW]; exact HF6.out.below ((Below.refl _ _).alloc (Nat.le_refl _) _)); have hy7 := hide (show Bq v7 w6.heap.size x by rw [← hW]; exact Bq.mk0 _ x rfl); obtain ⟨f0, f1, ff, fz, -⟩ := HX7.out.b; obtain ⟨h0, h1, hf, hz, -⟩ := hy7.out; clear hW; go_wp2_with (go_at_call 102; (with_reducible refine (r2add_ok _ c x (sm r N (btw lo hi) K) (tm r N K) HX7.out.o HY7.out HS.out).mono ?_); rintro e w11 ⟨c11, rfl, ho, hb⟩; rw [HB.out] at ho; have HO11 := hide ho; have HF11 := hide (HF7.out.below hb); have HX11 := hide (HX7.out.below hb); obtain ⟨g0, g1, gf, gz, -⟩ := HX11.out.b; clear ho hb); exact ⟨⟨K + 1, c11, by go_num, by omega, by omega, hide (HX11.out.put HO11.out), hide (HF11.out.one (fr_fill _ _) HX11.out.b.nb (by omega))⟩, by simp [intOf] <;> omega⟩)
            · (go_upto_region 10 with (go_at_call 101; (with_reducible refine (rzexactly_ok _ a r N K HA.out hc HN.out hKN).mono ?_); rintro e w6 ⟨x, rfl, ho, hb⟩; have HO6 := hide ho; have HF6 := hide (HF.out.below hb); have HX6 := hide (HX.out.below hb); clear ho hb); generalize hW : World.alloc w6 _ = v7; have HX7 := hide (show Fx v7 b10 c (some (sm r N (btw lo hi) K)) by rw [← hW]; exact HX6.out.alloc _); have HY7 := hide (show Fo v7 x (some (tm r N K)) by rw [← hW]; exact HO6.out.alloc _); have HF7 := hide (show F1 w v7 a l k by rw [← hW]; exact HF6.out.below ((Below.refl _ _).alloc (Nat.le_refl _) _)); have hy7 := hide (show Bq v7 w6.heap.size x by rw [← hW]; exact Bq.mk0 _ x rfl); obtain ⟨f0, f1, ff, fz, -⟩ := HX7.out.b; obtain ⟨h0, h1, hf, hz, -⟩ := hy7.out; clear hW; go_wp2_with (go_at_call 102; (with_reducible refine (r2add_ok _ c x (sm r N (btw lo hi) K) (tm r N K) HX7.out.o HY7.out HS.out).mono ?_); rintro e w11 ⟨c11, rfl, ho, hb⟩; rw [HB.out] at ho; have HO11 := hide ho; have HF11 := hide (HF7.out.below hb); have HX11 := hide (HX7.out.below hb); obtain ⟨g0, g1, gf, gz, -⟩ := HX11.out.b; clear ho hb); exact ⟨⟨K + 1, c11, by go_num, by omega, by omega, hide (HX11.out.put HO11.out), hide (HF11.out.one (fr_fill _ _) HX11.out.b.nb (by omega))⟩, by simp [intOf] <;> omega⟩)
          · have HE := hide (show sm r N (btw lo hi) K = tot r N (btw lo hi) from sm_end (fun j h1 h2 => by simp [btw]; omega))
            rw [HE.out] at HX
            by_cases hmin : hi < (N : Int)
            · have hgo1 : ¬ (K : Int) ≤ hi := by omega
              go_wp2_with fail
              refine bodyPost_ret (v := .tuple #[.agg #[.slice c.A c.n c.c, .slice c.B c.m c.d], .int .i64 0]) (by simp [results, Tryz.results84, go_sem, *]) rfl (HF.out.end (by rw [HXX.out]) (by rw [HXX.out]; exact HX.out.o))
            · have hgo1 : ¬ (K : Int) ≤ (N : Int) := by omega
              go_wp2_with fail
              refine bodyPost_ret (v := .tuple #[.agg #[.slice c.A c.n c.c, .slice c.B c.m c.d], .int .i64 0]) (by simp [results, Tryz.results84, go_sem, *]) rfl (HF.out.end (by rw [HXX.out]) (by rw [HXX.out]; exact HX.out.o))
  · have HX := hide (show totR (fracOf l k) n (btw lo hi) = (none, 41) by unfold totR; rw [if_neg hch])
    have HCH := hide (show chO (fracOf l k) = false by simpa using hch)
    clear hch
    go_enter Tryz.func84, Tryz.ntmps84
    go_upto_region 1 with (fail)
    generalize hW : World.alloc (World.alloc w _) _ = v
    have HF := hide (show F1 w v a (l) (k) by rw [← hW]; exact F1.mk0 hq _ _)
    obtain ⟨a0, a1, az, r0, r1, rf⟩ := HF.out.ca
    clear hW hq
    go_wp2_with ((go_at_call 81; (with_reducible refine (rzchance_any _ a l k HF.out.q).mono ?_); rintro e w1 ⟨rfl, hb⟩; rw [HCH.out]; have HF1 := hide (HF.out.below hb); obtain ⟨e0, e1, ez, s0, s1, sf⟩ := HF1.out.ca; clear hb))
    refine bodyPost_ret (v := .tuple #[.agg #[.slice none 0 0, .slice none 0 0], .int .i64 41]) (by simp [results, Tryz.results84, go_sem, *]) rfl (HF1.out.err HX.out)
end Go.Proofs.YtjkffgcikbkjeaaGreat

/- Contracts: the reference's AtLeast, AtMost. -/
namespace Go.Proofs.YtjkffgcikbkjeaaGreat
open Go.RowKit

set_option maxRecDepth 100000 in
set_option maxHeartbeats 4000000 in
theorem rzatmost_any (w : World) (a : Fa) (l k : List Nat) (n m : Int) (hq : Fq w a l k) :
    Calls Tryz.prog 59 #[.agg #[.slice a.A a.n a.c, .slice a.B a.m a.d], .int .i64 n, .int .i64 m] w fun e w' => Ret w (totR (fracOf l k) n (btw 0 m)) e w' := by
  go_enter Tryz.func59, Tryz.ntmps59
  go_upto_region 1 with (fail)
  generalize hW : World.alloc (World.alloc w _) _ = v
  have HF := hide (show F1 w v a (l) (k) by rw [← hW]; exact F1.mk0 hq _ _)
  obtain ⟨a0, a1, az, r0, r1, rf⟩ := HF.out.ca
  clear hW hq
  go_wp2_with (go_at_call 84; (with_reducible refine (rzbetween_any _ a l k n (0) (m) HF.out.q (by omega)).mono ?_); rintro e w1 ⟨q, rfl, ho, hb⟩; have HO := hide ho; have HF1 := hide (HF.out.below hb); obtain ⟨e0, e1, ez, s0, s1, sf⟩ := HF1.out.ca; clear ho hb)
  refine bodyPost_ret (v := .tuple #[.agg #[.slice q.A q.n q.c, .slice q.B q.m q.d], .int .i64 (totR (fracOf l k) n (btw 0 m)).2]) (by simp [results, Tryz.results59, go_sem, *]) rfl (HF1.out.end rfl HO.out)
end Go.Proofs.YtjkffgcikbkjeaaGreat

/- Plain laws: the reference's sums count what the program's count. -/
namespace Go.Proofs.YtjkffgcikbkjeaaGreat
open Go.RowKit

theorem sm_congr {r : Rat} {N : Nat} {f g : Nat → Bool} : ∀ {m : Nat}, (∀ j, j < m → f j = g j) → sm r N f m = sm r N g m
  | 0, _ => rfl
  | m + 1, h => by
    show sm r N f m + (if f m = true then tm r N m else 0) = sm r N g m + (if g m = true then tm r N m else 0)
    rw [sm_congr (fun j hj => h j (by omega)), h m (by omega)]
theorem tot_congr {r : Rat} {N : Nat} {f g : Nat → Bool} (h : ∀ j, j ≤ N → f j = g j) : tot r N f = tot r N g :=
  sm_congr (fun j hj => h j (by omega))
theorem totR_congr {o : Option Rat} {n : Int} {f g : Nat → Bool} (h : ∀ j : Nat, (j : Int) ≤ n → f j = g j) : totR o n f = totR o n g := by
  unfold totR
  split
  · split
    · rfl
    · cases o with
      | none => rfl
      | some r =>
        show (some (tot r n.toNat f), (0 : Int)) = (some (tot r n.toNat g), 0)
        rw [tot_congr (fun j hj => h j (by omega))]
  · rfl
theorem totR_le (o : Option Rat) (n m : Int) : totR o n (btw 0 m) = totR o n (fun j => decide ((j : Int) ≤ m)) :=
  totR_congr (fun j hj => by simp [btw])
end Go.Proofs.YtjkffgcikbkjeaaGreat

/- Plain laws of the bounds of a rate. -/
namespace Go.Proofs.YtjkffgcikbkjeaaGreat

/-- At most k failures, at least k failures. -/
def atM (r : Rat) (n : Nat) (k : Int) : Rat := tot r n (fun j => decide ((j : Int) ≤ k))
def atL (r : Rat) (n : Nat) (k : Int) : Rat := tot r n (fun j => decide (k ≤ (j : Int)))
theorem atM_split (r : Rat) (n : Nat) (k : Int) : atM r n k = 1 - atL r n (k + 1) := by
  have h := tot_split r n (fun j => decide ((j : Int) ≤ k))
  have e : tot r n (fun i => !decide ((i : Int) ≤ k)) = atL r n (k + 1) := tot_congr (fun j _ => by
    rw [← decide_not]; exact decide_eq_decide.2 (by omega))
  rw [e] at h
  unfold atM
  grind
theorem up_closed (k : Int) (i : Nat) : decide (k ≤ (i : Int)) = true → decide (k ≤ ((i + 1 : Nat) : Int)) = true := by simp; omega
theorem atL_grow {r s : Rat} (h0 : 0 ≤ r) (h1 : s ≤ 1) (h : r ≤ s) (n : Nat) (k : Int) : atL r n k ≤ atL s n k := tot_grow h0 h1 h (up_closed k)
theorem atM_anti {r s : Rat} (h0 : 0 ≤ r) (h1 : s ≤ 1) (h : r ≤ s) (n : Nat) (k : Int) : atM s n k ≤ atM r n k := by
  rw [atM_split, atM_split]
  have := atL_grow h0 h1 h n (k + 1)
  grind
/-- What a search ends with. -/
def IsSr (g : Nat → Bool) (N r : Nat) : Prop := r ≤ N ∧ (r = 0 ∨ g (r - 1) = false) ∧ (r = N ∨ g r = true)
/-- The least one. -/
def IsLst (g : Nat → Bool) (N r : Nat) : Prop := r ≤ N ∧ (∀ h, h < r → g h = false) ∧ (r < N → g r = true)
theorem IsSr.lst {g : Nat → Bool} {N r : Nat} (h : IsSr g N r) (hm : ∀ i j, i ≤ j → g i = true → g j = true) : IsLst g N r := by
  obtain ⟨h1, h2, h3⟩ := h
  refine ⟨h1, fun i hi => ?_, fun hr => ?_⟩
  · rcases h2 with h2 | h2
    · omega
    · cases hg : g i with
      | false => rfl
      | true => rw [hm i (r - 1) (by omega) hg] at h2; cases h2
  · rcases h3 with h3 | h3
    · omega
    · exact h3
theorem IsLst.uniq {g : Nat → Bool} {N r s : Nat} (h : IsLst g N r) (k : IsLst g N s) : r = s := by
  rcases Nat.lt_trichotomy r s with h1 | h1 | h1
  · have := k.2.1 r h1
    rw [h.2.2 (by have := k.1; omega)] at this
    cases this
  · exact h1
  · have := h.2.1 s h1
    rw [k.2.2 (by have := h.1; omega)] at this
    cases this
theorem IsLst.cut {g : Nat → Bool} {N M r : Nat} (h : IsLst g N r) (hM : M ≤ N) : IsLst g M (min r M) := by
  obtain ⟨h1, h2, h3⟩ := h
  exact ⟨Nat.min_le_right _ _, fun i hi => h2 i (by omega), fun hr => by
    have e : min r M = r := by omega
    rw [e]; exact h3 (by omega)⟩
/-- The greatest one. -/
def IsGrt (g : Nat → Bool) (N v : Nat) : Prop := v ≤ N ∧ (v = 0 ∨ g v = true) ∧ (v = N ∨ g (v + 1) = false)
theorem IsGrt.uniq {g : Nat → Bool} {N v u : Nat} (hm : ∀ i j, i ≤ j → g j = true → g i = true) (h : IsGrt g N v) (k : IsGrt g N u) : v = u := by
  have key : ∀ {v u : Nat}, IsGrt g N v → IsGrt g N u → ¬ v < u := by
    intro v u h k hlt
    rcases k.2.1 with h1 | h1
    · omega
    · rcases h.2.2 with h2 | h2
      · have := k.1; omega
      · rw [hm (v + 1) u (by omega) h1] at h2; cases h2
  have h1 := key h k
  have h2 := key k h
  omega
theorem IsLst.grt {g : Nat → Bool} {N r : Nat} (hm : ∀ i j, i ≤ j → g j = true → g i = true) (h : IsLst (fun i => !g i) (N + 1) r) : IsGrt g N (r - 1) := by
  obtain ⟨h1, h2, h3⟩ := h
  refine ⟨by omega, ?_, ?_⟩
  · rcases Nat.eq_zero_or_pos r with h4 | h4
    · left; omega
    · right
      have := h2 (r - 1) (by omega)
      simpa using this
  · by_cases h4 : r - 1 = N
    · exact .inl h4
    · right
      rcases Nat.eq_zero_or_pos r with h5 | h5
      · subst h5
        have h6 := h3 (by omega)
        simp only [Bool.not_eq_true'] at h6
        cases h7 : g (0 - 1 + 1) with
        | false => rfl
        | true => rw [hm 0 _ (by omega) h7] at h6; cases h6
      · have h6 := h3 (by omega)
        rw [show r - 1 + 1 = r by omega]
        simpa using h6
end Go.Proofs.YtjkffgcikbkjeaaGreat

/- The walk of the law NoiseTails. -/
namespace Go.Proofs.YtjkffgcikbkjeaaGreat
open Go.RowKit

end Go.Proofs.YtjkffgcikbkjeaaGreat
