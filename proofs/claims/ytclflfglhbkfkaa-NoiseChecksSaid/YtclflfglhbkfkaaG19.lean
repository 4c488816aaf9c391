/- Contracts of the functions that these laws reach: part 19: Contract: the reference's Chance; Contract: the reference's Exactly; Contracts: the reference's between, AtLeast, AtMost. -/
import Derived.Test.YtclflfglhbkfkaaG18
import Derived.Test.YtclflfglhbkfkaaG13
import Derived.Test.YtclflfglhbkfkaaG12
set_option linter.unusedVariables false
set_option linter.unusedSimpArgs false

/- Contract: the reference's Chance. -/
namespace Go.Proofs.Ytclflfglhbkfkaa
open Go.RowKit

theorem r1of1000 (w : World) : Calls Try.prog 52 #[.int .u64 1000] w fun e w' => ∃ A m c, e = .returned (.slice A m c) ∧ m ≤ c ∧ m ≤ 2 ∧ Ul w' none A m (lm 1000) ∧ Below w.heap.size w w' := r1of_any w 1000 (by omega)
set_option maxRecDepth 100000 in
set_option maxHeartbeats 8000000 in
theorem rzchance_any (w : World) (a : Fa) (l k : List Nat) (hq : Fq w a l k) :
    Calls Try.prog 35 #[.agg #[.slice a.A a.n a.c, .slice a.B a.m a.d]] w fun e w' => e = .returned (.bool (chO (fracOf l k))) ∧ Below w.heap.size w w' := by
  have hn := hq.n
  have hm := hq.m
  rcases hA : fracOf l k with _ | r
  · have HA := hide hA
    clear hA
    go_enter Try.func35, Try.ntmps35
    go_upto_region 1 with (fail)
    generalize hW : World.alloc w _ = v
    have HBV := hide (show Below w.heap.size w v by rw [← hW]; exact (Below.refl _ _).alloc (Nat.le_refl _) _)
    have HQ := hide (show Fq v a l k by rw [← hW]; exact hq.alloc _)
    have a0 : v.cell? ⟨w.heap.size, 0, none⟩ = some (.slice a.A a.n a.c) := by rw [← hW]; clear hW; go_simp
    have a1 : v.cell? ⟨w.heap.size, 1, none⟩ = some (.slice a.B a.m a.d) := by rw [← hW]; clear hW; go_simp
    have rz : w.heap.size < v.heap.size := by rw [← hW]; simp
    clear hW hq
    go_cut [2] from 2 to 18 (fun s2 wx => s2 = .bool false ∧ Hid (Below v.heap.size v wx))
    case first =>
      first | (go_region_with (first | (go_at_call 67; (with_reducible refine (r2check_any _ a l k (by first | exact HQ.out | exact HQ.out.drew)).mono ?_); rintro e w1 ⟨he, hb⟩; rw [HA.out] at he; subst he; have hb' : Below v.heap.size v w1 := (by first | exact hb | exact Below.of_drew hb); have HB1 := hide hb'; have e0 := (hb'.cell (p := ⟨w.heap.size, 0, none⟩) (by simp; omega)).trans a0; have e1 := (hb'.cell (p := ⟨w.heap.size, 1, none⟩) (by simp; omega)).trans a1; clear hb hb'))) | fail
      all_goals
        go_wp2_with fail
        go_meet
        case rel => exact ⟨rfl, HB1⟩
    case rest =>
      obtain ⟨rfl, HB1⟩ := hcut
      go_wp2_with fail
      refine bodyPost_ret (v := .bool false) (by simp [results, Try.results35, go_sem, *]) rfl ⟨rfl, HBV.out.trans (HB1.out.mono HBV.out.size)⟩
  · have HA := hide hA
    have HQo0 : Fo w a (some r) := ⟨by have h := fracOf_some hA; rw [h.1, h.2.1] at hq; exact hq, (fracOf_some hA).2.2⟩
    have hm128 := HQo0.small.2
    have HN := hide (show (if natB k && natB (lm 1000) then cmpN (lv k) (lv (lm 1000)) else 0) = cmpN r.den 1000 by
      obtain ⟨h1, h2, h3, h4⟩ := fracOf_some hA
      have h5 : natB k = true := by
        rw [h2, natB_lm]
        simp only [fitsR, Bool.and_eq_true, decide_eq_true_eq] at h4
        simp [h4.2]
      rw [h5, natB64 (by omega), if_pos (by rfl), h2, lv_lm, lv_lm])
    have HCX := hide (show cmpO (some r) (some 1) = cmpQ r 1 from rfl)
    clear hA
    by_cases h1 : r ≤ 1
    · have d1 : decide (cmpQ r 1 ≤ 0) = true := decide_eq_true (cmpQ_le.2 h1)
      have HE := hide (show chO (some r) = decide (cmpN r.den 1000 ≤ 0) by
        show (decide (r ≤ 1) && _) = _
        rw [decide_eq_true h1, Bool.true_and]
        exact decide_eq_decide.2 cmpN_le.symm)
      clear h1
      go_enter Try.func35, Try.ntmps35
      go_upto_region 1 with (fail)
      generalize hW : World.alloc w _ = v
      have HBV := hide (show Below w.heap.size w v by rw [← hW]; exact (Below.refl _ _).alloc (Nat.le_refl _) _)
      have HQ := hide (show Fq v a l k by rw [← hW]; exact hq.alloc _)
      have a0 : v.cell? ⟨w.heap.size, 0, none⟩ = some (.slice a.A a.n a.c) := by rw [← hW]; clear hW; go_simp
      have a1 : v.cell? ⟨w.heap.size, 1, none⟩ = some (.slice a.B a.m a.d) := by rw [← hW]; clear hW; go_simp
      have rz : w.heap.size < v.heap.size := by rw [← hW]; simp
      clear hW hq
      have HQo := hide (show Fo v a (some r) from HQo0.below HBV.out)
      clear HQo0
      go_region_held3 (fun W => W.cell? ⟨w.heap.size, 0, none⟩ = some (.slice a.A a.n a.c) ∧ W.cell? ⟨w.heap.size, 1, none⟩ = some (.slice a.B a.m a.d)) (first | exact ⟨a0, a1⟩ | exact ⟨e0, e1⟩ | exact ⟨g0, g1⟩ | exact ⟨i0, i1⟩ | exact ⟨j0, j1⟩ | exact ⟨k0, k1⟩) (first | (go_at_call 67; (with_reducible refine (r2check_any _ a l k (by first | exact HQ.out | exact HQ.out.drew)).mono ?_); rintro e w1 ⟨he, hb⟩; rw [HA.out] at he; subst he; have hb' : Below v.heap.size v w1 := (by first | exact hb | exact Below.of_drew hb); have HB1 := hide hb'; have e0 := (hb'.cell (p := ⟨w.heap.size, 0, none⟩) (by simp; omega)).trans a0; have e1 := (hb'.cell (p := ⟨w.heap.size, 1, none⟩) (by simp; omega)).trans a1; clear hb hb') | (go_at_call 50; (with_reducible refine (rzof_one _).mono ?_); rintro e w2 ⟨c1, rfl, ho, hb⟩; have HO1 := hide ho; have hb' : Below w1.heap.size w1 w2 := hb; have HB2 := hide (HB1.out.trans (hb'.mono HB1.out.size)); have g0 := (HB2.out.cell (p := ⟨w.heap.size, 0, none⟩) (by simp; omega)).trans a0; have g1 := (HB2.out.cell (p := ⟨w.heap.size, 1, none⟩) (by simp; omega)).trans a1; clear ho hb hb') | (go_at_call 65; (with_reducible refine (r2cmp_o _ a c1 (some r) (some 1) (HQo.out.below HB2.out) HO1.out).mono ?_); rintro e w3 ⟨he, hb⟩; rw [HCX.out] at he; subst he; have HB3 := hide (HB2.out.trans (hb.mono HB2.out.size)); have i0 := (HB3.out.cell (p := ⟨w.heap.size, 0, none⟩) (by simp; omega)).trans a0; have i1 := (HB3.out.cell (p := ⟨w.heap.size, 1, none⟩) (by simp; omega)).trans a1; clear hb) | (go_at_call 52; (with_reducible refine (r1of1000 _).mono ?_); rintro e w4 ⟨A4, m4, c4, rfl, h4, h42, hu, hb⟩; have HU4 := hide hu; have HB4 := hide (HB3.out.trans (hb.mono HB3.out.size)); have j0 := (HB4.out.cell (p := ⟨w.heap.size, 0, none⟩) (by simp; omega)).trans a0; have j1 := (HB4.out.cell (p := ⟨w.heap.size, 1, none⟩) (by simp; omega)).trans a1; clear hu hb) | (go_at_call 68; (with_reducible refine (r1cmp_any _ none none a.B a.m a.d A4 m4 c4 _ _ (HQ.out.below HB4.out).v HU4.out (by omega) (by omega)).mono ?_); rintro e w5 ⟨rfl, hb⟩; rw [HN.out]; have HB5 := hide (HB4.out.trans (hb.mono HB4.out.size)); have k0 := (HB5.out.cell (p := ⟨w.heap.size, 0, none⟩) (by simp; omega)).trans a0; have k1 := (HB5.out.cell (p := ⟨w.heap.size, 1, none⟩) (by simp; omega)).trans a1; clear hb))
      go_wp2_with fail
      refine bodyPost_ret (v := .bool (decide (cmpN r.den 1000 ≤ 0))) (by simp [results, Try.results35, go_sem, *]) rfl ⟨by rw [HE.out], HBV.out.trans (HB5.out.mono HBV.out.size)⟩
    · have d1 : decide (cmpQ r 1 ≤ 0) = false := decide_eq_false (fun h => h1 (cmpQ_le.1 h))
      have HE := hide (show chO (some r) = false by
        show (decide (r ≤ 1) && _) = _
        rw [decide_eq_false h1, Bool.false_and])
      clear h1
      go_enter Try.func35, Try.ntmps35
      go_upto_region 1 with (fail)
      generalize hW : World.alloc w _ = v
      have HBV := hide (show Below w.heap.size w v by rw [← hW]; exact (Below.refl _ _).alloc (Nat.le_refl _) _)
      have HQ := hide (show Fq v a l k by rw [← hW]; exact hq.alloc _)
      have a0 : v.cell? ⟨w.heap.size, 0, none⟩ = some (.slice a.A a.n a.c) := by rw [← hW]; clear hW; go_simp
      have a1 : v.cell? ⟨w.heap.size, 1, none⟩ = some (.slice a.B a.m a.d) := by rw [← hW]; clear hW; go_simp
      have rz : w.heap.size < v.heap.size := by rw [← hW]; simp
      clear hW hq
      have HQo := hide (show Fo v a (some r) from HQo0.below HBV.out)
      clear HQo0
      go_cut [2] from 2 to 18 (fun s2 wx => s2 = .bool false ∧ Hid (Below v.heap.size v wx))
      case first =>
        first | (go_region_with (first | (go_at_call 67; (with_reducible refine (r2check_any _ a l k (by first | exact HQ.out | exact HQ.out.drew)).mono ?_); rintro e w1 ⟨he, hb⟩; rw [HA.out] at he; subst he; have hb' : Below v.heap.size v w1 := (by first | exact hb | exact Below.of_drew hb); have HB1 := hide hb'; have e0 := (hb'.cell (p := ⟨w.heap.size, 0, none⟩) (by simp; omega)).trans a0; have e1 := (hb'.cell (p := ⟨w.heap.size, 1, none⟩) (by simp; omega)).trans a1; clear hb hb') | (go_at_call 50; (with_reducible refine (rzof_one _).mono ?_); rintro e w2 ⟨c1, rfl, ho, hb⟩; have HO1 := hide ho; have hb' : Below w1.heap.size w1 w2 := hb; have HB2 := hide (HB1.out.trans (hb'.mono HB1.out.size)); have g0 := (HB2.out.cell (p := ⟨w.heap.size, 0, none⟩) (by simp; omega)).trans a0; have g1 := (HB2.out.cell (p := ⟨w.heap.size, 1, none⟩) (by simp; omega)).trans a1; clear ho hb hb') | (go_at_call 65; (with_reducible refine (r2cmp_o _ a c1 (some r) (some 1) (HQo.out.below HB2.out) HO1.out).mono ?_); rintro e w3 ⟨he, hb⟩; rw [HCX.out] at he; subst he; have HB3 := hide (HB2.out.trans (hb.mono HB2.out.size)); have i0 := (HB3.out.cell (p := ⟨w.heap.size, 0, none⟩) (by simp; omega)).trans a0; have i1 := (HB3.out.cell (p := ⟨w.heap.size, 1, none⟩) (by simp; omega)).trans a1; clear hb))) | fail
        all_goals
          go_wp2_with fail
          go_meet
          case rel => exact ⟨rfl, HB3⟩
      case rest =>
        obtain ⟨rfl, HB3⟩ := hcut
        go_wp2_with fail
        refine bodyPost_ret (v := .bool false) (by simp [results, Try.results35, go_sem, *]) rfl ⟨by rw [HE.out], HBV.out.trans (HB3.out.mono HBV.out.size)⟩
end Go.Proofs.Ytclflfglhbkfkaa

/- Contract: the reference's Exactly. -/
namespace Go.Proofs.Ytclflfglhbkfkaa
open Go.RowKit

theorem sm_one (r : Rat) (n k : Nat) : ∀ m, sm r n (fun j => decide ((j : Int) = (k : Int))) m = if k < m then tm r n k else 0
  | 0 => by rw [if_neg (by omega)]; rfl
  | m + 1 => by
    show sm r n _ m + (if decide ((m : Int) = (k : Int)) = true then tm r n m else 0) = _
    rw [sm_one r n k m]
    have add0 : ∀ x : Rat, x + 0 = x := fun x => by grind
    have zadd : ∀ x : Rat, 0 + x = x := fun x => by grind
    by_cases h : k < m
    · have e : decide ((m : Int) = (k : Int)) = false := decide_eq_false (by omega)
      rw [e, if_pos h, if_pos (show k < m + 1 by omega), if_neg (by simp), add0]
    · by_cases h2 : k = m
      · subst h2
        have e : decide ((k : Int) = (k : Int)) = true := decide_eq_true rfl
        rw [e, if_neg h, if_pos (show k < k + 1 by omega), if_pos rfl, zadd]
      · have e : decide ((m : Int) = (k : Int)) = false := decide_eq_false (by omega)
        rw [e, if_neg h, if_neg (show ¬ k < m + 1 by omega), if_neg (by simp), add0]
theorem sm_none (r : Rat) (n : Nat) (m : Int) (hm : m < 0) : ∀ j, sm r n (fun j => decide ((j : Int) = m)) j = 0
  | 0 => rfl
  | j + 1 => by
    show sm r n _ j + (if decide ((j : Int) = m) = true then tm r n j else 0) = _
    rw [sm_none r n m hm j, if_neg (by simp; omega)]
    grind
theorem tot_out (r : Rat) (n : Nat) (m : Int) (h : m < 0 ∨ (n : Int) < m) : tot r n (fun j => decide ((j : Int) = m)) = 0 := by
  by_cases h0 : m < 0
  · exact sm_none r n m h0 _
  · obtain ⟨k, rfl⟩ : ∃ k : Nat, m = k := ⟨m.toNat, by omega⟩
    unfold tot
    rw [sm_one, if_neg (show ¬ k < n + 1 by omega)]
theorem tot_one (r : Rat) (n k : Nat) (h : k ≤ n) : tot r n (fun j => decide ((j : Int) = (k : Int))) = tm r n k := by
  unfold tot
  rw [sm_one, if_pos (show k < n + 1 by omega)]
theorem r2pow_ok (w : World) (a : Fa) (r : Rat) (k : Nat) (ha : Fo w a (some r)) (hk : k ≤ 65536) (hf : fitsR (r ^ k) = true) : Calls Try.prog 53 #[.agg #[.slice a.A a.n a.c, .slice a.B a.m a.d], .int .i64 (k : Int)] w fun e w' => RetV w (r ^ k) e w' :=
  (r2pow_o w a (some r) k ha (by omega) (by omega)).mono fun e w' h => Ret.ok (by
    show (if (k : Int) < 0 ∨ 65536 < (k : Int) then (none, 3) else limR (r ^ ((k : Int)).toNat)) = _
    rw [if_neg (by omega), Int.toNat_natCast, limR_fit hf]) h
theorem r2mul_ok (w : World) (a b : Fa) (r s : Rat) (ha : Fo w a (some r)) (hb : Fo w b (some s)) (hf : fitsR (r * s) = true) : Calls Try.prog 55 #[.agg #[.slice a.A a.n a.c, .slice a.B a.m a.d], .agg #[.slice b.A b.n b.c, .slice b.B b.m b.d]] w fun e w' => RetV w (r * s) e w' :=
  (r2mul_o w a b (some r) (some s) ha hb).mono fun e w' h => Ret.ok (by show limR (r * s) = _; rw [limR_fit hf]) h
theorem r2add_ok (w : World) (a b : Fa) (r s : Rat) (ha : Fo w a (some r)) (hb : Fo w b (some s)) (hf : fitsR (r + s) = true) : Calls Try.prog 85 #[.agg #[.slice a.A a.n a.c, .slice a.B a.m a.d], .agg #[.slice b.A b.n b.c, .slice b.B b.m b.d]] w fun e w' => RetV w (r + s) e w' :=
  (r2add_o w a b (some r) (some s) ha hb).mono fun e w' h => Ret.ok (by show limR (r + s) = _; rw [limR_fit hf]) h
theorem r1of_one (w : World) : Calls Try.prog 52 #[.int .u64 1] w fun e w' => ∃ A m c, e = .returned (.slice A m c) ∧ m ≤ c ∧ m ≤ 2 ∧ Ul w' none A m (lm 1) ∧ Below w.heap.size w w' := r1of_any w 1 (by omega)
set_option maxRecDepth 100000 in
set_option maxHeartbeats 8000000 in
theorem rzexactly_any (w : World) (a : Fa) (l k : List Nat) (n m : Int) (hq : Fq w a l k) :
    Calls Try.prog 18 #[.agg #[.slice a.A a.n a.c, .slice a.B a.m a.d], .int .i64 n, .int .i64 m] w fun e w' => Ret w (totR (fracOf l k) n (fun j => decide ((j : Int) = m))) e w' := by
  by_cases hch : chO (fracOf l k) = true
  · by_cases hn : n < 0 ∨ 32 < n
    · have HX := hide (show totR (fracOf l k) n (fun j => decide ((j : Int) = m)) = (none, 3) by unfold totR; rw [if_pos hch, if_pos hn])
      have HCH := hide hch
      have HCE := hide (show chooseE n = 3 from if_pos hn)
      clear hch hn
      go_enter Try.func18, Try.ntmps18
      go_upto_region 1 with (fail)
      generalize hW : World.alloc (World.alloc w _) _ = v
      have HF := hide (show F1 w v a (l) (k) by rw [← hW]; exact F1.mk0 hq _ _)
      obtain ⟨a0, a1, az, r0, r1, rf⟩ := HF.out.ca
      clear hW hq
      go_wp2_with (first | (go_at_call 35; (with_reducible refine (rzchance_any _ a l k HF.out.q).mono ?_); rintro e w1 ⟨rfl, hb⟩; rw [HCH.out]; have HF1 := hide (HF.out.below hb); obtain ⟨e0, e1, ez, s0, s1, sf⟩ := HF1.out.ca; clear hb) | (go_at_call 26; (with_reducible refine (rchoose_any _ _ m).mono ?_); rintro e w2 ⟨A2, m2, c2, rfl, hc2, hm2, hu2, hb⟩; rw [HCE.out]; have HU2 := hide hu2; have HF2 := hide (HF1.out.below hb); obtain ⟨g0, g1, gz, t0, t1, tf⟩ := HF2.out.ca; clear hu2 hb))
      refine bodyPost_ret (v := .tuple #[.agg #[.slice none 0 0, .slice none 0 0], .int .i64 3]) (by simp [results, Try.results18, go_sem, *]) rfl (HF2.out.err HX.out)
    · have HCE := hide (show chooseE n = 0 from if_neg hn)
      obtain ⟨N, rfl⟩ : ∃ N : Nat, n = N := ⟨n.toNat, by omega⟩
      have HN := hide (show N ≤ 32 by omega)
      rcases hA : fracOf l k with _ | r
      · rw [hA] at hch; exact absurd hch (by simp [chO])
      have hA2 := fracOf_some hA
      have hc : Chn r := chO_chn rfl hA2.2.2.1 (by rw [← hA]; exact hch)
      have HCH := hide hch
      by_cases ho : m < 0 ∨ (N : Int) < m
      · have HX := hide (show totR (some r) (N : Int) (fun j => decide ((j : Int) = m)) = (some 0, 0) by
          rw [totR_ok hc HN.out, tot_out r N m ho])
        clear hA2 hn hch
        by_cases hm : m < 0
        · skip
          go_enter Try.func18, Try.ntmps18
          go_upto_region 1 with (fail)
          generalize hW : World.alloc (World.alloc w _) _ = v
          have HF := hide (show F1 w v a (l) (k) by rw [← hW]; exact F1.mk0 hq _ _)
          obtain ⟨a0, a1, az, r0, r1, rf⟩ := HF.out.ca
          clear hW hq
          go_wp2_with (first | (go_at_call 35; (with_reducible refine (rzchance_any _ a l k HF.out.q).mono ?_); rintro e w1 ⟨rfl, hb⟩; rw [HCH.out]; have HF1 := hide (HF.out.below hb); obtain ⟨e0, e1, ez, s0, s1, sf⟩ := HF1.out.ca; clear hb) | (go_at_call 26; (with_reducible refine (rchoose_any _ _ m).mono ?_); rintro e w2 ⟨A2, m2, c2, rfl, hc2, hm2, hu2, hb⟩; rw [HCE.out]; have HU2 := hide hu2; have HF2 := hide (HF1.out.below hb); obtain ⟨g0, g1, gz, t0, t1, tf⟩ := HF2.out.ca; clear hu2 hb) | go_at_call 50; (with_reducible refine (rzof_zero _).mono ?_); rintro e w3 ⟨q, rfl, ho, hb⟩; have HO := hide ho; have HF3 := hide (HF2.out.below hb); obtain ⟨i0, i1, iz, v0, v1, vf⟩ := HF3.out.ca; clear ho hb)
          refine bodyPost_ret (v := .tuple #[.agg #[.slice q.A q.n q.c, .slice q.B q.m q.d], .int .i64 0]) (by simp [results, Try.results18, go_sem, *]) rfl (HF3.out.end (by rw [HX.out]) (by rw [HX.out]; exact HO.out))
        · have hm2 : decide ((N : Int) < m) = true := decide_eq_true (by omega)
          go_enter Try.func18, Try.ntmps18
          go_upto_region 1 with (fail)
          generalize hW : World.alloc (World.alloc w _) _ = v
          have HF := hide (show F1 w v a (l) (k) by rw [← hW]; exact F1.mk0 hq _ _)
          obtain ⟨a0, a1, az, r0, r1, rf⟩ := HF.out.ca
          clear hW hq
          go_wp2_with (first | (go_at_call 35; (with_reducible refine (rzchance_any _ a l k HF.out.q).mono ?_); rintro e w1 ⟨rfl, hb⟩; rw [HCH.out]; have HF1 := hide (HF.out.below hb); obtain ⟨e0, e1, ez, s0, s1, sf⟩ := HF1.out.ca; clear hb) | (go_at_call 26; (with_reducible refine (rchoose_any _ _ m).mono ?_); rintro e w2 ⟨A2, m2, c2, rfl, hc2, hm2, hu2, hb⟩; rw [HCE.out]; have HU2 := hide hu2; have HF2 := hide (HF1.out.below hb); obtain ⟨g0, g1, gz, t0, t1, tf⟩ := HF2.out.ca; clear hu2 hb) | go_at_call 50; (with_reducible refine (rzof_zero _).mono ?_); rintro e w3 ⟨q, rfl, ho, hb⟩; have HO := hide ho; have HF3 := hide (HF2.out.below hb); obtain ⟨i0, i1, iz, v0, v1, vf⟩ := HF3.out.ca; clear ho hb)
          refine bodyPost_ret (v := .tuple #[.agg #[.slice q.A q.n q.c, .slice q.B q.m q.d], .int .i64 0]) (by simp [results, Try.results18, go_sem, *]) rfl (HF3.out.end (by rw [HX.out]) (by rw [HX.out]; exact HO.out))
      · obtain ⟨K, rfl⟩ : ∃ K : Nat, m = K := ⟨m.toNat, by omega⟩
        have hKN : K ≤ N := by omega
        obtain ⟨D, hD⟩ : ∃ D, D = N - K := ⟨_, rfl⟩
        have hND : (N : Int) - (K : Int) = (D : Int) := by omega
        have hm1 : ¬ (N : Int) < (K : Int) := by omega
        have HX := hide (show totR (some r) (N : Int) (fun j => decide ((j : Int) = (K : Int))) = (some (tm r N K), 0) by
          rw [totR_ok hc HN.out, tot_one r N K hKN])
        have HTM := hide (show (ch N K : Rat) * r ^ K * (1 - r) ^ D = tm r N K by rw [hD]; rfl)
        have HFA := hide (show Fo w a (some r) from ⟨by have h := hq; rw [hA2.1, hA2.2.1] at h; exact h, hA2.2.2⟩)
        have HCL := hide (show chooseL (N : Int) (K : Int) = lm (ch N K) by
          unfold chooseL
          rw [if_neg hn, if_neg (by omega)]
          rfl)
        have HC64 := hide (show ch N K < 18446744073709551616 by
          have h1 := ch_le N K
          have h2 : 2 ^ N ≤ 2 ^ 32 := Nat.pow_le_pow_right (by omega) HN.out
          omega)
        have hK65 : K ≤ 65536 := by have := HN.out; omega
        have hD65 : D ≤ 65536 := by have := HN.out; omega
        have hK32 : K ≤ 32 := by have := HN.out; omega
        have hD32 : D ≤ 32 := by have := HN.out; omega
        have f1 := hc.fp hK32
        have f2 := hc.fp' hD32
        have f3 := hc.fcp HN.out hK32
        have f4 := hc.ftm HN.out hKN
        clear hD hn hch ho hA2
        go_enter Try.func18, Try.ntmps18
        go_upto_region 1 with (fail)
        generalize hW : World.alloc (World.alloc w _) _ = v
        have HF := hide (show F1 w v a (l) (k) by rw [← hW]; exact F1.mk0 hq _ _)
        obtain ⟨a0, a1, az, r0, r1, rf⟩ := HF.out.ca
        clear hW hq
        go_upto_region 9 with (first | (go_at_call 35; (with_reducible refine (rzchance_any _ a l k HF.out.q).mono ?_); rintro e w1 ⟨rfl, hb⟩; rw [HCH.out]; have HF1 := hide (HF.out.below hb); obtain ⟨e0, e1, ez, s0, s1, sf⟩ := HF1.out.ca; clear hb) | go_at_call 26; (with_reducible refine (rchoose_any _ (N : Int) (K : Int)).mono ?_); rintro e w2 ⟨A2, m2, c2, rfl, hc2, hm2, hu2, hb⟩; rw [HCE.out]; rw [HCL.out] at hu2; have HU2 := hide hu2; have HF2 := hide (HF1.out.below hb); obtain ⟨g0, g1, gz, t0, t1, tf⟩ := HF2.out.ca; clear hu2 hb | go_at_call 52; (with_reducible refine (r1of_one _).mono ?_); rintro e w3 ⟨A3, m3, c3, rfl, hc3, hm3, hu3, hb⟩; have HU3 := hide hu3; have HU2b := hide (HU2.out.below hb); have HF3 := hide (HF2.out.below hb); obtain ⟨i0, i1, iz, v0, v1, vf⟩ := HF3.out.ca; clear hu3 hb | go_at_call 51; (with_reducible refine (r2make_nat _ A2 m2 c2 A3 m3 c3 (ch N K) 1 HU2b.out HU3.out (by omega) (by omega) (by omega)).mono ?_); rintro e w4 ⟨q, rfl, ho, hb⟩; have HO4 := hide ho; have HF4 := hide (HF3.out.below hb); clear ho hb)
        generalize hW : World.alloc w4 _ = v5
        have hz4 := HF4.out.sz
        have HX5 := hide (show Fx v5 w4.heap.size q (some (ch N K : Rat)) by rw [← hW, ← mk_one]; exact Fx.mk0 HO4.out _ rfl)
        have HF5 := hide (show F1 w v5 a l k by rw [← hW]; exact HF4.out.below ((Below.refl _ _).alloc (Nat.le_refl _) _))
        have HA5 := hide (HFA.out.below HF5.out.bw)
        have hz5 := HX5.out.b.sz
        obtain ⟨j0, j1, jz, -⟩ := HF5.out.ca
        clear hW
        go_upto_region 10 with (go_at_call 53; (with_reducible refine (r2pow_ok _ a r K HA5.out hK65 f1).mono ?_); rintro e w6 ⟨x, rfl, ho, hb⟩; have HO6 := hide ho; have HF6 := hide (HF5.out.below hb); have HX6 := hide (HX5.out.below hb); clear ho hb)
        generalize hW : World.alloc w6 _ = v7
        have hz6 := HX6.out.b.sz
        have HX7 := hide (show Fx v7 w4.heap.size q (some (ch N K : Rat)) by rw [← hW]; exact HX6.out.alloc _)
        have HY7 := hide (show Fx v7 w6.heap.size x (some (r ^ K)) by rw [← hW]; exact Fx.mk0 HO6.out _ rfl)
        have HF7 := hide (show F1 w v7 a l k by rw [← hW]; exact HF6.out.below ((Below.refl _ _).alloc (Nat.le_refl _) _))
        have HA7 := hide (HFA.out.below HF7.out.bw)
        obtain ⟨k0, k1, kz, -⟩ := HF7.out.ca
        clear hW
        go_upto_region 11 with (first
          | (go_at_call 54; (with_reducible refine (rzrest_any _ a r HA7.out hc.h1 hc.fq).mono ?_); rintro e w8 ⟨y, rfl, ho, hb⟩; have HO8 := hide ho; have HF8 := hide (HF7.out.below hb); have HX8 := hide (HX7.out.below hb); have HY8 := hide (HY7.out.below hb); clear ho hb)
          | (go_at_call 53; (with_reducible refine (r2pow_ok _ y (1 - r) D HO8.out hD65 f2).mono ?_); rintro e w9 ⟨z, rfl, ho, hb⟩; have HO9 := hide ho; have HF9 := hide (HF8.out.below hb); have HX9 := hide (HX8.out.below hb); have HY9 := hide (HY8.out.below hb); clear ho hb))
        generalize hW : World.alloc w9 _ = v10
        have hz9 := HX9.out.b.sz
        have hz9y := HY9.out.b.sz
        have HX10 := hide (show Fx v10 w4.heap.size q (some (ch N K : Rat)) by rw [← hW]; exact HX9.out.alloc _)
        have HY10 := hide (show Fx v10 w6.heap.size x (some (r ^ K)) by rw [← hW]; exact HY9.out.alloc _)
        have HZ10 := hide (show Fx v10 w9.heap.size z (some ((1 - r) ^ D)) by rw [← hW]; exact Fx.mk0 HO9.out _ rfl)
        have HF10 := hide (show F1 w v10 a l k by rw [← hW]; exact HF9.out.below ((Below.refl _ _).alloc (Nat.le_refl _) _))
        obtain ⟨p0, p1, pf, pz, -⟩ := HX10.out.b
        obtain ⟨b0, b1, bf, bz, -⟩ := HY10.out.b
        clear hW
        go_upto_region 12 with (go_at_call 55; (with_reducible refine (r2mul_ok _ q x _ _ HX10.out.o HY10.out.o f3).mono ?_); rintro e w11 ⟨c11, rfl, ho, hb⟩; have HO11 := hide ho; have HF11 := hide (HF10.out.below hb); have HX11 := hide (HX10.out.below hb); have HZ11 := hide (HZ10.out.below hb); obtain ⟨d0, d1, df, dz, -⟩ := HX11.out.b; clear ho hb)
        generalize hW : World.setCell (World.setCell w11 _ _) _ _ = v12
        have HX12 := hide (show Fx v12 w4.heap.size c11 (some ((ch N K : Rat) * r ^ K)) by rw [← hW]; exact HX11.out.put HO11.out)
        have HZ12 := hide (show Fx v12 w9.heap.size z (some ((1 - r) ^ D)) by rw [← hW]; exact HZ11.out.one (fr_fill _ _) HX11.out.b.nb (by omega))
        have HF12 := hide (show F1 w v12 a l k by rw [← hW]; exact HF11.out.one (fr_fill _ _) HX11.out.b.nb (by omega))
        obtain ⟨h0, h1, hf, hz, -⟩ := HX12.out.b
        obtain ⟨o0, o1, of, oz, -⟩ := HZ12.out.b
        clear hW
        go_upto_region 13 with (go_at_call 55; (with_reducible refine (r2mul_ok _ c11 z _ _ HX12.out.o HZ12.out.o (by rw [HTM.out]; exact f4)).mono ?_); rintro e w13 ⟨c13, rfl, ho, hb⟩; rw [HTM.out] at ho; have HO13 := hide ho; have HF13 := hide (HF12.out.below hb); have HX13 := hide (HX12.out.below hb); obtain ⟨l0, l1, lf, lz, -⟩ := HX13.out.b; clear ho hb)
        generalize hW : World.setCell (World.setCell w13 _ _) _ _ = v14
        have HX14 := hide (show Fx v14 w4.heap.size c13 (some (tm r N K)) by rw [← hW]; exact HX13.out.put HO13.out)
        have HF14 := hide (show F1 w v14 a l k by rw [← hW]; exact HF13.out.one (fr_fill _ _) HX13.out.b.nb (by omega))
        obtain ⟨n0, n1, nf, nz, -⟩ := HX14.out.b
        obtain ⟨-, -, qz, u0, u1, uf⟩ := HF14.out.ca
        clear hW
        go_wp2_with fail
        refine bodyPost_ret (v := .tuple #[.agg #[.slice c13.A c13.n c13.c, .slice c13.B c13.m c13.d], .int .i64 0]) (by simp [results, Try.results18, go_sem, *]) rfl (HF14.out.end (by rw [HX.out]) (by rw [HX.out]; exact HX14.out.o))
  · have HX := hide (show totR (fracOf l k) n (fun j => decide ((j : Int) = m)) = (none, 41) by unfold totR; rw [if_neg hch])
    have HCH := hide (show chO (fracOf l k) = false by simpa using hch)
    clear hch
    go_enter Try.func18, Try.ntmps18
    go_upto_region 1 with (fail)
    generalize hW : World.alloc (World.alloc w _) _ = v
    have HF := hide (show F1 w v a (l) (k) by rw [← hW]; exact F1.mk0 hq _ _)
    obtain ⟨a0, a1, az, r0, r1, rf⟩ := HF.out.ca
    clear hW hq
    go_wp2_with ((go_at_call 35; (with_reducible refine (rzchance_any _ a l k HF.out.q).mono ?_); rintro e w1 ⟨rfl, hb⟩; rw [HCH.out]; have HF1 := hide (HF.out.below hb); obtain ⟨e0, e1, ez, s0, s1, sf⟩ := HF1.out.ca; clear hb))
    refine bodyPost_ret (v := .tuple #[.agg #[.slice none 0 0, .slice none 0 0], .int .i64 41]) (by simp [results, Try.results18, go_sem, *]) rfl (HF1.out.err HX.out)
end Go.Proofs.Ytclflfglhbkfkaa

/- Contracts: the reference's between, AtLeast, AtMost. -/
namespace Go.Proofs.Ytclflfglhbkfkaa
open Go.RowKit

theorem sm_stop {r : Rat} {N : Nat} {f : Nat → Bool} {k : Nat} (h : ∀ j, k ≤ j → j ≤ N → f j = false) : ∀ m, sm r N f (k + m) = sm r N f k
  | 0 => rfl
  | m + 1 => by
    show sm r N f (k + m) + (if f (k + m) = true then tm r N (k + m) else 0) = _
    have add0 : ∀ x : Rat, x + 0 = x := fun x => by grind
    rw [sm_stop h m]
    by_cases hN : k + m ≤ N
    · rw [h _ (by omega) hN, if_neg (by simp), add0]
    · rw [tm_over (show N < k + m by omega)]
      split <;> rw [add0]
theorem sm_start {r : Rat} {N : Nat} {f : Nat → Bool} : ∀ {k : Nat}, (∀ j, j < k → f j = false) → sm r N f k = 0
  | 0, _ => rfl
  | k + 1, h => by
    show sm r N f k + (if f k = true then tm r N k else 0) = _
    have add0 : ∀ x : Rat, x + 0 = x := fun x => by grind
    rw [sm_start (fun j hj => h j (by omega)), h k (by omega), if_neg (by simp), add0]
theorem sm_end {r : Rat} {N : Nat} {f : Nat → Bool} {k : Nat} (h : ∀ j, k ≤ j → j ≤ N → f j = false) : sm r N f k = tot r N f := by
  unfold tot
  rcases Nat.le_total k (N + 1) with h1 | h1
  · obtain ⟨d, hd⟩ := Nat.exists_eq_add_of_le h1
    rw [hd, sm_stop h]
  · obtain ⟨d, rfl⟩ := Nat.exists_eq_add_of_le h1
    rw [sm_stop (k := N + 1) (fun j h2 h3 => by omega)]
def btw (lo hi : Int) (j : Nat) : Bool := decide (lo ≤ (j : Int)) && decide ((j : Int) ≤ hi)
theorem rzexactly_ok (w : World) (a : Fa) (r : Rat) (N K : Nat) (ha : Fo w a (some r)) (hc : Chn r) (hN : N ≤ 32) (hK : K ≤ N) : Calls Try.prog 18 #[.agg #[.slice a.A a.n a.c, .slice a.B a.m a.d], .int .i64 (N : Int), .int .i64 (K : Int)] w fun e w' => RetV w (tm r N K) e w' :=
  (rzexactly_any w a _ _ (N : Int) (K : Int) ha.1).mono fun e w' h => Ret.ok (by
    rw [fracOf_self ha.2, totR_ok hc hN, tot_one r N K hK]) h
set_option maxRecDepth 100000 in
set_option maxHeartbeats 8000000 in
theorem rzbetween_any (w : World) (a : Fa) (l k : List Nat) (n lo hi : Int) (hq : Fq w a l k) (hlo63 : lo < 9223372036854775808) :
    Calls Try.prog 56 #[.agg #[.slice a.A a.n a.c, .slice a.B a.m a.d], .int .i64 n, .int .i64 lo, .int .i64 hi] w fun e w' => Ret w (totR (fracOf l k) n (btw lo hi)) e w' := by
  by_cases hch : chO (fracOf l k) = true
  · by_cases hn : n < 0 ∨ 32 < n
    · have HX := hide (show totR (fracOf l k) n (btw lo hi) = (none, 3) by unfold totR; rw [if_pos hch, if_pos hn])
      have HCH := hide hch
      by_cases hn0 : n < 0
      · clear hch hn
        go_enter Try.func56, Try.ntmps56
        go_upto_region 1 with (fail)
        generalize hW : World.alloc (World.alloc w _) _ = v
        have HF := hide (show F1 w v a (l) (k) by rw [← hW]; exact F1.mk0 hq _ _)
        obtain ⟨a0, a1, az, r0, r1, rf⟩ := HF.out.ca
        clear hW hq
        go_wp2_with ((go_at_call 35; (with_reducible refine (rzchance_any _ a l k HF.out.q).mono ?_); rintro e w1 ⟨rfl, hb⟩; rw [HCH.out]; have HF1 := hide (HF.out.below hb); obtain ⟨e0, e1, ez, s0, s1, sf⟩ := HF1.out.ca; clear hb))
        refine bodyPost_ret (v := .tuple #[.agg #[.slice none 0 0, .slice none 0 0], .int .i64 3]) (by simp [results, Try.results56, go_sem, *]) rfl (HF1.out.err HX.out)
      · have hn32 : decide ((32 : Int) < n) = true := decide_eq_true (by omega)
        clear hch hn
        go_enter Try.func56, Try.ntmps56
        go_upto_region 1 with (fail)
        generalize hW : World.alloc (World.alloc w _) _ = v
        have HF := hide (show F1 w v a (l) (k) by rw [← hW]; exact F1.mk0 hq _ _)
        obtain ⟨a0, a1, az, r0, r1, rf⟩ := HF.out.ca
        clear hW hq
        go_wp2_with ((go_at_call 35; (with_reducible refine (rzchance_any _ a l k HF.out.q).mono ?_); rintro e w1 ⟨rfl, hb⟩; rw [HCH.out]; have HF1 := hide (HF.out.below hb); obtain ⟨e0, e1, ez, s0, s1, sf⟩ := HF1.out.ca; clear hb))
        refine bodyPost_ret (v := .tuple #[.agg #[.slice none 0 0, .slice none 0 0], .int .i64 3]) (by simp [results, Try.results56, go_sem, *]) rfl (HF1.out.err HX.out)
    · obtain ⟨N, rfl⟩ : ∃ N : Nat, n = N := ⟨n.toNat, by omega⟩
      have HN := hide (show N ≤ 32 by omega)
      rcases hA : fracOf l k with _ | r
      · rw [hA] at hch; exact absurd hch (by simp [chO])
      have hA2 := fracOf_some hA
      have hc : Chn r := chO_chn rfl hA2.2.2.1 (by rw [← hA]; exact hch)
      have HCH := hide hch
      have HXX := hide (show totR (some r) (N : Int) (btw lo hi) = (some (tot r N (btw lo hi)), 0) by rw [totR_ok hc HN.out])
      have HFA := hide (show Fo w a (some r) from ⟨by have h := hq; rw [hA2.1, hA2.2.1] at h; exact h, hA2.2.2⟩)
      have dn0 : decide ((N : Int) < 0) = false := decide_eq_false (by omega)
      have dn1 : decide ((32 : Int) < (N : Int)) = false := decide_eq_false (by omega)
      have dn2 : decide (32 < N) = false := decide_eq_false (by omega)
      clear hn hch hA2
      go_enter Try.func56, Try.ntmps56
      go_upto_region 1 with (fail)
      generalize hW : World.alloc (World.alloc w _) _ = v
      have HF := hide (show F1 w v a (l) (k) by rw [← hW]; exact F1.mk0 hq _ _)
      obtain ⟨a0, a1, az, r0, r1, rf⟩ := HF.out.ca
      clear hW hq
      go_upto_region 6 with (first | (go_at_call 35; (with_reducible refine (rzchance_any _ a l k HF.out.q).mono ?_); rintro e w1 ⟨rfl, hb⟩; rw [HCH.out]; have HF1 := hide (HF.out.below hb); obtain ⟨e0, e1, ez, s0, s1, sf⟩ := HF1.out.ca; clear hb) | go_at_call 50; (with_reducible refine (rzof_zero _).mono ?_); rintro e w3 ⟨q, rfl, ho, hb⟩; have HO := hide ho; have HF3 := hide (HF1.out.below hb); clear ho hb)
      generalize hW : World.alloc w3 _ = v5
      have HX5 := hide (show Fx v5 w3.heap.size q (some 0) by rw [← hW]; exact Fx.mk0 HO.out _ rfl)
      have HF5 := hide (show F1 w v5 a l k by rw [← hW]; exact HF3.out.below ((Below.refl _ _).alloc (Nat.le_refl _) _))
      have hz3 := HF3.out.sz
      obtain ⟨b10, hb10⟩ : ∃ b, b = w3.heap.size := ⟨_, rfl⟩
      rw [← hb10] at HX5 hz3 ⊢
      clear hW hb10
      by_cases h0 : ¬ 0 < lo
      · go_upto_region 7 with (fail)
        go_loopw [11, 12, 13] (fun kv xv ev wr => ∃ (K : Nat) (c : Fa), kv = .int .i64 (K : Int) ∧ K < 9223372036854775808 ∧ lo ≤ (K : Int) ∧ Hid (Fx wr b10 c (some (sm r N (btw lo hi) K))) ∧ Hid (F1 w wr a l k)) (fun kv _ _ _ => N + 1 - (intOf kv).toNat)
        case atStart => exact ⟨0, q, rfl, by omega, by omega, hide (by rw [sm_start (fun j hj => by omega)]; exact HX5.out), HF5⟩
        case round =>
          obtain ⟨K, c, rfl, hK63, hlo, HX, HF⟩ := hrel
          clear HX5 HF5
          obtain ⟨d0, d1, df, dz, -⟩ := HX.out.b
          obtain ⟨e0, e1, ez, s0, s1, sf⟩ := HF.out.ca
          have HA := hide (HFA.out.below HF.out.bw)
          by_cases hgo : (K : Int) ≤ (N : Int) ∧ (K : Int) ≤ hi
          · obtain ⟨hgo1, hgo2⟩ := hgo
            have hKN : K ≤ N := by omega
            have hK33 : K ≤ 32 := by have := HN.out; omega
            have HB := hide (show sm r N (btw lo hi) K + tm r N K = sm r N (btw lo hi) (K + 1) by
              show _ = sm r N (btw lo hi) K + (if btw lo hi K = true then tm r N K else 0)
              rw [if_pos (by simp [btw, hlo, hgo2])])
            have HS := hide (show fitsR (sm r N (btw lo hi) K + tm r N K) = true by rw [HB.out]; exact hc.fsm HN.out (btw lo hi) (m := K + 1) (by omega))
            by_cases hmin : hi < (N : Int)
            · (go_upto_region 10 with (go_at_call 18; (with_reducible refine (rzexactly_ok _ a r N K HA.out hc HN.out hKN).mono ?_); rintro e w6 ⟨x, rfl, ho, hb⟩; have HO6 := hide ho; have HF6 := hide (HF.out.below hb); have HX6 := hide (HX.out.below hb); clear ho hb); generalize hW : World.alloc w6 _ = v7; have HX7 := hide (show Fx v7 b10 c (some (sm r N (btw lo hi) K)) by rw [← hW]; exact HX6.out.alloc _); have HY7 := hide (show Fo v7 x (some (tm r N K)) by rw [← hW]; exact HO6.out.alloc _); have HF7 := hide (show F1 w v7 a l k by rw [← hW]; exact HF6.out.below ((Below.refl _ _).alloc (Nat.le_refl _) _)); have hy7 := hide (show Bq v7 w6.heap.size x by rw [← hW]; exact Bq.mk0 _ x rfl); obtain ⟨f0, f1, ff, fz, -⟩ := HX7.out.b; obtain ⟨h0, h1, hf, hz, -⟩ := hy7.out; clear hW; go_wp2_with (go_at_call 85; (with_reducible refine (r2add_ok _ c x (sm r N (btw lo hi) K) (tm r N K) HX7.out.o HY7.out HS.out).mono ?_); rintro e w11 ⟨c11, rfl, ho, hb⟩; rw [HB.out] at ho; have HO11 := hide ho; have HF11 := hide (HF7.out.below hb); have HX11 := hide (HX7.out.below hb); obtain ⟨g0, g1, gf, gz, -⟩ := HX11.out.b; clear ho hb); exact ⟨⟨K + 1, c11, by go_num, by omega, by omega, hide (HX11.out.put HO11.out), hide (HF11.out.one (fr_fill _ _) HX11.out.b.nb (by omega))⟩, by simp [intOf] <;> omega⟩)
            · (go_upto_region 10 with (go_at_call 18; (with_reducible refine (rzexactly_ok _ a r N K HA.out hc HN.out hKN).mono ?_); rintro e w6 ⟨x, rfl, ho, hb⟩; have HO6 := hide ho; have HF6 := hide (HF.out.below hb); have HX6 := hide (HX.out.below hb); clear ho hb); generalize hW : World.alloc w6 _ = v7; have HX7 := hide (show Fx v7 b10 c (some (sm r N (btw lo hi) K)) by rw [← hW]; exact HX6.out.alloc _); have HY7 := hide (show Fo v7 x (some (tm r N K)) by rw [← hW]; exact HO6.out.alloc _); have HF7 := hide (show F1 w v7 a l k by rw [← hW]; exact HF6.out.below ((Below.refl _ _).alloc (Nat.le_refl _) _)); have hy7 := hide (show Bq v7 w6.heap.size x by rw [← hW]; exact Bq.mk0 _ x rfl); obtain ⟨f0, f1, ff, fz, -⟩ := HX7.out.b; obtain ⟨h0, h1, hf, hz, -⟩ := hy7.out; clear hW; go_wp2_with (go_at_call 85; (with_reducible refine (r2add_ok _ c x (sm r N (btw lo hi) K) (tm r N K) HX7.out.o HY7.out HS.out).mono ?_); rintro e w11 ⟨c11, rfl, ho, hb⟩; rw [HB.out] at ho; have HO11 := hide ho; have HF11 := hide (HF7.out.below hb); have HX11 := hide (HX7.out.below hb); obtain ⟨g0, g1, gf, gz, -⟩ := HX11.out.b; clear ho hb); exact ⟨⟨K + 1, c11, by go_num, by omega, by omega, hide (HX11.out.put HO11.out), hide (HF11.out.one (fr_fill _ _) HX11.out.b.nb (by omega))⟩, by simp [intOf] <;> omega⟩)
          · have HE := hide (show sm r N (btw lo hi) K = tot r N (btw lo hi) from sm_end (fun j h1 h2 => by simp [btw]; omega))
            rw [HE.out] at HX
            by_cases hmin : hi < (N : Int)
            · have hgo1 : ¬ (K : Int) ≤ hi := by omega
              go_wp2_with fail
              refine bodyPost_ret (v := .tuple #[.agg #[.slice c.A c.n c.c, .slice c.B c.m c.d], .int .i64 0]) (by simp [results, Try.results56, go_sem, *]) rfl (HF.out.end (by rw [HXX.out]) (by rw [HXX.out]; exact HX.out.o))
            · have hgo1 : ¬ (K : Int) ≤ (N : Int) := by omega
              go_wp2_with fail
              refine bodyPost_ret (v := .tuple #[.agg #[.slice c.A c.n c.c, .slice c.B c.m c.d], .int .i64 0]) (by simp [results, Try.results56, go_sem, *]) rfl (HF.out.end (by rw [HXX.out]) (by rw [HXX.out]; exact HX.out.o))
      · obtain ⟨L0, hL⟩ : ∃ L : Nat, lo = L := ⟨lo.toNat, by omega⟩
        have HLO := hide hL
        clear hL
        go_upto_region 7 with (fail)
        go_loopw [11, 12, 13] (fun kv xv ev wr => ∃ (K : Nat) (c : Fa), kv = .int .i64 (K : Int) ∧ K < 9223372036854775808 ∧ lo ≤ (K : Int) ∧ Hid (Fx wr b10 c (some (sm r N (btw lo hi) K))) ∧ Hid (F1 w wr a l k)) (fun kv _ _ _ => N + 1 - (intOf kv).toNat)
        case atStart => exact ⟨L0, q, by rw [HLO.out], by have := HLO.out; omega, by rw [HLO.out]; omega, hide (by rw [sm_start (fun j hj => by have := HLO.out; simp [btw]; omega)]; exact HX5.out), HF5⟩
        case round =>
          obtain ⟨K, c, rfl, hK63, hlo, HX, HF⟩ := hrel
          clear HX5 HF5
          obtain ⟨d0, d1, df, dz, -⟩ := HX.out.b
          obtain ⟨e0, e1, ez, s0, s1, sf⟩ := HF.out.ca
          have HA := hide (HFA.out.below HF.out.bw)
          by_cases hgo : (K : Int) ≤ (N : Int) ∧ (K : Int) ≤ hi
          · obtain ⟨hgo1, hgo2⟩ := hgo
            have hKN : K ≤ N := by omega
            have hK33 : K ≤ 32 := by have := HN.out; omega
            have HB := hide (show sm r N (btw lo hi) K + tm r N K = sm r N (btw lo hi) (K + 1) by
              show _ = sm r N (btw lo hi) K + (if btw lo hi K = true then tm r N K else 0)
              rw [if_pos (by simp [btw, hlo, hgo2])])
            have HS := hide (show fitsR (sm r N (btw lo hi) K + tm r N K) = true by rw [HB.out]; exact hc.fsm HN.out (btw lo hi) (m := K + 1) (by omega))
            by_cases hmin : hi < (N : Int)
            · (go_upto_region 10 with (go_at_call 18; (with_reducible refine (rzexactly_ok _ a r N K HA.out hc HN.out hKN).mono ?_); rintro e w6 ⟨x, rfl, ho, hb⟩; have HO6 := hide ho; have HF6 := hide (HF.out.below hb); have HX6 := hide (HX.out.below hb); clear ho hb); generalize hW : World.alloc w6 _ = v7; have HX7 := hide (show Fx v7 b10 c (some (sm r N (btw lo hi) K)) by rw [← hW]; exact HX6.out.alloc _); have HY7 := hide (show Fo v7 x (some (tm r N K)) by rw [← hW]; exact HO6.out.alloc _); have HF7 := hide (show F1 w v7 a l k by rw [← hW]; exact HF6.out.below ((Below.refl _ _).alloc (Nat.le_refl _) _)); have hy7 := hide (show Bq v7 w6.heap.size x by rw [← hW]; exact Bq.mk0 _ x rfl); obtain ⟨f0, f1, ff, fz, -⟩ := HX7.out.b; obtain ⟨h0, h1, hf, hz, -⟩ := hy7.out; clear hW; go_wp2_with (go_at_call 85; (with_reducible refine (r2add_ok _ c x (sm r N (btw lo hi) K) (tm r N K) HX7.out.o HY7.out HS.out).mono ?_); rintro e w11 ⟨c11, rfl, ho, hb⟩; rw [HB.out] at ho; have HO11 := hide ho; have HF11 := hide (HF7.out.below hb); have HX11 := hide (HX7.out.below hb); obtain ⟨g0, g1, gf, gz, -⟩ := HX11.out.b; clear ho hb); exact ⟨⟨K + 1, c11, by go_num, by omega, by omega, hide (HX11.out.put HO11.out), hide (HF11.out.one (fr_fill _ _) HX11.out.b.nb (by omega))⟩, by simp [intOf] <;> omega⟩)
            · (go_upto_region 10 with (go_at_call 18; (with_reducible refine (rzexactly_ok _ a r N K HA.out hc HN.out hKN).mono ?_); rintro e w6 ⟨x, rfl, ho, hb⟩; have HO6 := hide ho; have HF6 := hide (HF.out.below hb); have HX6 := hide (HX.out.below hb); clear ho hb); generalize hW : World.alloc w6 _ = v7; have HX7 := hide (show Fx v7 b10 c (some (sm r N (btw lo hi) K)) by rw [← hW]; exact HX6.out.alloc _); have HY7 := hide (show Fo v7 x (some (tm r N K)) by rw [← hW]; exact HO6.out.alloc _); have HF7 := hide (show F1 w v7 a l k by rw [← hW]; exact HF6.out.below ((Below.refl _ _).alloc (Nat.le_refl _) _)); have hy7 := hide (show Bq v7 w6.heap.size x by rw [← hW]; exact Bq.mk0 _ x rfl); obtain ⟨f0, f1, ff, fz, -⟩ := HX7.out.b; obtain ⟨h0, h1, hf, hz, -⟩ := hy7.out; clear hW; go_wp2_with (go_at_call 85; (with_reducible refine (r2add_ok _ c x (sm r N (btw lo hi) K) (tm r N K) HX7.out.o HY7.out HS.out).mono ?_); rintro e w11 ⟨c11, rfl, ho, hb⟩; rw [HB.out] at ho; have HO11 := hide ho; have HF11 := hide (HF7.out.below hb); have HX11 := hide (HX7.out.below hb); obtain ⟨g0, g1, gf, gz, -⟩ := HX11.out.b; clear ho hb); exact ⟨⟨K + 1, c11, by go_num, by omega, by omega, hide (HX11.out.put HO11.out), hide (HF11.out.one (fr_fill _ _) HX11.out.b.nb (by omega))⟩, by simp [intOf] <;> omega⟩)
          · have HE := hide (show sm r N (btw lo hi) K = tot r N (btw lo hi) from sm_end (fun j h1 h2 => by simp [btw]; omega))
            rw [HE.out] at HX
            by_cases hmin : hi < (N : Int)
            · have hgo1 : ¬ (K : Int) ≤ hi := by omega
              go_wp2_with fail
              refine bodyPost_ret (v := .tuple #[.agg #[.slice c.A c.n c.c, .slice c.B c.m c.d], .int .i64 0]) (by simp [results, Try.results56, go_sem, *]) rfl (HF.out.end (by rw [HXX.out]) (by rw [HXX.out]; exact HX.out.o))
            · have hgo1 : ¬ (K : Int) ≤ (N : Int) := by omega
              go_wp2_with fail
              refine bodyPost_ret (v := .tuple #[.agg #[.slice c.A c.n c.c, .slice c.B c.m c.d], .int .i64 0]) (by simp [results, Try.results56, go_sem, *]) rfl (HF.out.end (by rw [HXX.out]) (by rw [HXX.out]; exact HX.out.o))
  · have HX := hide (show totR (fracOf l k) n (btw lo hi) = (none, 41) by unfold totR; rw [if_neg hch])
    have HCH := hide (show chO (fracOf l k) = false by simpa using hch)
    clear hch
    go_enter Try.func56, Try.ntmps56
    go_upto_region 1 with (fail)
    generalize hW : World.alloc (World.alloc w _) _ = v
    have HF := hide (show F1 w v a (l) (k) by rw [← hW]; exact F1.mk0 hq _ _)
    obtain ⟨a0, a1, az, r0, r1, rf⟩ := HF.out.ca
    clear hW hq
    go_wp2_with ((go_at_call 35; (with_reducible refine (rzchance_any _ a l k HF.out.q).mono ?_); rintro e w1 ⟨rfl, hb⟩; rw [HCH.out]; have HF1 := hide (HF.out.below hb); obtain ⟨e0, e1, ez, s0, s1, sf⟩ := HF1.out.ca; clear hb))
    refine bodyPost_ret (v := .tuple #[.agg #[.slice none 0 0, .slice none 0 0], .int .i64 41]) (by simp [results, Try.results56, go_sem, *]) rfl (HF1.out.err HX.out)
end Go.Proofs.Ytclflfglhbkfkaa
