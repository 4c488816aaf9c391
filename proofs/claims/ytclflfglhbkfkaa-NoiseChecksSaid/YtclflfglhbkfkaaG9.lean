/- Contracts of the functions that these laws reach: part 9: Contracts: noise.Chance; Contracts: fraction.Pow; Contracts: noise.row. -/
import Derived.Test.YtclflfglhbkfkaaG8
import Derived.Deep.MidRow
set_option linter.unusedVariables false
set_option linter.unusedSimpArgs false

/- Contracts: noise.Chance. -/
namespace Go.Proofs.Ytclflfglhbkfkaa
open Go.RowKit

/-- A chance: at most 1, with a denominator of at most 1000. -/
def chO : Option Rat → Bool
  | some r => decide (r ≤ 1) && decide (r.den ≤ 1000)
  | none => false
theorem nof1000 (w : World) : Calls Try.prog 61 #[.int .u64 1000] w fun e w' => ∃ A m c, e = .returned (.slice A m c) ∧ m ≤ c ∧ m ≤ 2 ∧ Ul w' none A m (lm 1000) ∧ Below w.heap.size w w' := nof_any w 1000 (by omega)
set_option maxRecDepth 100000 in
set_option maxHeartbeats 8000000 in
theorem chance_any (w : World) (a : Fa) (l k : List Nat) (hq : Fq w a l k) :
    Calls Try.prog 34 #[.agg #[.slice a.A a.n a.c, .slice a.B a.m a.d]] w fun e w' => e = .returned (.bool (chO (fracOf l k))) ∧ Below w.heap.size w w' := by
  have hn := hq.n
  have hm := hq.m
  rcases hA : fracOf l k with _ | r
  · have HA := hide hA
    clear hA
    go_enter Try.func34, Try.ntmps34
    go_upto_region 1 with (fail)
    generalize hW : World.alloc w _ = v
    have HBV := hide (show Below w.heap.size w v by rw [← hW]; exact (Below.refl _ _).alloc (Nat.le_refl _) _)
    have HQ := hide (show Fq v a l k by rw [← hW]; exact hq.alloc _)
    have a0 : v.cell? ⟨w.heap.size, 0, none⟩ = some (.slice a.A a.n a.c) := by rw [← hW]; clear hW; go_simp
    have a1 : v.cell? ⟨w.heap.size, 1, none⟩ = some (.slice a.B a.m a.d) := by rw [← hW]; clear hW; go_simp
    have rz : w.heap.size < v.heap.size := by rw [← hW]; simp
    clear hW hq
    go_cut [2] from 2 to 18 (fun s2 wx => s2 = .bool false ∧ Hid (Below v.heap.size v wx))
    case first =>
      first | (go_region_with (first | (go_at_call 46; (with_reducible refine (fcheck_any _ a l k (by first | exact HQ.out | exact HQ.out.drew)).mono ?_); rintro e w1 ⟨he, hb⟩; rw [HA.out] at he; subst he; have hb' : Below v.heap.size v w1 := (by first | exact hb | exact Below.of_drew hb); have HB1 := hide hb'; have e0 := (hb'.cell (p := ⟨w.heap.size, 0, none⟩) (by simp; omega)).trans a0; have e1 := (hb'.cell (p := ⟨w.heap.size, 1, none⟩) (by simp; omega)).trans a1; clear hb hb'))) | fail
      all_goals
        go_wp2_with fail
        go_meet
        case rel => exact ⟨rfl, HB1⟩
    case rest =>
      obtain ⟨rfl, HB1⟩ := hcut
      go_wp2_with fail
      refine bodyPost_ret (v := .bool false) (by simp [results, Try.results34, go_sem, *]) rfl ⟨rfl, HBV.out.trans (HB1.out.mono HBV.out.size)⟩
  · have HA := hide hA
    have HQo0 : Fo w a (some r) := ⟨by have h := fracOf_some hA; rw [h.1, h.2.1] at hq; exact hq, (fracOf_some hA).2.2⟩
    have hm128 := HQo0.small.2
    have HN := hide (show (if natB k && natB (lm 1000) then cmpN (lv k) (lv (lm 1000)) else 0) = cmpN r.den 1000 by
      obtain ⟨h1, h2, h3, h4⟩ := fracOf_some hA
      have h5 : natB k = true := by
        rw [h2, natB_lm]
        simp only [fitsR, Bool.and_eq_true, decide_eq_true_eq] at h4
        simp [h4.2]
      rw [h5, natB64 (by omega), if_pos (by rfl), h2, lv_lm, lv_lm])
    have HCX := hide (show cmpO (some r) (some 1) = cmpQ r 1 from rfl)
    clear hA
    by_cases h1 : r ≤ 1
    · have d1 : decide (cmpQ r 1 ≤ 0) = true := decide_eq_true (cmpQ_le.2 h1)
      have HE := hide (show chO (some r) = decide (cmpN r.den 1000 ≤ 0) by
        show (decide (r ≤ 1) && _) = _
        rw [decide_eq_true h1, Bool.true_and]
        exact decide_eq_decide.2 cmpN_le.symm)
      clear h1
      go_enter Try.func34, Try.ntmps34
      go_upto_region 1 with (fail)
      generalize hW : World.alloc w _ = v
      have HBV := hide (show Below w.heap.size w v by rw [← hW]; exact (Below.refl _ _).alloc (Nat.le_refl _) _)
      have HQ := hide (show Fq v a l k by rw [← hW]; exact hq.alloc _)
      have a0 : v.cell? ⟨w.heap.size, 0, none⟩ = some (.slice a.A a.n a.c) := by rw [← hW]; clear hW; go_simp
      have a1 : v.cell? ⟨w.heap.size, 1, none⟩ = some (.slice a.B a.m a.d) := by rw [← hW]; clear hW; go_simp
      have rz : w.heap.size < v.heap.size := by rw [← hW]; simp
      clear hW hq
      have HQo := hide (show Fo v a (some r) from HQo0.below HBV.out)
      clear HQo0
      go_region_held3 (fun W => W.cell? ⟨w.heap.size, 0, none⟩ = some (.slice a.A a.n a.c) ∧ W.cell? ⟨w.heap.size, 1, none⟩ = some (.slice a.B a.m a.d)) (first | exact ⟨a0, a1⟩ | exact ⟨e0, e1⟩ | exact ⟨g0, g1⟩ | exact ⟨i0, i1⟩ | exact ⟨j0, j1⟩ | exact ⟨k0, k1⟩) (first | (go_at_call 46; (with_reducible refine (fcheck_any _ a l k (by first | exact HQ.out | exact HQ.out.drew)).mono ?_); rintro e w1 ⟨he, hb⟩; rw [HA.out] at he; subst he; have hb' : Below v.heap.size v w1 := (by first | exact hb | exact Below.of_drew hb); have HB1 := hide hb'; have e0 := (hb'.cell (p := ⟨w.heap.size, 0, none⟩) (by simp; omega)).trans a0; have e1 := (hb'.cell (p := ⟨w.heap.size, 1, none⟩) (by simp; omega)).trans a1; clear hb hb') | (go_at_call 64; (with_reducible refine (whole1_any _).mono ?_); rintro e w2 ⟨c1, rfl, ho, hb⟩; have HO1 := hide ho; have hb' : Below w1.heap.size w1 w2 := hb; have HB2 := hide (HB1.out.trans (hb'.mono HB1.out.size)); have g0 := (HB2.out.cell (p := ⟨w.heap.size, 0, none⟩) (by simp; omega)).trans a0; have g1 := (HB2.out.cell (p := ⟨w.heap.size, 1, none⟩) (by simp; omega)).trans a1; clear ho hb hb') | (go_at_call 14; (with_reducible refine (fcmp_o _ a c1 (some r) (some 1) (HQo.out.below HB2.out) HO1.out).mono ?_); rintro e w3 ⟨he, hb⟩; rw [HCX.out] at he; subst he; have HB3 := hide (HB2.out.trans (hb.mono HB2.out.size)); have i0 := (HB3.out.cell (p := ⟨w.heap.size, 0, none⟩) (by simp; omega)).trans a0; have i1 := (HB3.out.cell (p := ⟨w.heap.size, 1, none⟩) (by simp; omega)).trans a1; clear hb) | (go_at_call 61; (with_reducible refine (nof1000 _).mono ?_); rintro e w4 ⟨A4, m4, c4, rfl, h4, h42, hu, hb⟩; have HU4 := hide hu; have HB4 := hide (HB3.out.trans (hb.mono HB3.out.size)); have j0 := (HB4.out.cell (p := ⟨w.heap.size, 0, none⟩) (by simp; omega)).trans a0; have j1 := (HB4.out.cell (p := ⟨w.heap.size, 1, none⟩) (by simp; omega)).trans a1; clear hu hb) | (go_at_call 66; (with_reducible refine (ncmp_any _ none none a.B a.m a.d A4 m4 c4 _ _ (HQ.out.below HB4.out).v HU4.out (by omega) (by omega)).mono ?_); rintro e w5 ⟨rfl, hb⟩; rw [HN.out]; have HB5 := hide (HB4.out.trans (hb.mono HB4.out.size)); have k0 := (HB5.out.cell (p := ⟨w.heap.size, 0, none⟩) (by simp; omega)).trans a0; have k1 := (HB5.out.cell (p := ⟨w.heap.size, 1, none⟩) (by simp; omega)).trans a1; clear hb))
      go_wp2_with fail
      refine bodyPost_ret (v := .bool (decide (cmpN r.den 1000 ≤ 0))) (by simp [results, Try.results34, go_sem, *]) rfl ⟨by rw [HE.out], HBV.out.trans (HB5.out.mono HBV.out.size)⟩
    · have d1 : decide (cmpQ r 1 ≤ 0) = false := decide_eq_false (fun h => h1 (cmpQ_le.1 h))
      have HE := hide (show chO (some r) = false by
        show (decide (r ≤ 1) && _) = _
        rw [decide_eq_false h1, Bool.false_and])
      clear h1
      go_enter Try.func34, Try.ntmps34
      go_upto_region 1 with (fail)
      generalize hW : World.alloc w _ = v
      have HBV := hide (show Below w.heap.size w v by rw [← hW]; exact (Below.refl _ _).alloc (Nat.le_refl _) _)
      have HQ := hide (show Fq v a l k by rw [← hW]; exact hq.alloc _)
      have a0 : v.cell? ⟨w.heap.size, 0, none⟩ = some (.slice a.A a.n a.c) := by rw [← hW]; clear hW; go_simp
      have a1 : v.cell? ⟨w.heap.size, 1, none⟩ = some (.slice a.B a.m a.d) := by rw [← hW]; clear hW; go_simp
      have rz : w.heap.size < v.heap.size := by rw [← hW]; simp
      clear hW hq
      have HQo := hide (show Fo v a (some r) from HQo0.below HBV.out)
      clear HQo0
      go_cut [2] from 2 to 18 (fun s2 wx => s2 = .bool false ∧ Hid (Below v.heap.size v wx))
      case first =>
        first | (go_region_with (first | (go_at_call 46; (with_reducible refine (fcheck_any _ a l k (by first | exact HQ.out | exact HQ.out.drew)).mono ?_); rintro e w1 ⟨he, hb⟩; rw [HA.out] at he; subst he; have hb' : Below v.heap.size v w1 := (by first | exact hb | exact Below.of_drew hb); have HB1 := hide hb'; have e0 := (hb'.cell (p := ⟨w.heap.size, 0, none⟩) (by simp; omega)).trans a0; have e1 := (hb'.cell (p := ⟨w.heap.size, 1, none⟩) (by simp; omega)).trans a1; clear hb hb') | (go_at_call 64; (with_reducible refine (whole1_any _).mono ?_); rintro e w2 ⟨c1, rfl, ho, hb⟩; have HO1 := hide ho; have hb' : Below w1.heap.size w1 w2 := hb; have HB2 := hide (HB1.out.trans (hb'.mono HB1.out.size)); have g0 := (HB2.out.cell (p := ⟨w.heap.size, 0, none⟩) (by simp; omega)).trans a0; have g1 := (HB2.out.cell (p := ⟨w.heap.size, 1, none⟩) (by simp; omega)).trans a1; clear ho hb hb') | (go_at_call 14; (with_reducible refine (fcmp_o _ a c1 (some r) (some 1) (HQo.out.below HB2.out) HO1.out).mono ?_); rintro e w3 ⟨he, hb⟩; rw [HCX.out] at he; subst he; have HB3 := hide (HB2.out.trans (hb.mono HB2.out.size)); have i0 := (HB3.out.cell (p := ⟨w.heap.size, 0, none⟩) (by simp; omega)).trans a0; have i1 := (HB3.out.cell (p := ⟨w.heap.size, 1, none⟩) (by simp; omega)).trans a1; clear hb))) | fail
        all_goals
          go_wp2_with fail
          go_meet
          case rel => exact ⟨rfl, HB3⟩
      case rest =>
        obtain ⟨rfl, HB3⟩ := hcut
        go_wp2_with fail
        refine bodyPost_ret (v := .bool false) (by simp [results, Try.results34, go_sem, *]) rfl ⟨by rw [HE.out], HBV.out.trans (HB3.out.mono HBV.out.size)⟩
end Go.Proofs.Ytclflfglhbkfkaa

/- Contracts: fraction.Pow. -/
namespace Go.Proofs.Ytclflfglhbkfkaa
open Go.RowKit

/-- One operand's box at the world's end, the result's box behind it. -/
structure F1 (w0 v : World) (a : Fa) (l k : List Nat) : Prop where
  bw : Below w0.heap.size w0 v
  c0 : v.cell? ⟨w0.heap.size, 0, none⟩ = some (.slice a.A a.n a.c)
  c1 : v.cell? ⟨w0.heap.size, 1, none⟩ = some (.slice a.B a.m a.d)
  sz : w0.heap.size + 1 < v.heap.size
  q : Fq v a l k
  rb : Rb v (w0.heap.size + 1)
theorem F1.below {w0 v v' : World} {a : Fa} {l k : List Nat} (h : F1 w0 v a l k) (hb : Below v.heap.size v v') : F1 w0 v' a l k := by
  have h1 := h.sz
  refine ⟨h.bw.trans (hb.mono h.bw.size), ?_, ?_, Nat.lt_of_lt_of_le h.sz hb.size, h.q.below hb, h.rb.below hb⟩
  · rw [hb.cell (by simp; omega)]; exact h.c0
  · rw [hb.cell (by simp; omega)]; exact h.c1
theorem F1.mk0 {w0 : World} {a : Fa} {l k : List Nat} (h : Fq w0 a l k) (t t' : TypeId) : F1 w0 ((w0.alloc (.cells #[.slice a.A a.n a.c, .slice a.B a.m a.d] t)).alloc (.cells #[.slice none 0 0, .slice none 0 0] t')) a l k :=
  ⟨((Below.refl _ _).alloc (Nat.le_refl _) _).alloc (by simp) _, by simp [go_sem], by simp [go_sem], by simp, (h.alloc _).alloc _, Rb.mk0 _ (by simp)⟩
theorem F1.ca {w0 v : World} {a : Fa} {l k : List Nat} (h : F1 w0 v a l k) : v.cell? ⟨w0.heap.size, 0, none⟩ = some (.slice a.A a.n a.c) ∧ v.cell? ⟨w0.heap.size, 1, none⟩ = some (.slice a.B a.m a.d) ∧ w0.heap.size + 1 < v.heap.size ∧
  v.cell? ⟨w0.heap.size + 1, 0, none⟩ = some (.slice none 0 0) ∧ v.cell? ⟨w0.heap.size + 1, 1, none⟩ = some (.slice none 0 0) ∧ (∀ j, v.frozen? ⟨w0.heap.size + 1, j, none⟩ = false) := ⟨h.c0, h.c1, h.sz, h.rb.c0, h.rb.c1, h.rb.fz⟩
theorem F1.end {w0 v : World} {a : Fa} {l k : List Nat} (h : F1 w0 v a l k) {c : Fa} {x : Option Rat × Int} {er : Int} (h1 : er = x.2) (h2 : Fo v c x.1) :
    Ret w0 x (.returned (.tuple #[.agg #[.slice c.A c.n c.c, .slice c.B c.m c.d], .int .i64 er])) ((v.setCell ⟨w0.heap.size + 1, 0, none⟩ (.slice c.A c.n c.c)).setCell ⟨w0.heap.size + 1, 1, none⟩ (.slice c.B c.m c.d)) := Ret.mk0 h1 h2 h.rb h.bw (by omega)
theorem F1.err {w0 v : World} {a : Fa} {l k : List Nat} (h : F1 w0 v a l k) {x : Option Rat × Int} {er : Int} (h1 : x = (none, er)) :
    Ret w0 x (.returned (.tuple #[.agg #[.slice none 0 0, .slice none 0 0], .int .i64 er])) ((v.setCell ⟨w0.heap.size + 1, 0, none⟩ (.slice none 0 0)).setCell ⟨w0.heap.size + 1, 1, none⟩ (.slice none 0 0)) := Ret.err0 h1 h.rb h.bw (by omega)
theorem lpow128 (w : World) (A : Option Addr) (n c : Nat) (a k : Nat) (hU : Ul w none A n (lm a)) (hn : n ≤ 1000) (hk : k ≤ 65536) :
    Calls Try.prog 96 #[.slice A n c, .int .i64 (k : Int), .int .i64 128] w fun e w' => ∃ A' m' c' ok, e = .returned (.tuple #[.slice A' m' c', .bool ok]) ∧ m' ≤ c' ∧ Hid (ok = decide ((lm (a ^ k)).length ≤ 128)) ∧ Ul w' none A' m' (if ok then lm (a ^ k) else []) ∧ Below w.heap.size w w' :=
  lpow_any w none A n c a k 128 hU hn hk (by omega) (by omega)
theorem rn_den_pow (r : Rat) (n : Nat) : (r ^ n).den = r.den ^ n := Rat.den_pow r n
set_option maxRecDepth 100000 in
set_option maxHeartbeats 8000000 in
theorem fpow_any (w : World) (a : Fa) (l k : List Nat) (n : Int) (hq : Fq w a l k) (hn : -9223372036854775808 ≤ n) (hn2 : n < 9223372036854775808) :
    Calls Try.prog 74 #[.agg #[.slice a.A a.n a.c, .slice a.B a.m a.d], .int .i64 n] w fun e w' => Ret w (powR (fracOf l k) n) e w' := by
  rcases hA : fracOf l k with _ | r
  · have HA := hide hA
    clear hA
    go_enter Try.func74, Try.ntmps74
    go_upto_region 1 with (fail)
    generalize hW : World.alloc (World.alloc w _) _ = v
    have HF := hide (show F1 w v a (l) (k) by rw [← hW]; exact F1.mk0 hq _ _)
    obtain ⟨a0, a1, az, r0, r1, rf⟩ := HF.out.ca
    clear hW hq
    go_wp2_with (go_at_call 46; (with_reducible refine (fcheck_any _ a (l) (k) HF.out.q).mono ?_); rintro e w1 ⟨he, hb⟩; rw [HA.out] at he; subst he; have HF1 := hide (HF.out.below hb); obtain ⟨e0, e1, ez, s0, s1, sf⟩ := HF1.out.ca; clear hb)
    refine bodyPost_ret (v := .tuple #[.agg #[.slice none 0 0, .slice none 0 0], .int .i64 1]) (by simp [results, Try.results74, go_sem, *]) rfl (HF1.out.err rfl)
  · have HA := hide hA
    obtain ⟨rfl, rfl, hr0, hr⟩ := fracOf_some hA
    obtain ⟨hz1, hz2⟩ := Fq.small hq hr
    clear hA
    by_cases h0 : n < 0
    · have HX := hide (show powR (some r) n = (none, 3) from if_pos (Or.inl h0))
      go_enter Try.func74, Try.ntmps74
      go_upto_region 1 with (fail)
      generalize hW : World.alloc (World.alloc w _) _ = v
      have HF := hide (show F1 w v a (lm (rn r)) (lm r.den) by rw [← hW]; exact F1.mk0 hq _ _)
      obtain ⟨a0, a1, az, r0, r1, rf⟩ := HF.out.ca
      clear hW hq
      go_wp2_with (go_at_call 46; (with_reducible refine (fcheck_any _ a (lm (rn r)) (lm r.den) HF.out.q).mono ?_); rintro e w1 ⟨he, hb⟩; rw [HA.out] at he; subst he; have HF1 := hide (HF.out.below hb); obtain ⟨e0, e1, ez, s0, s1, sf⟩ := HF1.out.ca; clear hb)
      refine bodyPost_ret (v := .tuple #[.agg #[.slice none 0 0, .slice none 0 0], .int .i64 3]) (by simp [results, Try.results74, go_sem, *]) rfl (HF1.out.err HX.out)
    · by_cases h6 : 65536 < n
      · have HX := hide (show powR (some r) n = (none, 3) from if_pos (Or.inr h6))
        go_enter Try.func74, Try.ntmps74
        go_upto_region 1 with (fail)
        generalize hW : World.alloc (World.alloc w _) _ = v
        have HF := hide (show F1 w v a (lm (rn r)) (lm r.den) by rw [← hW]; exact F1.mk0 hq _ _)
        obtain ⟨a0, a1, az, r0, r1, rf⟩ := HF.out.ca
        clear hW hq
        go_wp2_with (go_at_call 46; (with_reducible refine (fcheck_any _ a (lm (rn r)) (lm r.den) HF.out.q).mono ?_); rintro e w1 ⟨he, hb⟩; rw [HA.out] at he; subst he; have HF1 := hide (HF.out.below hb); obtain ⟨e0, e1, ez, s0, s1, sf⟩ := HF1.out.ca; clear hb)
        refine bodyPost_ret (v := .tuple #[.agg #[.slice none 0 0, .slice none 0 0], .int .i64 3]) (by simp [results, Try.results74, go_sem, *]) rfl (HF1.out.err HX.out)
      · obtain ⟨m, rfl⟩ : ∃ m : Nat, n = m := ⟨n.toNat, by omega⟩
        have HX := hide (show powR (some r) m = limR (r ^ m) from if_neg (by omega))
        have hp0 : 0 ≤ r ^ m := Rat.pow_nonneg hr0
        have HM := hide (show m ≤ 65536 by omega)
        have d0 : decide ((m : Int) < 0) = false := decide_eq_false h0
        have d6 : decide ((m : Int) > 65536) = false := decide_eq_false h6
        clear h0 h6
        have hqn : a.n ≤ 1000 := by omega
        have hqm : a.m ≤ 1000 := by omega
        by_cases hu : (lm (rn r ^ m)).length ≤ 128
        · by_cases hv : (lm (r.den ^ m)).length ≤ 128
          · have HY := hide (show fitsR (r ^ m) = true by unfold fitsR; rw [rn_pow hr0, rn_den_pow]; simp [hu, hv])
            go_enter Try.func74, Try.ntmps74
            go_upto_region 1 with (fail)
            generalize hW : World.alloc (World.alloc w _) _ = v
            have HF := hide (show F1 w v a (lm (rn r)) (lm r.den) by rw [← hW]; exact F1.mk0 hq _ _)
            obtain ⟨a0, a1, az, r0, r1, rf⟩ := HF.out.ca
            clear hW hq
            go_wp2_with (first
              | (go_at_call 46; (with_reducible refine (fcheck_any _ a (lm (rn r)) (lm r.den) HF.out.q).mono ?_); rintro e w1 ⟨he, hb⟩; rw [HA.out] at he; subst he; have HF1 := hide (HF.out.below hb); obtain ⟨e0, e1, ez, s0, s1, sf⟩ := HF1.out.ca; clear hb)
              | (go_at_call 96; (with_reducible refine (lpow128 _ a.A a.n a.c (rn r) m HF1.out.q.u hqn HM.out).mono ?_); rintro e w2 ⟨A1, m1, c1, ok, rfl, hmc, hok, hu1, hb⟩; obtain rfl : ok = true := (by rw [hok.out]; exact decide_eq_true hu); have HU1 := hide hu1; have HF2 := hide (HF1.out.below hb); obtain ⟨g0, g1, gz, -⟩ := HF2.out.ca; clear hb hok hu1)
              | (go_at_call 96; (with_reducible refine (lpow128 _ a.B a.m a.d r.den m HF2.out.q.v hqm HM.out).mono ?_); rintro e w3 ⟨A2, m2, c2, ok, rfl, hmc2, hok, hu1, hb⟩; obtain rfl : ok = true := (by rw [hok.out]; exact decide_eq_true hv); have HU2 := hide hu1; have HU1b := hide (HU1.out.below hb); have HF3 := hide (HF2.out.below hb); obtain ⟨i0, i1, iz, t0, t1, tf⟩ := HF3.out.ca; clear hb hok hu1))
            have h3 := HU1b.out.len
            have h4 := HU2.out.len
            simp only [if_true] at h3 h4
            refine bodyPost_ret (v := .tuple #[.agg #[.slice A1 m1 c1, .slice A2 m2 c2], .int .i64 0]) (by simp [results, Try.results74, go_sem, *]) rfl (HF3.out.end (c := ⟨A1, m1, c1, A2, m2, c2⟩) (by rw [HX.out, limR_fit HY.out]) ?_)
            rw [HX.out, limR_fit HY.out]
            refine ⟨⟨?_, ?_, hmc, hmc2, by show m1 ≤ 9223372036854775807; omega, by show m2 ≤ 9223372036854775807; omega⟩, hp0, HY.out⟩
            · show Ul _ none A1 m1 (lm (rn (r ^ m))); rw [rn_pow hr0]; exact HU1b.out
            · show Ul _ none A2 m2 (lm (r ^ m).den); rw [rn_den_pow]; exact HU2.out
          · have HY := hide (show fitsR (r ^ m) = false by unfold fitsR; rw [rn_pow hr0, rn_den_pow]; simp; omega)
            go_enter Try.func74, Try.ntmps74
            go_upto_region 1 with (fail)
            generalize hW : World.alloc (World.alloc w _) _ = v
            have HF := hide (show F1 w v a (lm (rn r)) (lm r.den) by rw [← hW]; exact F1.mk0 hq _ _)
            obtain ⟨a0, a1, az, r0, r1, rf⟩ := HF.out.ca
            clear hW hq
            go_wp2_with (first
              | (go_at_call 46; (with_reducible refine (fcheck_any _ a (lm (rn r)) (lm r.den) HF.out.q).mono ?_); rintro e w1 ⟨he, hb⟩; rw [HA.out] at he; subst he; have HF1 := hide (HF.out.below hb); obtain ⟨e0, e1, ez, s0, s1, sf⟩ := HF1.out.ca; clear hb)
              | (go_at_call 96; (with_reducible refine (lpow128 _ a.A a.n a.c (rn r) m HF1.out.q.u hqn HM.out).mono ?_); rintro e w2 ⟨A1, m1, c1, ok, rfl, hmc, hok, hu1, hb⟩; obtain rfl : ok = true := (by rw [hok.out]; exact decide_eq_true hu); have HF2 := hide (HF1.out.below hb); obtain ⟨g0, g1, gz, -⟩ := HF2.out.ca; clear hb hok hu1)
              | (go_at_call 96; (with_reducible refine (lpow128 _ a.B a.m a.d r.den m HF2.out.q.v hqm HM.out).mono ?_); rintro e w3 ⟨A2, m2, c2, ok, rfl, hmc2, hok, hu1, hb⟩; obtain rfl : ok = false := (by rw [hok.out]; exact decide_eq_false hv); have HF3 := hide (HF2.out.below hb); obtain ⟨i0, i1, iz, t0, t1, tf⟩ := HF3.out.ca; clear hb hok hu1))
            refine bodyPost_ret (v := .tuple #[.agg #[.slice none 0 0, .slice none 0 0], .int .i64 2]) (by simp [results, Try.results74, go_sem, *]) rfl (HF3.out.err (by rw [HX.out, limR_no HY.out]))
        · have HY := hide (show fitsR (r ^ m) = false by unfold fitsR; rw [rn_pow hr0, rn_den_pow]; simp; omega)
          go_enter Try.func74, Try.ntmps74
          go_upto_region 1 with (fail)
          generalize hW : World.alloc (World.alloc w _) _ = v
          have HF := hide (show F1 w v a (lm (rn r)) (lm r.den) by rw [← hW]; exact F1.mk0 hq _ _)
          obtain ⟨a0, a1, az, r0, r1, rf⟩ := HF.out.ca
          clear hW hq
          go_wp2_with (first
            | (go_at_call 46; (with_reducible refine (fcheck_any _ a (lm (rn r)) (lm r.den) HF.out.q).mono ?_); rintro e w1 ⟨he, hb⟩; rw [HA.out] at he; subst he; have HF1 := hide (HF.out.below hb); obtain ⟨e0, e1, ez, s0, s1, sf⟩ := HF1.out.ca; clear hb)
            | (go_at_call 96; (with_reducible refine (lpow128 _ a.A a.n a.c (rn r) m HF1.out.q.u hqn HM.out).mono ?_); rintro e w2 ⟨A1, m1, c1, ok, rfl, hmc, hok, hu1, hb⟩; obtain rfl : ok = false := (by rw [hok.out]; exact decide_eq_false hu); have HF2 := hide (HF1.out.below hb); obtain ⟨g0, g1, gz, -⟩ := HF2.out.ca; clear hb hok hu1)
            | (go_at_call 96; (with_reducible refine (lpow128 _ a.B a.m a.d r.den m HF2.out.q.v hqm HM.out).mono ?_); rintro e w3 ⟨A2, m2, c2, ok, rfl, hmc2, hok, hu1, hb⟩; have HF3 := hide (HF2.out.below hb); obtain ⟨i0, i1, iz, t0, t1, tf⟩ := HF3.out.ca; clear hb hok hu1))
          refine bodyPost_ret (v := .tuple #[.agg #[.slice none 0 0, .slice none 0 0], .int .i64 2]) (by simp [results, Try.results74, go_sem, *]) rfl (HF3.out.err (by rw [HX.out, limR_no HY.out]))
theorem fpow_o (w : World) (a : Fa) (o : Option Rat) (n : Int) (ha : Fo w a o) (hn : -9223372036854775808 ≤ n) (hn2 : n < 9223372036854775808) : Calls Try.prog 74 #[.agg #[.slice a.A a.n a.c, .slice a.B a.m a.d], .int .i64 n] w fun e w' => Ret w (powR o n) e w' := by
  have := fpow_any w a _ _ n ha.1 hn hn2
  rwa [fracOf_self ha.2] at this
end Go.Proofs.Ytclflfglhbkfkaa

/- Contracts: noise.row. -/
namespace Go.Proofs.Ytclflfglhbkfkaa
open Go.RowKit

/-- The block g holds the 33 numbers F. -/
structure Rw (v : World) (g : Nat) (F : Nat → Nat) : Prop where
  c : ∀ j, j < 33 → v.cell? ⟨g, j, none⟩ = some (.int .u64 (F j : Int))
  fz : ∀ j, v.frozen? ⟨g, j, none⟩ = false
  sz : g < v.heap.size
theorem Rw.put {v : World} {g : Nat} {F G : Nat → Nat} (h : Rw v g F) {k : Nat} (hk : k < 33) (hG : ∀ j, j ≠ k → G j = F j) {x : Int} (hx : x = (G k : Int)) : Rw (v.setCell ⟨g, k, none⟩ (.int .u64 x)) g G := by
  subst hx
  refine ⟨fun j hj => ?_, fun j => by have := h.fz j; simp [go_sem, *], by have := h.sz; simpa using this⟩
  by_cases e : j = k
  · subst e
    exact World.cell?_setCell_same _ _ _ (h.c j hk)
  · rw [World.cell?_setCell_other _ _ _ _ (by intro h; injection h; omega), hG j e]
    exact h.c j hj
theorem Rw.congr {v : World} {g : Nat} {F G : Nat → Nat} (h : Rw v g F) (hG : ∀ j, G j = F j) : Rw v g G := ⟨fun j hj => by rw [hG]; exact h.c j hj, h.fz, h.sz⟩
def rowCells (n : Nat) : List Value := (List.range 33).map fun j => .int .u64 (ch n j : Int)
theorem rowCells_len (n : Nat) : (rowCells n).length = 33 := by simp [rowCells]
theorem rowCells_one (n : Nat) : ∀ v ∈ rowCells n, v.oneCell' = true := by
  intro v hv
  simp only [rowCells, List.mem_map] at hv
  obtain ⟨j, -, rfl⟩ := hv
  rfl
theorem rowCells_get {n j : Nat} (hj : j < 33) : (rowCells n)[j]? = some (.int .u64 (ch n j : Int)) := by
  simp [rowCells, hj]
theorem Rw.range {v : World} {g n : Nat} (h : Rw v g (ch n)) : v.rangeAt g 0 (rowCells n) := by
  intro j x hx
  have hj : j < 33 := by
    have := (List.getElem?_eq_some_iff.1 hx).1
    rwa [rowCells_len] at this
  rw [rowCells_get hj] at hx
  injection hx with hx
  rw [Nat.zero_add, ← hx]
  exact h.c j hj
theorem ch_succ (i k : Nat) : ch (i + 1) (k + 1) = ch i (k + 1) + ch i k := by show ch i k + ch i (k + 1) = _; omega
theorem below_cells {B g : Nat} {w : World} (hg : B ≤ g) : ∀ (vs : List Value) (o : Nat) {v : World}, Below B w v → Below B w (v.setCells g o vs)
  | [], _, _, h => h
  | _ :: vs, o, _, h => below_cells hg vs (o + 1) (h.setCell (by exact hg) _)
/-- A row in the making: beyond j the numbers of i + 1, up to j those of i. -/
def mixC (i j : Nat) (p : Nat) : Nat := if j < p then ch (i + 1) p else ch i p
theorem mixC_top (i p : Nat) : mixC i (i + 1) p = ch i p := by
  unfold mixC
  split
  · rw [ch_over (by omega), ch_over (by omega)]
  · rfl
theorem mixC_step {k m i : Nat} (hi : i ≠ m + 1) : mixC k m i = mixC k (m + 1) i := by
  unfold mixC
  by_cases h : m + 1 < i
  · rw [if_pos h, if_pos (by omega)]
  · rw [if_neg h, if_neg (by omega)]
theorem mixC_end (i p : Nat) : mixC i 0 p = ch (i + 1) p := by
  unfold mixC
  split
  · rfl
  · obtain rfl : p = 0 := by omega
    rw [ch_zero, ch_zero]
abbrev z33 : List Value := [.int .u64 0, .int .u64 0, .int .u64 0, .int .u64 0, .int .u64 0, .int .u64 0, .int .u64 0, .int .u64 0, .int .u64 0, .int .u64 0, .int .u64 0, .int .u64 0, .int .u64 0, .int .u64 0, .int .u64 0, .int .u64 0, .int .u64 0, .int .u64 0, .int .u64 0, .int .u64 0, .int .u64 0, .int .u64 0, .int .u64 0, .int .u64 0, .int .u64 0, .int .u64 0, .int .u64 0, .int .u64 0, .int .u64 0, .int .u64 0, .int .u64 0, .int .u64 0, .int .u64 0]
theorem zero33 {j : Nat} (hj : j < 33) : z33[j]? = some (.int .u64 0) := by
  have : z33 = List.replicate 33 (.int .u64 0) := rfl
  rw [this, List.getElem?_replicate, if_pos hj]
theorem Rw.mk0 (w : World) (t : TypeId) {g : Nat} (hg : g = w.heap.size) : Rw (w.alloc (.cells ⟨z33⟩ t)) g (fun _ => 0) := by
  subst hg
  refine ⟨fun j hj => ?_, fun j => by simp [go_sem], by simp⟩
  have h := zero33 hj
  simp only [go_sem, if_pos, List.getElem?_toArray]
  exact h
theorem Rw.below {v v' : World} {g : Nat} {F : Nat → Nat} (h : Rw v g F) (hb : Below v.heap.size v v') : Rw v' g F := by
  have h1 := h.sz
  refine ⟨fun j hj => ?_, fun j => ?_, Nat.lt_of_lt_of_le h.sz hb.size⟩
  · rw [hb.cell (by simp; omega)]; exact h.c j hj
  · rw [hb.frozen (by simp; omega)]; exact h.fz j
theorem Rw.alloc {v : World} {g : Nat} {F : Nat → Nat} (h : Rw v g F) (o : Obj) : Rw (v.alloc o) g F := h.below ((Below.refl _ _).alloc (Nat.le_refl _) _)
theorem Rw.drew {v : World} {g : Nat} {F : Nat → Nat} (h : Rw v g F) : Rw v.drew g F := ⟨h.c, h.fz, h.sz⟩
theorem Rw.far {v : World} {g g' : Nat} {F : Nat → Nat} (h : Rw v g F) (hg : g' ≠ g) (k : Nat) (x : Value) : Rw (v.setCell ⟨g', k, none⟩ x) g F := by
  refine ⟨fun j hj => ?_, fun j => by have := h.fz j; simp [go_sem, *], by have := h.sz; simpa using this⟩
  rw [World.cell?_setCell_other _ _ _ _ (by intro h; injection h; omega)]
  exact h.c j hj
theorem Rw.there {v : World} {g : Nat} {F : Nat → Nat} (h : Rw v g F) : v.there g 0 33 := fun j hj => by
  rw [Nat.zero_add, h.c j hj]
  exact ⟨rfl, h.fz j⟩
/-- The one result lies in a cell. -/
theorem results_cell {P : Program} {fn : Func} {a : Nat} {t : TypeId} (h : fn.results = #[.cell a t]) {tmps : Array Value} {p : Addr} (hp : tmps.getD a undef = .pointer (some p)) {w : World} {v : Value}
    (hl : (loadVar t p).run P w = .ok v w) : (results fn tmps).run P w = .ok v w := by
  have hp' : tmps[a]?.getD undef = .pointer (some p) := by simpa using hp
  simp [results, h, hp', asAddr, Sem.run_bind, Sem.run_pure, Result.andThen_ok, hl]
set_option maxRecDepth 100000 in
set_option maxHeartbeats 8000000 in
theorem row_any (w : World) (n : Nat) (hn : n ≤ 32) :
    Calls Try.prog 62 #[.int .i64 (n : Int)] w fun e w' => e = .returned (.agg (rowCells n).toArray) ∧ Below w.heap.size w w' := by
  go_enter Try.func62, Try.ntmps62
  go_upto_region 2 with (fail)
  generalize hW : World.alloc (World.alloc w _) _ = v
  have HR := hide (show Rw v (w.heap.size + 1) (fun _ => 0) by rw [← hW]; exact Rw.mk0 _ _ (by simp))
  have HT := hide (show Rw v w.heap.size (fun _ => 0) by rw [← hW]; exact (Rw.mk0 _ _ rfl).alloc _)
  have HB := hide (show Below w.heap.size w v by rw [← hW]; exact ((Below.refl _ _).alloc (Nat.le_refl _) _).alloc (by simp) _)
  clear hW
  have c0 := HR.out.c 0 (by omega)
  have f0 := HR.out.fz
  go_wp2_with fail
  have HR1 := hide (HR.out.put (k := 0) (G := fun p => mixC 0 1 p) (x := 1) (by omega) (fun j hj => by show mixC 0 1 j = 0; rw [mixC_top, ch_over (by omega)]) rfl)
  go_loopw [4] (fun i wr => ∃ k : Nat, i = .int .i64 ((k : Int) + 1) ∧ k ≤ n ∧ Hid (Rw wr (w.heap.size + 1) (ch k)) ∧ Hid (Rw wr w.heap.size (fun _ => 0)) ∧ Hid (Below w.heap.size w wr)) (fun i _ => n + 1 - (intOf i).toNat)
  case atStart => exact ⟨0, rfl, by omega, hide (HR1.out.congr (fun j => (mixC_top 0 j).symm)), hide (HT.out.far (by omega) _ _), hide (HB.out.setCell (by simp) _)⟩
  case round =>
    obtain ⟨k, rfl, hk, HR1, HT1, HB1⟩ := hrel
    clear HR HT HB c0 f0
    by_cases hkn : k = n
    · subst hkn
      have HRG := hide HR1.out.range
      have HTH := hide HT1.out.there
      have hst : (storeCells ⟨w.heap.size, 0, none⟩ (rowCells k)).run Try.prog wr = .ok () (wr.setCells w.heap.size 0 (rowCells k)) := by
        have h := run_storeCells_cells (P := Try.prog) w.heap.size 0 (rowCells k) 0 wr (fun j hj => by have := (HTH.out j (by rw [rowCells_len] at hj; exact hj)).1; simpa using this) (fun j hj => by have := (HTH.out j (by rw [rowCells_len] at hj; exact hj)).2; simpa using this) (rowCells_one k)
        simpa using h
      have hl33 := rowCells_len k
      go_wp2_with (first
        | (refine wpList_load_mid rfl 81 _ rfl (w.heap.size + 1) 0 rfl (rowCells k) _ HRG.out rfl rfl (by rw [rowCells_len]; rfl) ?_))
      have hR' : (wr.setCells w.heap.size 0 (rowCells k)).rangeAt w.heap.size 0 (rowCells k) := World.rangeAt_setCells_same _ _ _ _ (by rw [rowCells_len]; exact HTH.out)
      have hlv := run_loadVar_mid (P := Try.prog) (wr.setCells w.heap.size 0 (rowCells k)) w.heap.size 0 81 (rowCells k) _ hR' rfl rfl (by rw [rowCells_len]; rfl)
      generalize hW : wr.setCells w.heap.size 0 (rowCells k) = W at hlv ⊢
      have hBW : Below w.heap.size w W := by rw [← hW]; exact below_cells (Nat.le_refl _) _ _ HB1.out
      clear hW hR' hst
      exact bodyPost_ret (v := .agg (rowCells k).toArray) (results_cell Try.results62 rfl hlv) rfl ⟨rfl, hBW⟩
    · have hk1 : (k : Int) + 1 ≤ (n : Int) := by omega
      go_wp2_with fail
      go_loopw [5] (fun s wr2 => ∃ j : Nat, s = .int .i64 (j : Int) ∧ j ≤ k + 1 ∧ Hid (Rw wr2 (w.heap.size + 1) (mixC k j)) ∧ Hid (Rw wr2 w.heap.size (fun _ => 0)) ∧ Hid (Below w.heap.size w wr2)) (fun s _ => (intOf s).toNat)
      case atStart => exact ⟨k + 1, by go_num, by omega, hide (HR1.out.congr (fun j => mixC_top k j)), HT1, HB1⟩
      case round =>
        obtain ⟨j, rfl, hj, HR2, HT2, HB2⟩ := hrel
        by_cases hj0 : j = 0
        · subst hj0
          go_wp2_with fail
          go_roundw
          case rel => exact ⟨k + 1, by go_num, by omega, hide (HR2.out.congr (fun j => (mixC_end k j).symm)), HT2, HB2⟩
          case measure => simp [intOf]; omega
        · obtain ⟨m, rfl⟩ : ∃ m, j = m + 1 := ⟨j - 1, by omega⟩
          have g0 : (0 : Int) ≤ (m : Int) := by omega
          have g1 : (m : Int) < 33 := by omega
          have g2 : (m : Int) + 1 < 33 := by omega
          have e0 := HR2.out.c m (by omega)
          have e1 := HR2.out.c (m + 1) (by omega)
          have ef := HR2.out.fz
          have hle1 := ch_le k m
          have hle2 := ch_le k (m + 1)
          have hp : 2 ^ k ≤ 2 ^ 32 := Nat.pow_le_pow_right (by omega) (by omega)
          have ev0 : mixC k (m + 1) m = ch k m := by unfold mixC; rw [if_neg (by omega)]
          have ev1 : mixC k (m + 1) (m + 1) = ch k (m + 1) := by unfold mixC; rw [if_neg (by omega)]
          rw [ev0] at e0
          rw [ev1] at e1
          have hwr : IntKind.u64.wrap ((ch k (m + 1) : Int) + (ch k m : Int)) = (ch k (m + 1) : Int) + (ch k m : Int) := by
            show ((ch k (m + 1) : Int) + (ch k m : Int)) % 18446744073709551616 = _
            omega
          have HP := hide (HR2.out.put (k := m + 1) (G := mixC k m) (x := (ch k (m + 1) : Int) + (ch k m : Int)) (by omega) (fun i hi => mixC_step hi) (by unfold mixC; rw [if_pos (by omega), ch_succ]; omega))
          clear ev0 ev1 hle1 hle2 hp
          go_wp2_with fail
          go_region
          go_wp2_with fail
          go_roundw
          case rel => exact ⟨m, by go_num, by omega, hide HP.out.drew, hide (HT2.out.far (by omega) _ _).drew, hide (HB2.out.setCell (by simp) _).drew⟩
          case measure => simp [intOf]
end Go.Proofs.Ytclflfglhbkfkaa
