/- Contracts of the functions that these laws reach: part 20: Contracts: value.of, Value, Mixed. -/
import Derived.Test.YtnofljgmkdommaaG19
import Derived.Test.YtnofljgmkdommaaG16
import Derived.Test.YtnofljgmkdommaaG15
set_option linter.unusedVariables false
set_option linter.unusedSimpArgs false

/- Contracts: value.of, Value, Mixed. -/
namespace Go.Proofs.Ytnofljgmkdommaa
open Go.RowKit

set_option maxRecDepth 100000 in
set_option maxHeartbeats 8000000 in
theorem vaof_any (w : World) (x y : Int) (X Y : Nat) (hx : x = (X : Int)) (hy : y = (Y : Int)) (hX : X < 9223372036854775808) (hY : Y < 9223372036854775808) (h0 : 0 < Y) :
    Calls Try.prog 31 #[.int .i64 x, .int .i64 y] w fun e w' => Ret1 w (some (mkRat X Y)) e w' := by
  subst hx
  subst hy
  go_enter Try.func31, Try.ntmps31
  go_upto_region 1 with (fail)
  generalize hW : World.alloc w _ = v
  have HRB := hide (show Rb v w.heap.size by rw [← hW]; exact Rb.mk0 _ rfl)
  have HBV := hide (show Below w.heap.size w v by rw [← hW]; exact (Below.refl _ _).alloc (Nat.le_refl _) _)
  clear hW
  go_upto_region 2 with (go_at_call 53; (with_reducible refine (fof_any _ X Y hX hY h0).mono ?_); rintro e w1 ⟨q, rfl, ho, hb1⟩; have HO := hide ho; have HB1 := hide (HBV.out.trans (hb1.mono HBV.out.size)); have HR1 := hide (HRB.out.below hb1); clear ho hb1)
  generalize hW : World.alloc w1 _ = v2
  have hsz := HR1.out.sz
  have HQ2 := hide (show Bq v2 w1.heap.size q by rw [← hW]; exact Bq.mk0 _ q rfl)
  have HO2 := hide (show Fo v2 q (some (mkRat X Y)) by rw [← hW]; exact HO.out.alloc _)
  have HR2 := hide (show Rb v2 w.heap.size by rw [← hW]; exact (HR1.out.bq.alloc _).rb)
  have HB2 := hide (show Below w.heap.size w v2 by rw [← hW]; exact HB1.out.alloc HB1.out.size _)
  obtain ⟨c0, c1, cf, cz, -⟩ := HQ2.out
  obtain ⟨r0, r1, rf, rz, -⟩ := HR2.out
  clear hW
  go_wp2_with fail
  refine bodyPost_ret (v := .agg #[.slice q.A q.n q.c, .slice q.B q.m q.d]) (by simp [results, Try.results31, go_sem, *]) rfl ⟨q, rfl, HO2.out.put2 HR2.out.nb _ _ (by simp), Rb.end0 HB2.out (Nat.le_refl _) _ _⟩
theorem vaof_one (w : World) : Calls Try.prog 31 #[.int .i64 1, .int .i64 1] w fun e w' => Ret1 w (some 1) e w' :=
  vaof_any w 1 1 1 1 rfl rfl (by omega) (by omega) (by omega)
/-- The boxes of Mixed. -/
structure MX (w v : World) (a b : Fa) (l k l' k' : List Nat) : Prop where
  a0 : Bq v w.heap.size a
  b0 : Bq v (w.heap.size + 1) b
  r : Rb v (w.heap.size + 1 + 1)
  fa : Fq v a l k
  fb : Fq v b l' k'
  bw : Below w.heap.size w v
theorem MX.below {w v v' : World} {a b : Fa} {l k l' k' : List Nat} (h : MX w v a b l k l' k') (hb : Below v.heap.size v v') : MX w v' a b l k l' k' :=
  ⟨h.a0.below hb, h.b0.below hb, h.r.below hb, h.fa.below hb, h.fb.below hb, h.bw.trans (hb.mono h.bw.size)⟩
theorem mixR_range {r s : Rat} {p : Int} (h : p < 0 ∨ 100 < p) : mixR (some r) (some s) p = (none, 3) := by unfold mixR; simp only; rw [if_pos h]
theorem mixR_in {r s : Rat} {P : Nat} (hP : P ≤ 100) (h1 : fitsR (r * mkRat (P : Int) 100) = true) (h2 : fitsR (s * mkRat ((100 - P : Nat) : Int) 100) = true) : mixR (some r) (some s) (P : Int) = addR (some (r * mkRat (P : Int) 100)) (some (s * mkRat ((100 - P : Nat) : Int) 100)) := by
  rw [show ((100 - P : Nat) : Int) = 100 - (P : Int) by omega] at h2 ⊢
  unfold mixR; simp only; rw [if_neg (by omega), if_neg (by rw [h1]; simp), if_neg (by rw [h2]; simp)]; rfl
theorem mixR_no1 {r s : Rat} {P : Nat} (hP : P ≤ 100) (h1 : ¬ fitsR (r * mkRat (P : Int) 100) = true) : mixR (some r) (some s) (P : Int) = (none, 2) := by
  unfold mixR; simp only; rw [if_neg (by omega), if_pos (by simpa using h1)]
theorem mixR_no2 {r s : Rat} {P : Nat} (hP : P ≤ 100) (h1 : fitsR (r * mkRat (P : Int) 100) = true) (h2 : ¬ fitsR (s * mkRat ((100 - P : Nat) : Int) 100) = true) : mixR (some r) (some s) (P : Int) = (none, 2) := by
  rw [show ((100 - P : Nat) : Int) = 100 - (P : Int) by omega] at h2
  unfold mixR; simp only; rw [if_neg (by omega), if_neg (by rw [h1]; simp), if_pos (by simpa using h2)]
theorem mulR_cases {r x : Rat} {o : Option Rat} {e : Int} (h : mulR (some r) (some x) = (o, e)) : (fitsR (r * x) = true → o = some (r * x) ∧ e = 0) ∧ (¬ fitsR (r * x) = true → o = none ∧ e = 2) := by
  rw [show mulR (some r) (some x) = limR (r * x) from rfl] at h
  refine ⟨fun hf => ?_, fun hf => ?_⟩
  · rw [limR_fit hf] at h
    injection h with h1 h2
    exact ⟨h1.symm, h2.symm⟩
  · rw [limR_no (by simpa using hf)] at h
    injection h with h1 h2
    exact ⟨h1.symm, h2.symm⟩
set_option maxRecDepth 100000 in
set_option maxHeartbeats 16000000 in
theorem vamixed_any (w : World) (a b : Fa) (l k l' k' : List Nat) (p : Int) (ha : Fq w a l k) (hb : Fq w b l' k') :
    Calls Try.prog 25 #[.agg #[.slice a.A a.n a.c, .slice a.B a.m a.d], .agg #[.slice b.A b.n b.c, .slice b.B b.m b.d], .int .i64 p] w fun e w' => Ret w (mixR (fracOf l k) (fracOf l' k') p) e w' := by
  rcases hA : fracOf l k with _ | r
  · have HA := hide hA
    clear hA
    go_enter Try.func25, Try.ntmps25
    go_upto_region 1 with (fail)
    generalize hW : World.alloc (World.alloc (World.alloc w _) _) _ = v
    have HX := hide (show MX w v a b l k l' k' by rw [← hW]; exact ⟨((Bq.mk0 _ a rfl).alloc _).alloc _, (Bq.mk0 _ b (by simp)).alloc _, Rb.mk0 _ (by simp), ((ha.alloc _).alloc _).alloc _, ((hb.alloc _).alloc _).alloc _, (((Below.refl _ _).alloc (Nat.le_refl _) _).alloc (by simp) _ : Below w.heap.size w _).alloc (by simp; omega) _⟩)
    obtain ⟨a0, a1, af, az, -⟩ := HX.out.a0; obtain ⟨b0, b1, bf, bz, -⟩ := HX.out.b0; obtain ⟨r0, r1, rf, rz, -⟩ := HX.out.r
    clear hW ha hb
    go_upto_region 2 with (go_at_call 41; (with_reducible refine (fcheck_any _ a l k HX.out.fa).mono ?_); rintro e w1 ⟨rfl, hb⟩; rw [HA.out]; have HX1 := hide (HX.out.below hb); clear hb; obtain ⟨p0, p1, pf, pz, -⟩ := HX1.out.a0; obtain ⟨q0, q1, qf, qz, -⟩ := HX1.out.b0; obtain ⟨s0, s1, sf, sz, -⟩ := HX1.out.r)
    clear a0 a1 af az b0 b1 bf bz r0 r1 rf rz
    go_wp2_with fail
    refine bodyPost_ret (v := .tuple #[.agg #[.slice fa0.A fa0.n fa0.c, .slice fa0.B fa0.m fa0.d], .int .i64 1]) (by simp [results, Try.results25, go_sem, *]) rfl ⟨fa0, rfl, (Fo.nil _).put2 HX1.out.r.nb _ _ (by simp), Rb.end0 HX1.out.bw (by omega) _ _⟩
  · rcases hB : fracOf l' k' with _ | s
    · have HA := hide hA
      have HBN := hide hB
      clear hA hB
      go_enter Try.func25, Try.ntmps25
      go_upto_region 1 with (fail)
      generalize hW : World.alloc (World.alloc (World.alloc w _) _) _ = v
      have HX := hide (show MX w v a b l k l' k' by rw [← hW]; exact ⟨((Bq.mk0 _ a rfl).alloc _).alloc _, (Bq.mk0 _ b (by simp)).alloc _, Rb.mk0 _ (by simp), ((ha.alloc _).alloc _).alloc _, ((hb.alloc _).alloc _).alloc _, (((Below.refl _ _).alloc (Nat.le_refl _) _).alloc (by simp) _ : Below w.heap.size w _).alloc (by simp; omega) _⟩)
      obtain ⟨a0, a1, af, az, -⟩ := HX.out.a0; obtain ⟨b0, b1, bf, bz, -⟩ := HX.out.b0; obtain ⟨r0, r1, rf, rz, -⟩ := HX.out.r
      clear hW ha hb
      go_upto_region 2 with (first
        | (go_at_call 41; (with_reducible refine (fcheck_any _ a l k HX.out.fa).mono ?_); rintro e w1 ⟨rfl, hb⟩; rw [HA.out]; have HX1 := hide (HX.out.below hb); clear hb; clear a0 a1 af az b0 b1 bf bz r0 r1 rf rz; obtain ⟨a0, a1, af, az, -⟩ := HX1.out.a0; obtain ⟨b0, b1, bf, bz, -⟩ := HX1.out.b0; obtain ⟨r0, r1, rf, rz, -⟩ := HX1.out.r)
        | (go_at_call 41; (with_reducible refine (fcheck_any _ b l' k' HX1.out.fb).mono ?_); rintro e w2 ⟨rfl, hb⟩; rw [HBN.out]; have HX2 := hide (HX1.out.below hb); clear hb; obtain ⟨p0, p1, pf, pz, -⟩ := HX2.out.a0; obtain ⟨q0, q1, qf, qz, -⟩ := HX2.out.b0; obtain ⟨s0, s1, sf, sz, -⟩ := HX2.out.r))
      clear a0 a1 af az b0 b1 bf bz r0 r1 rf rz
      go_wp2_with fail
      refine bodyPost_ret (v := .tuple #[.agg #[.slice fa0.A fa0.n fa0.c, .slice fa0.B fa0.m fa0.d], .int .i64 1]) (by simp [results, Try.results25, go_sem, *]) rfl ⟨fa0, rfl, (Fo.nil _).put2 HX2.out.r.nb _ _ (by simp), Rb.end0 HX2.out.bw (by omega) _ _⟩
    · have HA := hide hA
      have HBN := hide hB
      clear hA hB
      by_cases hp0 : p < 0
      · have q0 : decide (p < 0) = true := decide_eq_true hp0
        go_enter Try.func25, Try.ntmps25
        go_upto_region 1 with (fail)
        generalize hW : World.alloc (World.alloc (World.alloc w _) _) _ = v
        have HX := hide (show MX w v a b l k l' k' by rw [← hW]; exact ⟨((Bq.mk0 _ a rfl).alloc _).alloc _, (Bq.mk0 _ b (by simp)).alloc _, Rb.mk0 _ (by simp), ((ha.alloc _).alloc _).alloc _, ((hb.alloc _).alloc _).alloc _, (((Below.refl _ _).alloc (Nat.le_refl _) _).alloc (by simp) _ : Below w.heap.size w _).alloc (by simp; omega) _⟩)
        obtain ⟨a0, a1, af, az, -⟩ := HX.out.a0; obtain ⟨b0, b1, bf, bz, -⟩ := HX.out.b0; obtain ⟨r0, r1, rf, rz, -⟩ := HX.out.r
        clear hW ha hb
        go_upto_region 3 with ((first | (go_at_call 41; (with_reducible refine (fcheck_any _ a l k HX.out.fa).mono ?_); rintro e w1 ⟨rfl, hb⟩; rw [HA.out]; have HX1 := hide (HX.out.below hb); clear hb; clear a0 a1 af az b0 b1 bf bz r0 r1 rf rz; obtain ⟨a0, a1, af, az, -⟩ := HX1.out.a0; obtain ⟨b0, b1, bf, bz, -⟩ := HX1.out.b0; obtain ⟨r0, r1, rf, rz, -⟩ := HX1.out.r) | (go_at_call 41; (with_reducible refine (fcheck_any _ b l' k' HX1.out.fb).mono ?_); rintro e w2 ⟨rfl, hb⟩; rw [HBN.out]; have HX2 := hide (HX1.out.below hb); clear hb; obtain ⟨p0, p1, pf, pz, -⟩ := HX2.out.a0; obtain ⟨q0, q1, qf, qz, -⟩ := HX2.out.b0; obtain ⟨s0, s1, sf, sz, -⟩ := HX2.out.r)))
        clear a0 a1 af az b0 b1 bf bz r0 r1 rf rz
        go_wp2_with fail
        refine bodyPost_ret (v := .tuple #[.agg #[.slice fa0.A fa0.n fa0.c, .slice fa0.B fa0.m fa0.d], .int .i64 3]) (by simp [results, Try.results25, go_sem, *]) rfl ⟨fa0, by rw [mixR_range (.inl hp0)], by rw [mixR_range (.inl hp0)]; exact (Fo.nil _).put2 HX2.out.r.nb _ _ (by simp), Rb.end0 HX2.out.bw (by omega) _ _⟩
      · have q0 : decide (p < 0) = false := decide_eq_false hp0
        by_cases hp1 : 100 < p
        · have q1 : decide (100 < p) = true := decide_eq_true hp1
          go_enter Try.func25, Try.ntmps25
          go_upto_region 1 with (fail)
          generalize hW : World.alloc (World.alloc (World.alloc w _) _) _ = v
          have HX := hide (show MX w v a b l k l' k' by rw [← hW]; exact ⟨((Bq.mk0 _ a rfl).alloc _).alloc _, (Bq.mk0 _ b (by simp)).alloc _, Rb.mk0 _ (by simp), ((ha.alloc _).alloc _).alloc _, ((hb.alloc _).alloc _).alloc _, (((Below.refl _ _).alloc (Nat.le_refl _) _).alloc (by simp) _ : Below w.heap.size w _).alloc (by simp; omega) _⟩)
          obtain ⟨a0, a1, af, az, -⟩ := HX.out.a0; obtain ⟨b0, b1, bf, bz, -⟩ := HX.out.b0; obtain ⟨r0, r1, rf, rz, -⟩ := HX.out.r
          clear hW ha hb
          go_upto_region 3 with ((first | (go_at_call 41; (with_reducible refine (fcheck_any _ a l k HX.out.fa).mono ?_); rintro e w1 ⟨rfl, hb⟩; rw [HA.out]; have HX1 := hide (HX.out.below hb); clear hb; clear a0 a1 af az b0 b1 bf bz r0 r1 rf rz; obtain ⟨a0, a1, af, az, -⟩ := HX1.out.a0; obtain ⟨b0, b1, bf, bz, -⟩ := HX1.out.b0; obtain ⟨r0, r1, rf, rz, -⟩ := HX1.out.r) | (go_at_call 41; (with_reducible refine (fcheck_any _ b l' k' HX1.out.fb).mono ?_); rintro e w2 ⟨rfl, hb⟩; rw [HBN.out]; have HX2 := hide (HX1.out.below hb); clear hb; obtain ⟨p0, p1, pf, pz, -⟩ := HX2.out.a0; obtain ⟨q0, q1, qf, qz, -⟩ := HX2.out.b0; obtain ⟨s0, s1, sf, sz, -⟩ := HX2.out.r)))
          clear a0 a1 af az b0 b1 bf bz r0 r1 rf rz
          go_wp2_with fail
          refine bodyPost_ret (v := .tuple #[.agg #[.slice fa0.A fa0.n fa0.c, .slice fa0.B fa0.m fa0.d], .int .i64 3]) (by simp [results, Try.results25, go_sem, *]) rfl ⟨fa0, by rw [mixR_range (.inr hp1)], by rw [mixR_range (.inr hp1)]; exact (Fo.nil _).put2 HX2.out.r.nb _ _ (by simp), Rb.end0 HX2.out.bw (by omega) _ _⟩
        · obtain ⟨P, rfl⟩ : ∃ P : Nat, p = (P : Int) := ⟨p.toNat, by omega⟩
          have hP : P ≤ 100 := by omega
          have q1 : decide (100 < (P : Int)) = false := decide_eq_false hp1
          have q2 : decide (100 < P) = false := decide_eq_false (by omega)
          obtain ⟨xo, xe, hxe⟩ : ∃ xo xe, mulR (some r) (some (mkRat (P : Int) 100)) = (xo, xe) := ⟨_, _, rfl⟩
          obtain ⟨yo, ye, hye⟩ : ∃ yo ye, mulR (some s) (some (mkRat ((100 - P : Nat) : Int) 100)) = (yo, ye) := ⟨_, _, rfl⟩
          have HXE := hide hxe
          have HYE := hide hye
          clear hxe hye
          go_enter Try.func25, Try.ntmps25
          go_upto_region 1 with (fail)
          generalize hW : World.alloc (World.alloc (World.alloc w _) _) _ = v
          have HX := hide (show MX w v a b l k l' k' by rw [← hW]; exact ⟨((Bq.mk0 _ a rfl).alloc _).alloc _, (Bq.mk0 _ b (by simp)).alloc _, Rb.mk0 _ (by simp), ((ha.alloc _).alloc _).alloc _, ((hb.alloc _).alloc _).alloc _, (((Below.refl _ _).alloc (Nat.le_refl _) _).alloc (by simp) _ : Below w.heap.size w _).alloc (by simp; omega) _⟩)
          obtain ⟨a0, a1, af, az, -⟩ := HX.out.a0; obtain ⟨b0, b1, bf, bz, -⟩ := HX.out.b0; obtain ⟨r0, r1, rf, rz, -⟩ := HX.out.r
          clear hW ha hb
          go_upto_region 5 with ((first | (go_at_call 41; (with_reducible refine (fcheck_any _ a l k HX.out.fa).mono ?_); rintro e w1 ⟨rfl, hb⟩; rw [HA.out]; have HX1 := hide (HX.out.below hb); clear hb; clear a0 a1 af az b0 b1 bf bz r0 r1 rf rz; obtain ⟨a0, a1, af, az, -⟩ := HX1.out.a0; obtain ⟨b0, b1, bf, bz, -⟩ := HX1.out.b0; obtain ⟨r0, r1, rf, rz, -⟩ := HX1.out.r) | (go_at_call 41; (with_reducible refine (fcheck_any _ b l' k' HX1.out.fb).mono ?_); rintro e w2 ⟨rfl, hb⟩; rw [HBN.out]; have HX2 := hide (HX1.out.below hb); clear hb; obtain ⟨p0, p1, pf, pz, -⟩ := HX2.out.a0; obtain ⟨q0, q1, qf, qz, -⟩ := HX2.out.b0; obtain ⟨s0, s1, sf, sz, -⟩ := HX2.out.r)))
          clear HX HX1
          clear a0 a1 af az b0 b1 bf bz r0 r1 rf rz
          go_cut [8, 9] from 8 to 35 (fun s8 s9 wx => ∃ (g : Nat) (c : Fa), s8 = .pointer (some ⟨g, 0, none⟩) ∧ s9 = .int .i64 xe ∧ Hid (Bq wx g c) ∧ Hid (Fo wx c xo) ∧ Hid (Below w2.heap.size w2 wx))
          case first =>
            apply region_seqo 6 8 [30, 31, 32, 33, 29, 34, 35, 8] [eqV _, eqV _, fun x w => ∃ c : Fa, x = .agg #[.slice c.A c.n c.c, .slice c.B c.m c.d] ∧ Fo w c (some (mkRat (P : Int) 100)), fun x w => ∃ c : Fa, x = .tuple #[.agg #[.slice c.A c.n c.c, .slice c.B c.m c.d], .int .i64 xe] ∧ Fo w c xo, fun x w => ∃ c : Fa, x = .tuple #[.agg #[.slice c.A c.n c.c, .slice c.B c.m c.d], .int .i64 xe] ∧ Fo w c xo, fun x w => ∃ c : Fa, x = .agg #[.slice c.A c.n c.c, .slice c.B c.m c.d] ∧ Fo w c xo, eqV _, fun x w => ∃ b : Nat, x = .pointer (some ⟨b, 0, none⟩) ∧ w2.heap.size ≤ b ∧ Bq w b fa0] [false, false, false, false, false, false, false, false] (by kernel_rfl) (by decide) (by decide) rfl rfl rfl (by decide) (by kernel_rfl) (by kernel_rfl) rfl ?stb27 ?steps27 ?fina27 ?finb27
            case stb27 => repeat' (first | exact trivial | apply stb_eq | (first | exact fun x w w' ⟨c, h1, h2⟩ hb => ⟨c, h1, h2.below hb⟩ | exact fun x w w' ⟨c, h1, h2, h3⟩ hb => ⟨c, h1, h2, h3.below hb⟩) | apply And.intro)
            case steps27 =>
              repeat' (first | exact trivial | apply And.intro)
              all_goals
                intro a' w' hbw hdf hoff hdep K hK
                (have o3 := hoff 3 rfl; have o2 := hoff 2 rfl)
                (have HG := hide (HX2.out.below hbw); obtain ⟨p0, p1, pf, pz, -⟩ := HG.out.a0; obtain ⟨q0, q1, qf, qz, -⟩ := HG.out.b0; obtain ⟨s0, s1, sf, sz, -⟩ := HG.out.r; have hvz := hbw.size)
                replace hdep := hdep _ rfl
                simp only [List.getElem_toArray, List.getElem_cons_succ, List.getElem_cons_zero, List.toList_toArray, depAll, binds_data, binds_chain, binds_guard, binds_phase, binds_text, binds_gc, cond_true, cond_false, true_and, getR, eqV, List.getD_cons_succ, List.getD_cons_zero, and_true] at hdep
                simp only [Nat.zero_add, Nat.reduceAdd, getR, eqV, List.getD_cons_succ, List.getD_cons_zero] at hK
                clear hoff hdf
                (first | (obtain ⟨e30, ⟨c1, e32, HO1⟩, hdep⟩ : (_ = _) ∧ (∃ c : Fa, _) ∧ _ := hdep) | (obtain ⟨⟨c1, e24, HO1⟩, hdep⟩ : (∃ c : Fa, _) ∧ _ := hdep) | (obtain ⟨c1, e24, HO1⟩ : ∃ c : Fa, _ := hdep) | skip)
                first
                  | (refine rg_unwanted rfl rfl rfl (b' := false) (by first | (simp [hdep]; done) | assumption) (by decide) ?_; exact hK _ _ rfl (Below.refl _ _) (by simp))
                  | (refine rg_unwanted rfl rfl rfl (b' := true) (by first | (simp [hdep]; done) | assumption) (by decide) ?_; exact hK _ _ rfl (Below.refl _ _) (by simp))
                  | (refine rg_wanted rfl rfl rfl (b' := true) (by first | (simp [hdep]; done) | assumption) rfl (fun K' hKK => ?_); go_wp2_with (first | (go_at_call 31; (with_reducible refine (vaof_any _ _ 100 P 100 (by first | rfl | omega) rfl (by omega) (by omega) (by omega)).mono ?_); rintro e w1 ⟨c, rfl, ho, hb⟩) | (go_at_call 45; (with_reducible refine (fmul_o _ a c1 (some r) (some (mkRat ((P : Nat) : Int) 100)) (fo_of HG.out.fa HA.out) HO1).mono ?_); rintro e w1 ⟨c, rfl, ho, hb⟩; rw [HXE.out] at ho ⊢)); first | exact hK _ _ rfl (Below.refl _ _) (by simp) | (first | exact hK _ _ ⟨c, rfl, ho⟩ hb (by simp) | exact hK _ _ ⟨c1, rfl, HO1⟩ (Below.refl _ _) (by simp) | exact hK _ _ ⟨_, rfl, hvz, Bq.mk0 _ fa0 rfl⟩ ((Below.refl _ _).alloc (Nat.le_refl _) _) (by simp)))
                  | (refine rg_wanted rfl rfl rfl (b' := false) (by first | (simp [hdep]; done) | assumption) rfl (fun K' hKK => ?_); go_wp2_with (first | (go_at_call 31; (with_reducible refine (vaof_any _ _ 100 P 100 (by first | rfl | omega) rfl (by omega) (by omega) (by omega)).mono ?_); rintro e w1 ⟨c, rfl, ho, hb⟩) | (go_at_call 45; (with_reducible refine (fmul_o _ a c1 (some r) (some (mkRat ((P : Nat) : Int) 100)) (fo_of HG.out.fa HA.out) HO1).mono ?_); rintro e w1 ⟨c, rfl, ho, hb⟩; rw [HXE.out] at ho ⊢)); first | exact hK _ _ rfl (Below.refl _ _) (by simp) | (first | exact hK _ _ ⟨c, rfl, ho⟩ hb (by simp) | exact hK _ _ ⟨c1, rfl, HO1⟩ (Below.refl _ _) (by simp) | exact hK _ _ ⟨_, rfl, hvz, Bq.mk0 _ fa0 rfl⟩ ((Below.refl _ _).alloc (Nat.le_refl _) _) (by simp)))
                  | (refine rg_free rfl rfl (fun K' hKK => ?_); fail)
                  | (refine rg_free rfl rfl (fun K' hKK => ?_); go_wp2_with (first | (go_at_call 31; (with_reducible refine (vaof_any _ _ 100 P 100 (by first | rfl | omega) rfl (by omega) (by omega) (by omega)).mono ?_); rintro e w1 ⟨c, rfl, ho, hb⟩) | (go_at_call 45; (with_reducible refine (fmul_o _ a c1 (some r) (some (mkRat ((P : Nat) : Int) 100)) (fo_of HG.out.fa HA.out) HO1).mono ?_); rintro e w1 ⟨c, rfl, ho, hb⟩; rw [HXE.out] at ho ⊢)); first | exact hK _ _ rfl (Below.refl _ _) (by simp) | (first | exact hK _ _ ⟨c, rfl, ho⟩ hb (by simp) | exact hK _ _ ⟨c1, rfl, HO1⟩ (Below.refl _ _) (by simp) | exact hK _ _ ⟨_, rfl, hvz, Bq.mk0 _ fa0 rfl⟩ ((Below.refl _ _).alloc (Nat.le_refl _) _) (by simp)))
            all_goals
              intro w' hbw
              repeat (first | refine fin_eq ?_ | refine fin_any (fun x hx => ?_))
              rename_i x15 h15 x16 h16
              obtain ⟨c5, rfl, -⟩ := h15
              obtain ⟨q, rfl, ho⟩ := h16
              obtain ⟨g, rfl, hg, hq⟩ := hx
              have HO := hide ho
              have HQ := hide hq
              have HBW := hide hbw
              have hrel := hide (show ∃ (g' : Nat) (c' : Fa), Value.pointer (some ⟨g, 0, none⟩) = .pointer (some ⟨g', 0, none⟩) ∧ Hid (Bq ((w'.setCell ⟨g, 0, none⟩ (.slice q.A q.n q.c)).setCell ⟨g, 1, none⟩ (.slice q.B q.m q.d)) g' c') ∧ Hid (Fo ((w'.setCell ⟨g, 0, none⟩ (.slice q.A q.n q.c)).setCell ⟨g, 1, none⟩ (.slice q.B q.m q.d)) c' xo) ∧ Hid (Below w2.heap.size w2 ((w'.setCell ⟨g, 0, none⟩ (.slice q.A q.n q.c)).setCell ⟨g, 1, none⟩ (.slice q.B q.m q.d))) from
                ⟨g, q, rfl, hide (HQ.out.fill q), hide (HO.out.fill HQ.out q), hide (Rb.end0 HBW.out hg _ _)⟩)
              obtain ⟨c0, c1, cf, cz, -⟩ := HQ.out
              clear ho hq hbw
              refine fin_nil ?_
              simp only [List.setIfInBounds_toArray, List.set_cons_succ, List.set_cons_zero]
            · skip
              refine wpAny_one (i := 8) (by kernel_rfl) ?_
              refine rg_free rfl rfl (fun K' hKK => ?_)
              go_wp2_with fail
              refine wpAny_one (i := 9) (by kernel_rfl) ?_
              refine rg_free rfl rfl (fun K' hKK => ?_)
              go_wp2_with fail
              refine wpAny_done (by kernel_rfl) ?_ _
              go_wp2_with fail
              go_meet
              case rel => obtain ⟨g', c', h1, h2⟩ := hrel.out; exact ⟨g', c', h1, rfl, h2⟩
            · skip
              refine wpAny_two (i := 6) (j := 8) (by kernel_rfl) ?_ ?_
              · skip
                refine rg_free rfl rfl (fun K' hKK => ?_)
                go_wp2_with fail
                refine wpAny_one (i := 8) (by kernel_rfl) ?_
                refine rg_free rfl rfl (fun K' hKK => ?_)
                go_wp2_with fail
                refine wpAny_one (i := 9) (by kernel_rfl) ?_
                refine rg_free rfl rfl (fun K' hKK => ?_)
                go_wp2_with fail
                refine wpAny_done (by kernel_rfl) ?_ _
                go_wp2_with fail
                go_meet
                case rel => obtain ⟨g', c', h1, h2⟩ := hrel.out; exact ⟨g', c', h1, rfl, h2⟩
              · skip
                refine rg_free rfl rfl (fun K' hKK => ?_)
                go_wp2_with fail
                refine wpAny_one (i := 6) (by kernel_rfl) ?_
                refine rg_free rfl rfl (fun K' hKK => ?_)
                go_wp2_with fail
                refine wpAny_one (i := 9) (by kernel_rfl) ?_
                refine rg_free rfl rfl (fun K' hKK => ?_)
                go_wp2_with fail
                refine wpAny_done (by kernel_rfl) ?_ _
                go_wp2_with fail
                go_meet
                case rel => obtain ⟨g', c', h1, h2⟩ := hrel.out; exact ⟨g', c', h1, rfl, h2⟩
          case rest =>
            obtain ⟨g8, c8, rfl, rfl, HQ8, HO8, HB8⟩ := hcut
            have HX3 := hide (HX2.out.below HB8.out)
            clear HX2 HB8
            by_cases hf : fitsR (r * mkRat (P : Int) 100) = true
            · obtain ⟨rfl, rfl⟩ : xo = some (r * mkRat (P : Int) 100) ∧ xe = 0 := by
                have h := HXE.out
                rw [show mulR (some r) (some (mkRat (P : Int) 100)) = limR (r * mkRat (P : Int) 100) from rfl, limR_fit hf] at h
                injection h with h1 h2
                exact ⟨h1.symm, h2.symm⟩
              have HF := hide hf
              clear hf
              obtain ⟨p0, p1, pf, pz, -⟩ := HX3.out.a0; obtain ⟨q0, q1, qf, qz, -⟩ := HX3.out.b0; obtain ⟨s0, s1, sf, sz, -⟩ := HX3.out.r
              go_upto_region 8 with (fail)
              clear p0 p1 pf pz q0 q1 qf qz s0 s1 sf sz
              go_cut [9, 10] from 9 to 47 (fun s9 s10 wx => ∃ (g : Nat) (c : Fa), s10 = .pointer (some ⟨g, 0, none⟩) ∧ s9 = .int .i64 ye ∧ Hid (Bq wx g c) ∧ Hid (Fo wx c yo) ∧ Hid (Below wc.heap.size wc wx))
              case first =>
                apply region_seqo 7 9 [41, 42, 43, 44, 45, 40, 46, 47, 10] [eqV _, eqV _, eqV _, fun x w => ∃ c : Fa, x = .agg #[.slice c.A c.n c.c, .slice c.B c.m c.d] ∧ Fo w c (some (mkRat ((100 - P : Nat) : Int) 100)), fun x w => ∃ c : Fa, x = .tuple #[.agg #[.slice c.A c.n c.c, .slice c.B c.m c.d], .int .i64 ye] ∧ Fo w c yo, fun x w => ∃ c : Fa, x = .tuple #[.agg #[.slice c.A c.n c.c, .slice c.B c.m c.d], .int .i64 ye] ∧ Fo w c yo, fun x w => ∃ c : Fa, x = .agg #[.slice c.A c.n c.c, .slice c.B c.m c.d] ∧ Fo w c yo, eqV _, fun x w => ∃ b : Nat, x = .pointer (some ⟨b, 0, none⟩) ∧ wc.heap.size ≤ b ∧ Bq w b fa0] [false, false, false, false, false, false, false, false, false] (by kernel_rfl) (by decide) (by decide) rfl rfl rfl (by decide) (by kernel_rfl) (by kernel_rfl) rfl ?stb28 ?steps28 ?fina28 ?finb28
                case stb28 => repeat' (first | exact trivial | apply stb_eq | (first | exact fun x w w' ⟨c, h1, h2⟩ hb => ⟨c, h1, h2.below hb⟩ | exact fun x w w' ⟨c, h1, h2, h3⟩ hb => ⟨c, h1, h2, h3.below hb⟩) | apply And.intro)
                case steps28 =>
                  repeat' (first | exact trivial | apply And.intro)
                  all_goals
                    intro a' w' hbw hdf hoff hdep K hK
                    (have o3 := hoff 4 rfl; have o2 := hoff 2 rfl)
                    (have HG := hide (HX3.out.below hbw); obtain ⟨p0, p1, pf, pz, -⟩ := HG.out.a0; obtain ⟨q0, q1, qf, qz, -⟩ := HG.out.b0; obtain ⟨s0, s1, sf, sz, -⟩ := HG.out.r; have hvz := hbw.size)
                    replace hdep := hdep _ rfl
                    simp only [List.getElem_toArray, List.getElem_cons_succ, List.getElem_cons_zero, List.toList_toArray, depAll, binds_data, binds_chain, binds_guard, binds_phase, binds_text, binds_gc, cond_true, cond_false, true_and, getR, eqV, List.getD_cons_succ, List.getD_cons_zero, and_true] at hdep
                    simp only [Nat.zero_add, Nat.reduceAdd, getR, eqV, List.getD_cons_succ, List.getD_cons_zero] at hK
                    clear hoff hdf
                    (first | (obtain ⟨e30, ⟨c1, e32, HO1⟩, hdep⟩ : (_ = _) ∧ (∃ c : Fa, _) ∧ _ := hdep) | (obtain ⟨⟨c1, e24, HO1⟩, hdep⟩ : (∃ c : Fa, _) ∧ _ := hdep) | (obtain ⟨c1, e24, HO1⟩ : ∃ c : Fa, _ := hdep) | skip)
                    first
                      | (refine rg_unwanted rfl rfl rfl (b' := false) (by first | (simp [hdep]; done) | assumption) (by decide) ?_; exact hK _ _ rfl (Below.refl _ _) (by simp))
                      | (refine rg_unwanted rfl rfl rfl (b' := true) (by first | (simp [hdep]; done) | assumption) (by decide) ?_; exact hK _ _ rfl (Below.refl _ _) (by simp))
                      | (refine rg_wanted rfl rfl rfl (b' := true) (by first | (simp [hdep]; done) | assumption) rfl (fun K' hKK => ?_); go_wp2_with (first | (go_at_call 31; (with_reducible refine (vaof_any _ _ 100 (100 - P) 100 (by first | rfl | omega) rfl (by omega) (by omega) (by omega)).mono ?_); rintro e w1 ⟨c, rfl, ho, hb⟩) | (go_at_call 45; (with_reducible refine (fmul_o _ b c1 (some s) (some (mkRat (((100 - P) : Nat) : Int) 100)) (fo_of HG.out.fb HBN.out) HO1).mono ?_); rintro e w1 ⟨c, rfl, ho, hb⟩; rw [HYE.out] at ho ⊢)); first | exact hK _ _ rfl (Below.refl _ _) (by simp) | (first | exact hK _ _ ⟨c, rfl, ho⟩ hb (by simp) | exact hK _ _ ⟨c1, rfl, HO1⟩ (Below.refl _ _) (by simp) | exact hK _ _ ⟨_, rfl, hvz, Bq.mk0 _ fa0 rfl⟩ ((Below.refl _ _).alloc (Nat.le_refl _) _) (by simp)))
                      | (refine rg_wanted rfl rfl rfl (b' := false) (by first | (simp [hdep]; done) | assumption) rfl (fun K' hKK => ?_); go_wp2_with (first | (go_at_call 31; (with_reducible refine (vaof_any _ _ 100 (100 - P) 100 (by first | rfl | omega) rfl (by omega) (by omega) (by omega)).mono ?_); rintro e w1 ⟨c, rfl, ho, hb⟩) | (go_at_call 45; (with_reducible refine (fmul_o _ b c1 (some s) (some (mkRat (((100 - P) : Nat) : Int) 100)) (fo_of HG.out.fb HBN.out) HO1).mono ?_); rintro e w1 ⟨c, rfl, ho, hb⟩; rw [HYE.out] at ho ⊢)); first | exact hK _ _ rfl (Below.refl _ _) (by simp) | (first | exact hK _ _ ⟨c, rfl, ho⟩ hb (by simp) | exact hK _ _ ⟨c1, rfl, HO1⟩ (Below.refl _ _) (by simp) | exact hK _ _ ⟨_, rfl, hvz, Bq.mk0 _ fa0 rfl⟩ ((Below.refl _ _).alloc (Nat.le_refl _) _) (by simp)))
                      | (refine rg_free rfl rfl (fun K' hKK => ?_); fail)
                      | (refine rg_free rfl rfl (fun K' hKK => ?_); go_wp2_with (first | (go_at_call 31; (with_reducible refine (vaof_any _ _ 100 (100 - P) 100 (by first | rfl | omega) rfl (by omega) (by omega) (by omega)).mono ?_); rintro e w1 ⟨c, rfl, ho, hb⟩) | (go_at_call 45; (with_reducible refine (fmul_o _ b c1 (some s) (some (mkRat (((100 - P) : Nat) : Int) 100)) (fo_of HG.out.fb HBN.out) HO1).mono ?_); rintro e w1 ⟨c, rfl, ho, hb⟩; rw [HYE.out] at ho ⊢)); first | exact hK _ _ rfl (Below.refl _ _) (by simp) | (first | exact hK _ _ ⟨c, rfl, ho⟩ hb (by simp) | exact hK _ _ ⟨c1, rfl, HO1⟩ (Below.refl _ _) (by simp) | exact hK _ _ ⟨_, rfl, hvz, Bq.mk0 _ fa0 rfl⟩ ((Below.refl _ _).alloc (Nat.le_refl _) _) (by simp)))
                all_goals
                  intro w' hbw
                  repeat (first | refine fin_eq ?_ | refine fin_any (fun x hx => ?_))
                  rename_i x15 h15 x16 h16
                  obtain ⟨c5, rfl, -⟩ := h15
                  obtain ⟨q, rfl, ho⟩ := h16
                  obtain ⟨g, rfl, hg, hq⟩ := hx
                  have HO := hide ho
                  have HQ := hide hq
                  have HBW := hide hbw
                  have hrel := hide (show ∃ (g' : Nat) (c' : Fa), Value.pointer (some ⟨g, 0, none⟩) = .pointer (some ⟨g', 0, none⟩) ∧ Hid (Bq ((w'.setCell ⟨g, 0, none⟩ (.slice q.A q.n q.c)).setCell ⟨g, 1, none⟩ (.slice q.B q.m q.d)) g' c') ∧ Hid (Fo ((w'.setCell ⟨g, 0, none⟩ (.slice q.A q.n q.c)).setCell ⟨g, 1, none⟩ (.slice q.B q.m q.d)) c' yo) ∧ Hid (Below wc.heap.size wc ((w'.setCell ⟨g, 0, none⟩ (.slice q.A q.n q.c)).setCell ⟨g, 1, none⟩ (.slice q.B q.m q.d))) from
                    ⟨g, q, rfl, hide (HQ.out.fill q), hide (HO.out.fill HQ.out q), hide (Rb.end0 HBW.out hg _ _)⟩)
                  obtain ⟨c0, c1, cf, cz, -⟩ := HQ.out
                  clear ho hq hbw
                  refine fin_nil ?_
                  simp only [List.setIfInBounds_toArray, List.set_cons_succ, List.set_cons_zero]
                · skip
                  refine wpAny_one (i := 9) (by kernel_rfl) ?_
                  refine rg_free rfl rfl (fun K' hKK => ?_)
                  go_wp2_with fail
                  refine wpAny_one (i := 10) (by kernel_rfl) ?_
                  refine rg_free rfl rfl (fun K' hKK => ?_)
                  go_wp2_with fail
                  refine wpAny_done (by kernel_rfl) ?_ _
                  go_wp2_with fail
                  go_meet
                  case rel => obtain ⟨g', c', h1, h2⟩ := hrel.out; exact ⟨g', c', h1, rfl, h2⟩
                · skip
                  refine wpAny_two (i := 7) (j := 9) (by kernel_rfl) ?_ ?_
                  · skip
                    refine rg_free rfl rfl (fun K' hKK => ?_)
                    go_wp2_with fail
                    refine wpAny_one (i := 9) (by kernel_rfl) ?_
                    refine rg_free rfl rfl (fun K' hKK => ?_)
                    go_wp2_with fail
                    refine wpAny_one (i := 10) (by kernel_rfl) ?_
                    refine rg_free rfl rfl (fun K' hKK => ?_)
                    go_wp2_with fail
                    refine wpAny_done (by kernel_rfl) ?_ _
                    go_wp2_with fail
                    go_meet
                    case rel => obtain ⟨g', c', h1, h2⟩ := hrel.out; exact ⟨g', c', h1, rfl, h2⟩
                  · skip
                    refine rg_free rfl rfl (fun K' hKK => ?_)
                    go_wp2_with fail
                    refine wpAny_one (i := 7) (by kernel_rfl) ?_
                    refine rg_free rfl rfl (fun K' hKK => ?_)
                    go_wp2_with fail
                    refine wpAny_one (i := 10) (by kernel_rfl) ?_
                    refine rg_free rfl rfl (fun K' hKK => ?_)
                    go_wp2_with fail
                    refine wpAny_done (by kernel_rfl) ?_ _
                    go_wp2_with fail
                    go_meet
                    case rel => obtain ⟨g', c', h1, h2⟩ := hrel.out; exact ⟨g', c', h1, rfl, h2⟩
              case rest =>
                obtain ⟨g10, c10, rfl, rfl, HQ10, HO10, HB10⟩ := hcut
                have HX4 := hide (HX3.out.below HB10.out)
                have HQ8' := hide (HQ8.out.below HB10.out)
                have HO8' := hide (HO8.out.below HB10.out)
                clear HX3 HQ8 HO8 HB10
                by_cases hf2 : fitsR (s * mkRat ((100 - P : Nat) : Int) 100) = true
                · obtain ⟨rfl, rfl⟩ := (mulR_cases HYE.out).1 hf2
                  have HMX := hide (mixR_in hP HF.out hf2)
                  clear hf2
                  obtain ⟨e0, e1, -, ez, -⟩ := HQ8'.out
                  obtain ⟨d0, d1, -, dz, -⟩ := HQ10.out
                  obtain ⟨zo, ze, hze⟩ : ∃ zo ze, addR (some (r * mkRat (P : Int) 100)) (some (s * mkRat ((100 - P : Nat) : Int) 100)) = (zo, ze) := ⟨_, _, rfl⟩
                  have HZE := hide hze
                  clear hze
                  go_wp2_with (go_at_call 36; (with_reducible refine (fadd_o _ c8 c10 _ _ HO8'.out HO10.out).mono ?_); rintro e w5 ⟨c11, rfl, ho, hb⟩; rw [HZE.out] at ho ⊢; have HO11 := hide ho; have HX5 := hide (HX4.out.below hb); obtain ⟨s0, s1, sf, sz, -⟩ := HX5.out.r; clear ho hb)
                  refine bodyPost_ret (v := .tuple #[.agg #[.slice c11.A c11.n c11.c, .slice c11.B c11.m c11.d], .int .i64 ze]) (by simp [results, Try.results25, go_sem, *]) rfl ⟨c11, by rw [HMX.out, HZE.out], by rw [HMX.out, HZE.out]; exact HO11.out.put2 HX5.out.r.nb _ _ (by simp), Rb.end0 HX5.out.bw (by omega) _ _⟩
                · obtain ⟨rfl, rfl⟩ := (mulR_cases HYE.out).2 hf2
                  have HMX := hide (mixR_no2 hP HF.out hf2)
                  clear hf2
                  obtain ⟨s0, s1, sf, sz, -⟩ := HX4.out.r
                  go_wp2_with fail
                  refine bodyPost_ret (v := .tuple #[.agg #[.slice fa0.A fa0.n fa0.c, .slice fa0.B fa0.m fa0.d], .int .i64 2]) (by simp [results, Try.results25, go_sem, *]) rfl ⟨fa0, by rw [HMX.out], by rw [HMX.out]; exact (Fo.nil _).put2 HX4.out.r.nb _ _ (by simp), Rb.end0 HX4.out.bw (by omega) _ _⟩
            · obtain ⟨rfl, rfl⟩ := (mulR_cases HXE.out).2 hf
              have HMX := hide (mixR_no1 (s := s) hP hf)
              clear hf
              obtain ⟨s0, s1, sf, sz, -⟩ := HX3.out.r
              go_wp2_with fail
              refine bodyPost_ret (v := .tuple #[.agg #[.slice fa0.A fa0.n fa0.c, .slice fa0.B fa0.m fa0.d], .int .i64 2]) (by simp [results, Try.results25, go_sem, *]) rfl ⟨fa0, by rw [HMX.out], by rw [HMX.out]; exact (Fo.nil _).put2 HX3.out.r.nb _ _ (by simp), Rb.end0 HX3.out.bw (by omega) _ _⟩
end Go.Proofs.Ytnofljgmkdommaa
