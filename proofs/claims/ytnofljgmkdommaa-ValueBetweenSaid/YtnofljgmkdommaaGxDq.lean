/- The law ValueBetween. -/
import Derived.Test.YtnofljgmkdommaaG24
import Derived.Test.YtnofljgmkdommaaG16
import Derived.Test.YtnofljgmkdommaaG25
set_option linter.unusedVariables false
set_option linter.unusedSimpArgs false

/- The law ValueBetween. -/
namespace Go.Proofs.Ytnofljgmkdommaa
open Go.RowKit

/-- Boxes of fractions. -/
def VBs (v : World) (L : List (Nat × Fa × Rat)) : Prop := ∀ x ∈ L, Bq v x.1 x.2.1 ∧ Fo v x.2.1 (some x.2.2)
theorem VBs.below {v v' : World} {L : List (Nat × Fa × Rat)} (h : VBs v L) (hb : Below v.heap.size v v') : VBs v' L := fun x hx => ⟨(h x hx).1.below hb, (h x hx).2.below hb⟩
theorem VBs.add {v : World} {L : List (Nat × Fa × Rat)} (h : VBs v L) {q : Fa} {r : Rat} (ho : Fo v q (some r)) (t : TypeId) {g : Nat} (hg : g = v.heap.size) : VBs (v.alloc (.cells #[.slice q.A q.n q.c, .slice q.B q.m q.d] t)) ((g, q, r) :: L) := by
  intro x hx
  rcases List.mem_cons.1 hx with rfl | hx
  · exact ⟨Bq.mk0 t q hg, ho.alloc _⟩
  · exact ⟨(h x hx).1.alloc _, (h x hx).2.alloc _⟩
theorem vamixed_o (w : World) (a b : Fa) (o o' : Option Rat) (p : Int) (ha : Fo w a o) (hb : Fo w b o') : Calls Try.prog 25 #[.agg #[.slice a.A a.n a.c, .slice a.B a.m a.d], .agg #[.slice b.A b.n b.c, .slice b.B b.m b.d], .int .i64 p] w fun e w' => Ret w (mixR o o' p) e w' := by
  have := vamixed_any w a b _ _ _ _ p ha.1 hb.1
  rwa [fracOf_self ha.2, fracOf_self hb.2] at this
theorem vavalue_o (w : World) (a : Fa) (o : Option Rat) (c : Int) (ha : Fo w a o) : Calls Try.prog 23 #[.agg #[.slice a.A a.n a.c, .slice a.B a.m a.d], .int .i64 c] w fun e w' => Ret w (valR o c) e w' := by
  have := vavalue_any w a _ _ c ha.1
  rwa [fracOf_self ha.2] at this
theorem VBs.bq {v : World} {L : List (Nat × Fa × Rat)} (h : VBs v L) {g : Nat} {q : Fa} {r : Rat} (hm : (g, q, r) ∈ L) : Bq v g q := (h _ hm).1
theorem VBs.fo {v : World} {L : List (Nat × Fa × Rat)} (h : VBs v L) {g : Nat} {q : Fa} {r : Rat} (hm : (g, q, r) ∈ L) : Fo v q (some r) := (h _ hm).2
set_option maxRecDepth 100000 in
set_option maxHeartbeats 16000000 in
theorem vabet28_walk (w : World) (A : Option Addr) (n c : Nat) (l : List Int) (part changed : Int) (hA : Rs w none 1 iv A l) (hl : l.length = n) :
    Calls Try.prog 9 #[.slice A n c, .int .i64 part, .int .i64 changed] w fun e w' => e = .returned (.bool true) ∧ Below w.heap.size w w' := by
  have HP := hide (tp_new (w := w) (c := c) hA hl 52)
  clear hA hl
  obtain ⟨P, hP, hFP⟩ := fold_nat part 100 (by omega) (by omega)
  obtain ⟨C, hC, hFC⟩ := fold_nat changed 1024 (by omega) (by omega)
  have HFP := hide hFP
  have HFC := hide hFC
  have hP2 : P < 100 := by omega
  have hC2 : C < 1024 := by omega
  clear hFP hFC hP hC
  go_enter Try.func9, Try.ntmps9
  go_upto_region 3 with (go_at_call 27; (with_reducible refine (twom_any _ w.heap.size A n c l 0 HP.out (by omega)).mono ?_); rintro e w1 ⟨fa, fb, r, s, rfl, ho, ho2, hc1, hc2, hrs, -, hf⟩; have HB1 := hide (fr_new rfl hf); have HO := hide ho; have HO2 := hide ho2; have HCR := hide hc1; have HCS := hide hc2; have HRS := hide hrs; clear ho ho2 hc1 hc2 hrs hf)
  generalize hW : World.alloc (World.alloc w1 _) _ = v
  have HV := hide (show VBs v [(w1.heap.size + 1, fb, s), (w1.heap.size, fa, r)] by
    rw [← hW]
    exact VBs.add (VBs.add (L := []) (fun x hx => by cases hx) HO.out _ rfl) (HO2.out.alloc _) _ (by simp))
  have HB := hide (show Below w.heap.size w v by rw [← hW]; exact HB1.out.trans ((((Below.refl _ _).alloc (Nat.le_refl _) _).alloc (by simp) _ : Below w1.heap.size w1 _).mono HB1.out.size))
  obtain ⟨G, hG⟩ : ∃ G, G = w1.heap.size := ⟨_, rfl⟩
  rw [← hG] at HV ⊢
  clear hW hG HO HO2 HB1 HP
  have hM0 : Hid (mixR (some r) (some s) (P : Int) = (some (mixV r s P), 0)) := hide (mix_ok HCR.out HCS.out (by omega))
  have hM1 : Hid (mixR (some r) (some s) ((P : Int) + 1) = (some (mixV r s (P + 1)), 0)) := hide (by have := mix_ok HCR.out HCS.out (p := P + 1) (by omega); rwa [show ((P + 1 : Nat) : Int) = (P : Int) + 1 by omega] at this)
  have hV0 : Hid (valR (some r) (C : Int) = (some (r * mkRat (1 + (C : Int)) 1), 0)) := hide (val_ok HCR.out (by omega))
  have hV1 : Hid (valR (some r) ((C : Int) + 1) = (some (r * mkRat (1 + ((C + 1 : Nat) : Int)) 1), 0)) := hide (by have := val_ok HCR.out (c := C + 1) (by omega); rwa [show valR (some r) ((C + 1 : Nat) : Int) = valR (some r) ((C : Int) + 1) by rw [show ((C + 1 : Nat) : Int) = (C : Int) + 1 by omega]] at this)
  obtain ⟨x, hx⟩ : ∃ x, x = mixV r s P := ⟨_, rfl⟩
  obtain ⟨y, hy⟩ : ∃ y, y = mixV r s (P + 1) := ⟨_, rfl⟩
  obtain ⟨a1, ha1⟩ : ∃ a1, a1 = r * mkRat (1 + (C : Int)) 1 := ⟨_, rfl⟩
  obtain ⟨a2, ha2⟩ : ∃ a2, a2 = r * mkRat (1 + ((C + 1 : Nat) : Int)) 1 := ⟨_, rfl⟩
  have HC1 := hide (show decide (cmpO (some r) (some y) ≤ 0) = true from decide_eq_true (cmpQ_le.2 (by rw [hy]; exact mix_lo (Rat.le_of_lt HRS.out.2.1) (by omega))))
  have HC2 := hide (show decide (cmpO (some y) (some x) < 0) = true from decide_eq_true (cmpQ_neg.2 (by rw [hx, hy]; exact mix_lt HRS.out.2.1)))
  have HC3 := hide (show decide (cmpO (some x) (some s) ≤ 0) = true from decide_eq_true (cmpQ_le.2 (by rw [hx]; exact mix_hi (Rat.le_of_lt HRS.out.2.1))))
  have HC4 := hide (show decide (cmpO (some a1) (some a2) < 0) = true from decide_eq_true (cmpQ_neg.2 (by rw [ha1, ha2]; exact val_lt HRS.out.1)))
  rw [← hx] at hM0
  rw [← hy] at hM1
  rw [← ha1] at hV0
  rw [← ha2] at hV1
  clear hx hy ha1 ha2
  obtain ⟨y0, y1, -, yz, -⟩ := (HV.out.bq (g := G) (q := fa) (r := r) (by simp))
  obtain ⟨z0, z1, -, zz, -⟩ := (HV.out.bq (g := G + 1) (q := fb) (r := s) (by simp))
  go_upto_region 5 with (first
    | (go_at_call 15; (with_reducible refine (HFP.out _).mono ?_); rintro e w' ⟨rfl, rfl⟩)
    | (go_at_call 15; (with_reducible refine (HFC.out _).mono ?_); rintro e w' ⟨rfl, rfl⟩)
    | (go_at_call 25; (with_reducible refine (vamixed_o _ fa fb (some r) (some s) _ (HV.out.fo (g := G) (q := fa) (r := r) (by simp)) (HV.out.fo (g := G + 1) (q := fb) (r := s) (by simp))).mono ?_); rintro e u0 ⟨q10, rfl, ho, hb⟩; rw [hM0.out] at ho ⊢; dsimp only at ho ⊢; have HO0 := hide ho; have HU0 := hide (HV.out.below hb); have HBU0 := hide (HB.out.trans (hb.mono HB.out.size)); clear ho hb))
  generalize hW : World.alloc u0 _ = v0
  have HV0 := hide (show VBs v0 [(u0.heap.size, q10, x), (G + 1, fb, s), (G, fa, r)] by rw [← hW]; exact VBs.add HU0.out HO0.out _ rfl)
  have HBV0 := hide (show Below w.heap.size w v0 by rw [← hW]; exact HBU0.out.alloc HBU0.out.size _)
  obtain ⟨g10, hg10⟩ : ∃ g, g = u0.heap.size := ⟨_, rfl⟩
  rw [← hg10] at HV0 ⊢
  clear y0 y1 yz
  clear z0 z1 zz
  clear hW hg10 HO0 HU0 HBU0
  obtain ⟨y0, y1, -, yz, -⟩ := (HV0.out.bq (g := G) (q := fa) (r := r) (by simp))
  obtain ⟨z0, z1, -, zz, -⟩ := (HV0.out.bq (g := G + 1) (q := fb) (r := s) (by simp))
  go_upto_region 6 with (go_at_call 25; (with_reducible refine (vamixed_o _ fa fb (some r) (some s) _ (HV0.out.fo (g := G) (q := fa) (r := r) (by simp)) (HV0.out.fo (g := G + 1) (q := fb) (r := s) (by simp))).mono ?_); rintro e u1 ⟨q12, rfl, ho, hb⟩; rw [hM1.out] at ho ⊢; dsimp only at ho ⊢; have HO1 := hide ho; have HU1 := hide (HV0.out.below hb); have HBU1 := hide (HBV0.out.trans (hb.mono HBV0.out.size)); clear ho hb)
  generalize hW : World.alloc u1 _ = v1
  have HV1 := hide (show VBs v1 [(u1.heap.size, q12, y), (g10, q10, x), (G + 1, fb, s), (G, fa, r)] by rw [← hW]; exact VBs.add HU1.out HO1.out _ rfl)
  have HBV1 := hide (show Below w.heap.size w v1 by rw [← hW]; exact HBU1.out.alloc HBU1.out.size _)
  obtain ⟨g12, hg12⟩ : ∃ g, g = u1.heap.size := ⟨_, rfl⟩
  rw [← hg12] at HV1 ⊢
  clear y0 y1 yz
  clear z0 z1 zz
  clear hW hg12 HO1 HU1 HBU1
  obtain ⟨y0, y1, -, yz, -⟩ := (HV1.out.bq (g := G) (q := fa) (r := r) (by simp))
  go_upto_region 7 with (go_at_call 23; (with_reducible refine (vavalue_o _ fa (some r) _ (HV1.out.fo (g := G) (q := fa) (r := r) (by simp))).mono ?_); rintro e u2 ⟨q14, rfl, ho, hb⟩; rw [hV0.out] at ho ⊢; dsimp only at ho ⊢; have HO2 := hide ho; have HU2 := hide (HV1.out.below hb); have HBU2 := hide (HBV1.out.trans (hb.mono HBV1.out.size)); clear ho hb)
  generalize hW : World.alloc u2 _ = v2
  have HV2 := hide (show VBs v2 [(u2.heap.size, q14, a1), (g12, q12, y), (g10, q10, x), (G + 1, fb, s), (G, fa, r)] by rw [← hW]; exact VBs.add HU2.out HO2.out _ rfl)
  have HBV2 := hide (show Below w.heap.size w v2 by rw [← hW]; exact HBU2.out.alloc HBU2.out.size _)
  obtain ⟨g14, hg14⟩ : ∃ g, g = u2.heap.size := ⟨_, rfl⟩
  rw [← hg14] at HV2 ⊢
  clear y0 y1 yz
  clear hW hg14 HO2 HU2 HBU2
  obtain ⟨y0, y1, -, yz, -⟩ := (HV2.out.bq (g := G) (q := fa) (r := r) (by simp))
  go_upto_region 8 with (go_at_call 23; (with_reducible refine (vavalue_o _ fa (some r) _ (HV2.out.fo (g := G) (q := fa) (r := r) (by simp))).mono ?_); rintro e u3 ⟨q16, rfl, ho, hb⟩; rw [hV1.out] at ho ⊢; dsimp only at ho ⊢; have HO3 := hide ho; have HU3 := hide (HV2.out.below hb); have HBU3 := hide (HBV2.out.trans (hb.mono HBV2.out.size)); clear ho hb)
  generalize hW : World.alloc u3 _ = v3
  have HV3 := hide (show VBs v3 [(u3.heap.size, q16, a2), (g14, q14, a1), (g12, q12, y), (g10, q10, x), (G + 1, fb, s), (G, fa, r)] by rw [← hW]; exact VBs.add HU3.out HO3.out _ rfl)
  have HBV3 := hide (show Below w.heap.size w v3 by rw [← hW]; exact HBU3.out.alloc HBU3.out.size _)
  obtain ⟨g16, hg16⟩ : ∃ g, g = u3.heap.size := ⟨_, rfl⟩
  rw [← hg16] at HV3 ⊢
  clear y0 y1 yz
  clear hW hg16 HO3 HU3 HBU3
  obtain ⟨b00, b01, -, b0z, -⟩ := (HV3.out.bq (g := G) (q := fa) (r := r) (by simp)); obtain ⟨b10, b11, -, b1z, -⟩ := (HV3.out.bq (g := G + 1) (q := fb) (r := s) (by simp)); obtain ⟨b20, b21, -, b2z, -⟩ := (HV3.out.bq (g := g10) (q := q10) (r := x) (by simp)); obtain ⟨b30, b31, -, b3z, -⟩ := (HV3.out.bq (g := g12) (q := q12) (r := y) (by simp)); obtain ⟨b40, b41, -, b4z, -⟩ := (HV3.out.bq (g := g14) (q := q14) (r := a1) (by simp)); obtain ⟨b50, b51, -, b5z, -⟩ := (HV3.out.bq (g := g16) (q := q16) (r := a2) (by simp))
  have k1 := HC1.out
  have k2 := HC2.out
  have k3 := HC3.out
  have k4 := HC4.out
  go_wp2_with (first
    | (go_at_call 19; (with_reducible refine (fcmp_o _ fa q12 _ _ (HV3.out.fo (g := G) (q := fa) (r := r) (by simp)) (HV3.out.fo (g := g12) (q := q12) (r := y) (by simp))).mono ?_); rintro e m0 ⟨rfl, hb⟩; have HM0 := hide (HV3.out.below hb); have HMB0 := hide (HBV3.out.trans (hb.mono HBV3.out.size)); obtain ⟨b00, b01, -, b0z, -⟩ := (HM0.out.bq (g := G) (q := fa) (r := r) (by simp)); obtain ⟨b10, b11, -, b1z, -⟩ := (HM0.out.bq (g := G + 1) (q := fb) (r := s) (by simp)); obtain ⟨b20, b21, -, b2z, -⟩ := (HM0.out.bq (g := g10) (q := q10) (r := x) (by simp)); obtain ⟨b30, b31, -, b3z, -⟩ := (HM0.out.bq (g := g12) (q := q12) (r := y) (by simp)); obtain ⟨b40, b41, -, b4z, -⟩ := (HM0.out.bq (g := g14) (q := q14) (r := a1) (by simp)); obtain ⟨b50, b51, -, b5z, -⟩ := (HM0.out.bq (g := g16) (q := q16) (r := a2) (by simp)); clear hb)
    | (go_at_call 19; (with_reducible refine (fcmp_o _ q12 q10 _ _ (HM0.out.fo (g := g12) (q := q12) (r := y) (by simp)) (HM0.out.fo (g := g10) (q := q10) (r := x) (by simp))).mono ?_); rintro e m1 ⟨rfl, hb⟩; have HM1 := hide (HM0.out.below hb); have HMB1 := hide (HMB0.out.trans (hb.mono HMB0.out.size)); obtain ⟨b00, b01, -, b0z, -⟩ := (HM1.out.bq (g := G) (q := fa) (r := r) (by simp)); obtain ⟨b10, b11, -, b1z, -⟩ := (HM1.out.bq (g := G + 1) (q := fb) (r := s) (by simp)); obtain ⟨b20, b21, -, b2z, -⟩ := (HM1.out.bq (g := g10) (q := q10) (r := x) (by simp)); obtain ⟨b30, b31, -, b3z, -⟩ := (HM1.out.bq (g := g12) (q := q12) (r := y) (by simp)); obtain ⟨b40, b41, -, b4z, -⟩ := (HM1.out.bq (g := g14) (q := q14) (r := a1) (by simp)); obtain ⟨b50, b51, -, b5z, -⟩ := (HM1.out.bq (g := g16) (q := q16) (r := a2) (by simp)); clear hb)
    | (go_at_call 19; (with_reducible refine (fcmp_o _ q10 fb _ _ (HM1.out.fo (g := g10) (q := q10) (r := x) (by simp)) (HM1.out.fo (g := G + 1) (q := fb) (r := s) (by simp))).mono ?_); rintro e m2 ⟨rfl, hb⟩; have HM2 := hide (HM1.out.below hb); have HMB2 := hide (HMB1.out.trans (hb.mono HMB1.out.size)); obtain ⟨b00, b01, -, b0z, -⟩ := (HM2.out.bq (g := G) (q := fa) (r := r) (by simp)); obtain ⟨b10, b11, -, b1z, -⟩ := (HM2.out.bq (g := G + 1) (q := fb) (r := s) (by simp)); obtain ⟨b20, b21, -, b2z, -⟩ := (HM2.out.bq (g := g10) (q := q10) (r := x) (by simp)); obtain ⟨b30, b31, -, b3z, -⟩ := (HM2.out.bq (g := g12) (q := q12) (r := y) (by simp)); obtain ⟨b40, b41, -, b4z, -⟩ := (HM2.out.bq (g := g14) (q := q14) (r := a1) (by simp)); obtain ⟨b50, b51, -, b5z, -⟩ := (HM2.out.bq (g := g16) (q := q16) (r := a2) (by simp)); clear hb)
    | (go_at_call 19; (with_reducible refine (fcmp_o _ q14 q16 _ _ (HM2.out.fo (g := g14) (q := q14) (r := a1) (by simp)) (HM2.out.fo (g := g16) (q := q16) (r := a2) (by simp))).mono ?_); rintro e m3 ⟨rfl, hb⟩; have HM3 := hide (HM2.out.below hb); have HMB3 := hide (HMB2.out.trans (hb.mono HMB2.out.size)); obtain ⟨b00, b01, -, b0z, -⟩ := (HM3.out.bq (g := G) (q := fa) (r := r) (by simp)); obtain ⟨b10, b11, -, b1z, -⟩ := (HM3.out.bq (g := G + 1) (q := fb) (r := s) (by simp)); obtain ⟨b20, b21, -, b2z, -⟩ := (HM3.out.bq (g := g10) (q := q10) (r := x) (by simp)); obtain ⟨b30, b31, -, b3z, -⟩ := (HM3.out.bq (g := g12) (q := q12) (r := y) (by simp)); obtain ⟨b40, b41, -, b4z, -⟩ := (HM3.out.bq (g := g14) (q := q14) (r := a1) (by simp)); obtain ⟨b50, b51, -, b5z, -⟩ := (HM3.out.bq (g := g16) (q := q16) (r := a2) (by simp)); clear hb)
    | (go_at_call 10; (with_reducible refine (vknown28_any _).mono ?_); rintro e m5 ⟨rfl, hb⟩; have HM5 := hide (HMB3.out.trans (hb.mono HMB3.out.size)); clear hb))
  go_ret
  exact ⟨rfl, HM5.out⟩
end Go.Proofs.Ytnofljgmkdommaa
