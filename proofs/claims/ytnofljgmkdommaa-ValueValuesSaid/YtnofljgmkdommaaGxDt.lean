/- The law ValueValues. -/
import Derived.Test.YtnofljgmkdommaaG24
import Derived.Test.YtnofljgmkdommaaG16
import Derived.Test.YtnofljgmkdommaaG25
set_option linter.unusedVariables false
set_option linter.unusedSimpArgs false

/- The law ValueBetween. -/
namespace Go.Proofs.Ytnofljgmkdommaa
open Go.RowKit

/-- Boxes of fractions. -/
def VBs (v : World) (L : List (Nat × Fa × Rat)) : Prop := ∀ x ∈ L, Bq v x.1 x.2.1 ∧ Fo v x.2.1 (some x.2.2)
theorem VBs.below {v v' : World} {L : List (Nat × Fa × Rat)} (h : VBs v L) (hb : Below v.heap.size v v') : VBs v' L := fun x hx => ⟨(h x hx).1.below hb, (h x hx).2.below hb⟩
theorem VBs.add {v : World} {L : List (Nat × Fa × Rat)} (h : VBs v L) {q : Fa} {r : Rat} (ho : Fo v q (some r)) (t : TypeId) {g : Nat} (hg : g = v.heap.size) : VBs (v.alloc (.cells #[.slice q.A q.n q.c, .slice q.B q.m q.d] t)) ((g, q, r) :: L) := by
  intro x hx
  rcases List.mem_cons.1 hx with rfl | hx
  · exact ⟨Bq.mk0 t q hg, ho.alloc _⟩
  · exact ⟨(h x hx).1.alloc _, (h x hx).2.alloc _⟩
theorem vamixed_o (w : World) (a b : Fa) (o o' : Option Rat) (p : Int) (ha : Fo w a o) (hb : Fo w b o') : Calls Try.prog 25 #[.agg #[.slice a.A a.n a.c, .slice a.B a.m a.d], .agg #[.slice b.A b.n b.c, .slice b.B b.m b.d], .int .i64 p] w fun e w' => Ret w (mixR o o' p) e w' := by
  have := vamixed_any w a b _ _ _ _ p ha.1 hb.1
  rwa [fracOf_self ha.2, fracOf_self hb.2] at this
theorem vavalue_o (w : World) (a : Fa) (o : Option Rat) (c : Int) (ha : Fo w a o) : Calls Try.prog 23 #[.agg #[.slice a.A a.n a.c, .slice a.B a.m a.d], .int .i64 c] w fun e w' => Ret w (valR o c) e w' := by
  have := vavalue_any w a _ _ c ha.1
  rwa [fracOf_self ha.2] at this
theorem VBs.bq {v : World} {L : List (Nat × Fa × Rat)} (h : VBs v L) {g : Nat} {q : Fa} {r : Rat} (hm : (g, q, r) ∈ L) : Bq v g q := (h _ hm).1
theorem VBs.fo {v : World} {L : List (Nat × Fa × Rat)} (h : VBs v L) {g : Nat} {q : Fa} {r : Rat} (hm : (g, q, r) ∈ L) : Fo v q (some r) := (h _ hm).2
set_option maxRecDepth 100000 in
set_option maxHeartbeats 16000000 in
theorem vabet28_walk (w : World) (A : Option Addr) (n c : Nat) (l : List Int) (part changed : Int) (hA : Rs w none 1 iv A l) (hl : l.length = n) :
    Calls Try.prog 9 #[.slice A n c, .int .i64 part, .int .i64 changed] w fun e w' => e = .returned (.bool true) ∧ Below w.heap.size w w' := by
  have HP := hide (tp_new (w := w) (c := c) hA hl 52)
  clear hA hl
  obtain ⟨P, hP, hFP⟩ := fold_nat part 100 (by omega) (by omega)
  obtain ⟨C, hC, hFC⟩ := fold_nat changed 1024 (by omega) (by omega)
  have HFP := hide hFP
  have HFC := hide hFC
  have hP2 : P < 100 := by omega
  have hC2 : C < 1024 := by omega
  clear hFP hFC hP hC
  go_enter Try.func9, Try.ntmps9
  go_upto_region 3 with (go_at_call 27; (with_reducible refine (twom_any _ w.heap.size A n c l 0 HP.out (by omega)).mono ?_); rintro e w1 ⟨fa, fb, r, s, rfl, ho, ho2, hc1, hc2, hrs, -, hf⟩; have HB1 := hide (fr_new rfl hf); have HO := hide ho; have HO2 := hide ho2; have HCR := hide hc1; have HCS := hide hc2; have HRS := hide hrs; clear ho ho2 hc1 hc2 hrs hf)
  generalize hW : World.alloc (World.alloc w1 _) _ = v
  have HV := hide (show VBs v [(w1.heap.size + 1, fb, s), (w1.heap.size, fa, r)] by
    rw [← hW]
    exact VBs.add (VBs.add (L := []) (fun x hx => by cases hx) HO.out _ rfl) (HO2.out.alloc _) _ (by simp))
  have HB := hide (show Below w.heap.size w v by rw [← hW]; exact HB1.out.trans ((((Below.refl _ _).alloc (Nat.le_refl _) _).alloc (by simp) _ : Below w1.heap.size w1 _).mono HB1.out.size))
  obtain ⟨G, hG⟩ : ∃ G, G = w1.heap.size := ⟨_, rfl⟩
  rw [← hG] at HV ⊢
  clear hW hG HO HO2 HB1 HP
  have hM0 : Hid (mixR (some r) (some s) (P : Int) = (some (mixV r s P), 0)) := hide (mix_ok HCR.out HCS.out (by omega))
  have hM1 : Hid (mixR (some r) (some s) ((P : Int) + 1) = (some (mixV r s (P + 1)), 0)) := hide (by have := mix_ok HCR.out HCS.out (p := P + 1) (by omega); rwa [show ((P + 1 : Nat) : Int) = (P : Int) + 1 by omega] at this)
  have hV0 : Hid (valR (some r) (C : Int) = (some (r * mkRat (1 + (C : Int)) 1), 0)) := hide (val_ok HCR.out (by omega))
  have hV1 : Hid (valR (some r) ((C : Int) + 1) = (some (r * mkRat (1 + ((C + 1 : Nat) : Int)) 1), 0)) := hide (by have := val_ok HCR.out (c := C + 1) (by omega); rwa [show valR (some r) ((C + 1 : Nat) : Int) = valR (some r) ((C : Int) + 1) by rw [show ((C + 1 : Nat) : Int) = (C : Int) + 1 by omega]] at this)
  obtain ⟨x, hx⟩ : ∃ x, x = mixV r s P := ⟨_, rfl⟩
  obtain ⟨y, hy⟩ : ∃ y, y = mixV r s (P + 1) := ⟨_, rfl⟩
  obtain ⟨a1, ha1⟩ : ∃ a1, a1 = r * mkRat (1 + (C : Int)) 1 := ⟨_, rfl⟩
  obtain ⟨a2, ha2⟩ : ∃ a2, a2 = r * mkRat (1 + ((C + 1 : Nat) : Int)) 1 := ⟨_, rfl⟩
  have HC1 := hide (show decide (cmpO (some r) (some y) ≤ 0) = true from decide_eq_true (cmpQ_le.2 (by rw [hy]; exact mix_lo (Rat.le_of_lt HRS.out.2.1) (by omega))))
  have HC2 := hide (show decide (cmpO (some y) (some x) < 0) = true from decide_eq_true (cmpQ_neg.2 (by rw [hx, hy]; exact mix_lt HRS.out.2.1)))
  have HC3 := hide (show decide (cmpO (some x) (some s) ≤ 0) = true from decide_eq_true (cmpQ_le.2 (by rw [hx]; exact mix_hi (Rat.le_of_lt HRS.out.2.1))))
  have HC4 := hide (show decide (cmpO (some a1) (some a2) < 0) = true from decide_eq_true (cmpQ_neg.2 (by rw [ha1, ha2]; exact val_lt HRS.out.1)))
  rw [← hx] at hM0
  rw [← hy] at hM1
  rw [← ha1] at hV0
  rw [← ha2] at hV1
  clear hx hy ha1 ha2
  obtain ⟨y0, y1, -, yz, -⟩ := (HV.out.bq (g := G) (q := fa) (r := r) (by simp))
  obtain ⟨z0, z1, -, zz, -⟩ := (HV.out.bq (g := G + 1) (q := fb) (r := s) (by simp))
  go_upto_region 5 with (first
    | (go_at_call 15; (with_reducible refine (HFP.out _).mono ?_); rintro e w' ⟨rfl, rfl⟩)
    | (go_at_call 15; (with_reducible refine (HFC.out _).mono ?_); rintro e w' ⟨rfl, rfl⟩)
    | (go_at_call 25; (with_reducible refine (vamixed_o _ fa fb (some r) (some s) _ (HV.out.fo (g := G) (q := fa) (r := r) (by simp)) (HV.out.fo (g := G + 1) (q := fb) (r := s) (by simp))).mono ?_); rintro e u0 ⟨q10, rfl, ho, hb⟩; rw [hM0.out] at ho ⊢; dsimp only at ho ⊢; have HO0 := hide ho; have HU0 := hide (HV.out.below hb); have HBU0 := hide (HB.out.trans (hb.mono HB.out.size)); clear ho hb))
  generalize hW : World.alloc u0 _ = v0
  have HV0 := hide (show VBs v0 [(u0.heap.size, q10, x), (G + 1, fb, s), (G, fa, r)] by rw [← hW]; exact VBs.add HU0.out HO0.out _ rfl)
  have HBV0 := hide (show Below w.heap.size w v0 by rw [← hW]; exact HBU0.out.alloc HBU0.out.size _)
  obtain ⟨g10, hg10⟩ : ∃ g, g = u0.heap.size := ⟨_, rfl⟩
  rw [← hg10] at HV0 ⊢
  clear y0 y1 yz
  clear z0 z1 zz
  clear hW hg10 HO0 HU0 HBU0
  obtain ⟨y0, y1, -, yz, -⟩ := (HV0.out.bq (g := G) (q := fa) (r := r) (by simp))
  obtain ⟨z0, z1, -, zz, -⟩ := (HV0.out.bq (g := G + 1) (q := fb) (r := s) (by simp))
  go_upto_region 6 with (go_at_call 25; (with_reducible refine (vamixed_o _ fa fb (some r) (some s) _ (HV0.out.fo (g := G) (q := fa) (r := r) (by simp)) (HV0.out.fo (g := G + 1) (q := fb) (r := s) (by simp))).mono ?_); rintro e u1 ⟨q12, rfl, ho, hb⟩; rw [hM1.out] at ho ⊢; dsimp only at ho ⊢; have HO1 := hide ho; have HU1 := hide (HV0.out.below hb); have HBU1 := hide (HBV0.out.trans (hb.mono HBV0.out.size)); clear ho hb)
  generalize hW : World.alloc u1 _ = v1
  have HV1 := hide (show VBs v1 [(u1.heap.size, q12, y), (g10, q10, x), (G + 1, fb, s), (G, fa, r)] by rw [← hW]; exact VBs.add HU1.out HO1.out _ rfl)
  have HBV1 := hide (show Below w.heap.size w v1 by rw [← hW]; exact HBU1.out.alloc HBU1.out.size _)
  obtain ⟨g12, hg12⟩ : ∃ g, g = u1.heap.size := ⟨_, rfl⟩
  rw [← hg12] at HV1 ⊢
  clear y0 y1 yz
  clear z0 z1 zz
  clear hW hg12 HO1 HU1 HBU1
  obtain ⟨y0, y1, -, yz, -⟩ := (HV1.out.bq (g := G) (q := fa) (r := r) (by simp))
  go_upto_region 7 with (go_at_call 23; (with_reducible refine (vavalue_o _ fa (some r) _ (HV1.out.fo (g := G) (q := fa) (r := r) (by simp))).mono ?_); rintro e u2 ⟨q14, rfl, ho, hb⟩; rw [hV0.out] at ho ⊢; dsimp only at ho ⊢; have HO2 := hide ho; have HU2 := hide (HV1.out.below hb); have HBU2 := hide (HBV1.out.trans (hb.mono HBV1.out.size)); clear ho hb)
  generalize hW : World.alloc u2 _ = v2
  have HV2 := hide (show VBs v2 [(u2.heap.size, q14, a1), (g12, q12, y), (g10, q10, x), (G + 1, fb, s), (G, fa, r)] by rw [← hW]; exact VBs.add HU2.out HO2.out _ rfl)
  have HBV2 := hide (show Below w.heap.size w v2 by rw [← hW]; exact HBU2.out.alloc HBU2.out.size _)
  obtain ⟨g14, hg14⟩ : ∃ g, g = u2.heap.size := ⟨_, rfl⟩
  rw [← hg14] at HV2 ⊢
  clear y0 y1 yz
  clear hW hg14 HO2 HU2 HBU2
  obtain ⟨y0, y1, -, yz, -⟩ := (HV2.out.bq (g := G) (q := fa) (r := r) (by simp))
  go_upto_region 8 with (go_at_call 23; (with_reducible refine (vavalue_o _ fa (some r) _ (HV2.out.fo (g := G) (q := fa) (r := r) (by simp))).mono ?_); rintro e u3 ⟨q16, rfl, ho, hb⟩; rw [hV1.out] at ho ⊢; dsimp only at ho ⊢; have HO3 := hide ho; have HU3 := hide (HV2.out.below hb); have HBU3 := hide (HBV2.out.trans (hb.mono HBV2.out.size)); clear ho hb)
  generalize hW : World.alloc u3 _ = v3
  have HV3 := hide (show VBs v3 [(u3.heap.size, q16, a2), (g14, q14, a1), (g12, q12, y), (g10, q10, x), (G + 1, fb, s), (G, fa, r)] by rw [← hW]; exact VBs.add HU3.out HO3.out _ rfl)
  have HBV3 := hide (show Below w.heap.size w v3 by rw [← hW]; exact HBU3.out.alloc HBU3.out.size _)
  obtain ⟨g16, hg16⟩ : ∃ g, g = u3.heap.size := ⟨_, rfl⟩
  rw [← hg16] at HV3 ⊢
  clear y0 y1 yz
  clear hW hg16 HO3 HU3 HBU3
  obtain ⟨b00, b01, -, b0z, -⟩ := (HV3.out.bq (g := G) (q := fa) (r := r) (by simp)); obtain ⟨b10, b11, -, b1z, -⟩ := (HV3.out.bq (g := G + 1) (q := fb) (r := s) (by simp)); obtain ⟨b20, b21, -, b2z, -⟩ := (HV3.out.bq (g := g10) (q := q10) (r := x) (by simp)); obtain ⟨b30, b31, -, b3z, -⟩ := (HV3.out.bq (g := g12) (q := q12) (r := y) (by simp)); obtain ⟨b40, b41, -, b4z, -⟩ := (HV3.out.bq (g := g14) (q := q14) (r := a1) (by simp)); obtain ⟨b50, b51, -, b5z, -⟩ := (HV3.out.bq (g := g16) (q := q16) (r := a2) (by simp))
  have k1 := HC1.out
  have k2 := HC2.out
  have k3 := HC3.out
  have k4 := HC4.out
  go_wp2_with (first
    | (go_at_call 19; (with_reducible refine (fcmp_o _ fa q12 _ _ (HV3.out.fo (g := G) (q := fa) (r := r) (by simp)) (HV3.out.fo (g := g12) (q := q12) (r := y) (by simp))).mono ?_); rintro e m0 ⟨rfl, hb⟩; have HM0 := hide (HV3.out.below hb); have HMB0 := hide (HBV3.out.trans (hb.mono HBV3.out.size)); obtain ⟨b00, b01, -, b0z, -⟩ := (HM0.out.bq (g := G) (q := fa) (r := r) (by simp)); obtain ⟨b10, b11, -, b1z, -⟩ := (HM0.out.bq (g := G + 1) (q := fb) (r := s) (by simp)); obtain ⟨b20, b21, -, b2z, -⟩ := (HM0.out.bq (g := g10) (q := q10) (r := x) (by simp)); obtain ⟨b30, b31, -, b3z, -⟩ := (HM0.out.bq (g := g12) (q := q12) (r := y) (by simp)); obtain ⟨b40, b41, -, b4z, -⟩ := (HM0.out.bq (g := g14) (q := q14) (r := a1) (by simp)); obtain ⟨b50, b51, -, b5z, -⟩ := (HM0.out.bq (g := g16) (q := q16) (r := a2) (by simp)); clear hb)
    | (go_at_call 19; (with_reducible refine (fcmp_o _ q12 q10 _ _ (HM0.out.fo (g := g12) (q := q12) (r := y) (by simp)) (HM0.out.fo (g := g10) (q := q10) (r := x) (by simp))).mono ?_); rintro e m1 ⟨rfl, hb⟩; have HM1 := hide (HM0.out.below hb); have HMB1 := hide (HMB0.out.trans (hb.mono HMB0.out.size)); obtain ⟨b00, b01, -, b0z, -⟩ := (HM1.out.bq (g := G) (q := fa) (r := r) (by simp)); obtain ⟨b10, b11, -, b1z, -⟩ := (HM1.out.bq (g := G + 1) (q := fb) (r := s) (by simp)); obtain ⟨b20, b21, -, b2z, -⟩ := (HM1.out.bq (g := g10) (q := q10) (r := x) (by simp)); obtain ⟨b30, b31, -, b3z, -⟩ := (HM1.out.bq (g := g12) (q := q12) (r := y) (by simp)); obtain ⟨b40, b41, -, b4z, -⟩ := (HM1.out.bq (g := g14) (q := q14) (r := a1) (by simp)); obtain ⟨b50, b51, -, b5z, -⟩ := (HM1.out.bq (g := g16) (q := q16) (r := a2) (by simp)); clear hb)
    | (go_at_call 19; (with_reducible refine (fcmp_o _ q10 fb _ _ (HM1.out.fo (g := g10) (q := q10) (r := x) (by simp)) (HM1.out.fo (g := G + 1) (q := fb) (r := s) (by simp))).mono ?_); rintro e m2 ⟨rfl, hb⟩; have HM2 := hide (HM1.out.below hb); have HMB2 := hide (HMB1.out.trans (hb.mono HMB1.out.size)); obtain ⟨b00, b01, -, b0z, -⟩ := (HM2.out.bq (g := G) (q := fa) (r := r) (by simp)); obtain ⟨b10, b11, -, b1z, -⟩ := (HM2.out.bq (g := G + 1) (q := fb) (r := s) (by simp)); obtain ⟨b20, b21, -, b2z, -⟩ := (HM2.out.bq (g := g10) (q := q10) (r := x) (by simp)); obtain ⟨b30, b31, -, b3z, -⟩ := (HM2.out.bq (g := g12) (q := q12) (r := y) (by simp)); obtain ⟨b40, b41, -, b4z, -⟩ := (HM2.out.bq (g := g14) (q := q14) (r := a1) (by simp)); obtain ⟨b50, b51, -, b5z, -⟩ := (HM2.out.bq (g := g16) (q := q16) (r := a2) (by simp)); clear hb)
    | (go_at_call 19; (with_reducible refine (fcmp_o _ q14 q16 _ _ (HM2.out.fo (g := g14) (q := q14) (r := a1) (by simp)) (HM2.out.fo (g := g16) (q := q16) (r := a2) (by simp))).mono ?_); rintro e m3 ⟨rfl, hb⟩; have HM3 := hide (HM2.out.below hb); have HMB3 := hide (HMB2.out.trans (hb.mono HMB2.out.size)); obtain ⟨b00, b01, -, b0z, -⟩ := (HM3.out.bq (g := G) (q := fa) (r := r) (by simp)); obtain ⟨b10, b11, -, b1z, -⟩ := (HM3.out.bq (g := G + 1) (q := fb) (r := s) (by simp)); obtain ⟨b20, b21, -, b2z, -⟩ := (HM3.out.bq (g := g10) (q := q10) (r := x) (by simp)); obtain ⟨b30, b31, -, b3z, -⟩ := (HM3.out.bq (g := g12) (q := q12) (r := y) (by simp)); obtain ⟨b40, b41, -, b4z, -⟩ := (HM3.out.bq (g := g14) (q := q14) (r := a1) (by simp)); obtain ⟨b50, b51, -, b5z, -⟩ := (HM3.out.bq (g := g16) (q := q16) (r := a2) (by simp)); clear hb)
    | (go_at_call 10; (with_reducible refine (vknown28_any _).mono ?_); rintro e m5 ⟨rfl, hb⟩; have HM5 := hide (HMB3.out.trans (hb.mono HMB3.out.size)); clear hb))
  go_ret
  exact ⟨rfl, HM5.out⟩
end Go.Proofs.Ytnofljgmkdommaa

/- Contract: small of the value laws. -/
namespace Go.Proofs.Ytnofljgmkdommaa
open Go.RowKit

set_option maxRecDepth 100000 in
set_option maxHeartbeats 8000000 in
theorem vsmall28_any (w : World) (g c : Nat) (p q : Fa) (hC : Cb w g [.slice p.A p.n p.c, .slice p.B p.m p.d, .slice q.A q.n q.c, .slice q.B q.m q.d]) :
    Calls Try.prog 20 #[.slice (some ⟨g, 0, none⟩) 2 c] w fun e w' => ∃ z : Bool, e = .returned (.bool z) ∧ Below w.heap.size w w' := by
  have HC := hide hC
  clear hC
  go_enter Try.func20, Try.ntmps20
  go_upto_region 3 with (fail)
  go_loopw [3, 4] (fun sv iv' wr => ∃ (k : Nat) (s : Int), sv = .int .i64 s ∧ iv' = .int .i64 (k : Int) ∧ k ≤ 2 ∧ Hid (Below w.heap.size w wr)) (fun _ iv' _ => 2 - (intOf iv').toNat)
  case atStart => exact ⟨0, 0, rfl, rfl, by omega, hide (Below.refl _ _)⟩
  case round =>
    obtain ⟨k, s, rfl, rfl, hk, HB⟩ := hrel
    have HCr := hide (HC.out.below HB.out)
    have c0 := HCr.out.cell 0 _ rfl
    have c1 := HCr.out.cell 1 _ rfl
    have c2 := HCr.out.cell 2 _ rfl
    have c3 := HCr.out.cell 3 _ rfl
    have cz := HCr.out.sz
    rcases (show k = 0 ∨ k = 1 ∨ k = 2 by omega) with rfl | rfl | rfl
    · go_upto_region 5 with (fail)
      go_quiet (fail)
      go_wp2_with fail
      go_roundw
      case rel => exact ⟨1, _, rfl, rfl, by omega, hide (HB.out.trans (Below.mono (Dr.below ⟨_, rfl⟩) HB.out.size))⟩
      case measure => simp [intOf]
    · go_upto_region 5 with (fail)
      go_quiet (fail)
      go_wp2_with fail
      go_roundw
      case rel => exact ⟨2, _, rfl, rfl, by omega, hide (HB.out.trans (Below.mono (Dr.below ⟨_, rfl⟩) HB.out.size))⟩
      case measure => simp [intOf]
    · go_wp2_with fail
      go_ret
      exact ⟨_, rfl, HB.out⟩
end Go.Proofs.Ytnofljgmkdommaa

/- The law ValueValues. -/
namespace Go.Proofs.Ytnofljgmkdommaa
open Go.RowKit

/-- Two fractions with what their limbs read. -/
structure V4 where
  a : Fa
  b : Fa
  la : List Nat
  ka : List Nat
  lb : List Nat
  kb : List Nat
/-- Pairs of fractions in a row. -/
def VRow (v : World) (b : Nat) (fs : List V4) : Prop :=
  b < v.heap.size ∧ ∀ i x, fs[i]? = some x → (v.cell? ⟨b, i * 4, none⟩ = some (.slice x.a.A x.a.n x.a.c) ∧ v.cell? ⟨b, i * 4 + 1, none⟩ = some (.slice x.a.B x.a.m x.a.d) ∧ v.cell? ⟨b, i * 4 + 2, none⟩ = some (.slice x.b.A x.b.n x.b.c) ∧ v.cell? ⟨b, i * 4 + 3, none⟩ = some (.slice x.b.B x.b.m x.b.d)) ∧ Fq v x.a x.la x.ka ∧ Fq v x.b x.lb x.kb
theorem VRow.below {v v' : World} {b : Nat} {fs : List V4} (h : VRow v b fs) (hb : Below v.heap.size v v') : VRow v' b fs := by
  have h1 := h.1
  refine ⟨Nat.lt_of_lt_of_le h1 hb.size, fun i x hx => ?_⟩
  obtain ⟨⟨h2, h3, h4, h5⟩, h6, h7⟩ := h.2 i x hx
  exact ⟨⟨by rw [hb.cell (by simp; omega)]; exact h2, by rw [hb.cell (by simp; omega)]; exact h3, by rw [hb.cell (by simp; omega)]; exact h4, by rw [hb.cell (by simp; omega)]; exact h5⟩, h6.below hb, h7.below hb⟩
theorem vrow_three {w : World} {x0 x1 x2 : V4} (h0 : Fq w x0.a x0.la x0.ka ∧ Fq w x0.b x0.lb x0.kb) (h1 : Fq w x1.a x1.la x1.ka ∧ Fq w x1.b x1.lb x1.kb) (h2 : Fq w x2.a x2.la x2.ka ∧ Fq w x2.b x2.lb x2.kb) (t : TypeId) :
    VRow (w.alloc (.cells #[.slice x0.a.A x0.a.n x0.a.c, .slice x0.a.B x0.a.m x0.a.d, .slice x0.b.A x0.b.n x0.b.c, .slice x0.b.B x0.b.m x0.b.d, .slice x1.a.A x1.a.n x1.a.c, .slice x1.a.B x1.a.m x1.a.d, .slice x1.b.A x1.b.n x1.b.c, .slice x1.b.B x1.b.m x1.b.d, .slice x2.a.A x2.a.n x2.a.c, .slice x2.a.B x2.a.m x2.a.d, .slice x2.b.A x2.b.n x2.b.c, .slice x2.b.B x2.b.m x2.b.d] t)) w.heap.size [x0, x1, x2] := by
  refine ⟨by simp, fun i x hx => ?_⟩
  match i with
  | 0 => simp at hx; subst hx; exact ⟨⟨by simp [go_sem], by simp [go_sem], by simp [go_sem], by simp [go_sem]⟩, h0.1.alloc _, h0.2.alloc _⟩
  | 1 => simp at hx; subst hx; exact ⟨⟨by simp [go_sem], by simp [go_sem], by simp [go_sem], by simp [go_sem]⟩, h1.1.alloc _, h1.2.alloc _⟩
  | 2 => simp at hx; subst hx; exact ⟨⟨by simp [go_sem], by simp [go_sem], by simp [go_sem], by simp [go_sem]⟩, h2.1.alloc _, h2.2.alloc _⟩
  | i + 3 => simp at hx
/-- A pair in a box of its own, among worlds that only grow. -/
structure VP (w0 v : World) (g : Nat) (x : V4) : Prop where
  bw : Below w0.heap.size w0 v
  cb : Cb v g [.slice x.a.A x.a.n x.a.c, .slice x.a.B x.a.m x.a.d, .slice x.b.A x.b.n x.b.c, .slice x.b.B x.b.m x.b.d]
  qa : Fq v x.a x.la x.ka
  qb : Fq v x.b x.lb x.kb
theorem VP.below {w0 v v' : World} {g : Nat} {x : V4} (h : VP w0 v g x) (hb : Below v.heap.size v v') : VP w0 v' g x := ⟨h.bw.trans (hb.mono h.bw.size), h.cb.below hb, h.qa.below hb, h.qb.below hb⟩
theorem smallk9 (w : World) (k : Nat) (h : k ≤ 8) : Calls Try.prog 18 #[.int .i64 (1 + (k : Int)), .int .i64 1] w fun e w' => Ret1 w (some (mkRat ((1 + k : Nat) : Int) 1)) e w' := by
  have := small_any w (1 + k) 1 (by omega) (by omega) (by omega)
  rwa [show ((1 + k : Nat) : Int) = 1 + (k : Int) by omega] at this ⊢
set_option maxRecDepth 100000 in
set_option maxHeartbeats 16000000 in
theorem vaval28_walk (w : World) (A : Option Addr) (n c : Nat) (l : List Int) (p q : Fa) (lp kp lq kq : List Nat) (changed part : Int) (hA : Rs w none 1 iv A l) (hl : l.length = n) (hp : Fq w p lp kp) (hq : Fq w q lq kq) :
    Calls Try.prog 8 #[.slice A n c, .agg #[.slice p.A p.n p.c, .slice p.B p.m p.d], .agg #[.slice q.A q.n q.c, .slice q.B q.m q.d], .int .i64 changed, .int .i64 part] w fun e w' => e = .returned (.bool true) ∧ Below w.heap.size w w' := by
  have HPQ := hide (And.intro hp hq)
  have HA := hide (And.intro hA hl)
  clear hA hl hp hq
  go_enter Try.func8, Try.ntmps8
  go_upto_region 1 with (fail)
  generalize hW : World.alloc (World.alloc w _) _ = v
  have HBV := hide (show Below w.heap.size w v by rw [← hW]; exact ((Below.refl _ _).alloc (Nat.le_refl _) _).alloc (by simp) _)
  have HK := hide (show Bq v w.heap.size p ∧ Bq v (w.heap.size + 1) q by rw [← hW]; exact ⟨(Bq.mk0 _ p rfl).alloc _, Bq.mk0 _ q (by simp)⟩)
  clear hW
  obtain ⟨y0, y1, -, yz, -⟩ := HK.out.1
  obtain ⟨z0, z1, -, zz, -⟩ := HK.out.2
  go_upto_if 26 with (go_at_call 20; (with_reducible refine (vsmall28_any _ v.heap.size _ p q (Cb.mk0 [.slice p.A p.n p.c, .slice p.B p.m p.d, .slice q.A q.n q.c, .slice q.B q.m q.d] (by simp) _ rfl)).mono ?_); rintro e w1 ⟨z, rfl, hb⟩; have HK1 := hide (show Bq w1 w.heap.size p ∧ Bq w1 (w.heap.size + 1) q from ⟨(HK.out.1.alloc _).below hb, (HK.out.2.alloc _).below hb⟩); have HB1 := hide (HBV.out.trans ((((Below.refl _ _).alloc (Nat.le_refl _) _ : Below v.heap.size v _).trans (hb.mono (by simp))).mono HBV.out.size)); clear hb)
  cases z with
  | false =>
    go_wp2_with (go_at_call 10; (with_reducible refine (vknown28_any _).mono ?_); rintro e w2 ⟨rfl, hb⟩; have HB2 := hide (HB1.out.trans (hb.mono HB1.out.size)); clear hb)
    go_ret
    exact ⟨rfl, HB2.out⟩
  | true =>
    clear y0 y1 yz z0 z1 zz
    go_upto_region 4 with (fail)
    generalize hW : World.alloc w1 _ = v1
    obtain ⟨T, hT⟩ : ∃ T, T = w1.heap.size := ⟨_, rfl⟩
    have HT := hide (show Tp v1 T A n c l 0 by rw [← hW, hT]; exact tp_new (HA.out.1.below HB1.out) HA.out.2 _)
    have HBV1 := hide (show Below w.heap.size w v1 by rw [← hW]; exact HB1.out.alloc HB1.out.size _)
    have HK2 := hide (show Bq v1 w.heap.size p ∧ Bq v1 (w.heap.size + 1) q by rw [← hW]; exact ⟨HK1.out.1.alloc _, HK1.out.2.alloc _⟩)
    have hTw : w.heap.size + 1 < T := by rw [hT]; exact HK1.out.2.sz
    have hTv : T < v1.heap.size := by rw [← hW, hT]; simp
    rw [← hT]
    clear hW hT HA HK HK1 HBV HB1
    have kE := (And.intro HK2.out.1.c0 (And.intro HK2.out.1.c1 (And.intro HK2.out.2.c0 HK2.out.2.c1)))
    go_region_held3 (fun W => (W.cell? ⟨w.heap.size, 0, none⟩ = some (.slice p.A p.n p.c) ∧ W.cell? ⟨w.heap.size, 1, none⟩ = some (.slice p.B p.m p.d) ∧ W.cell? ⟨w.heap.size + 1, 0, none⟩ = some (.slice q.A q.n q.c) ∧ W.cell? ⟨w.heap.size + 1, 1, none⟩ = some (.slice q.B q.m q.d))) (first | with_reducible exact kE | with_reducible exact kE1 | with_reducible exact kE2 | with_reducible exact kE3 | (refine ⟨?_, ?_, ?_, ?_⟩ <;> go_keep)) (first
      | (go_at_call 21; refine (chancem_any _ T A n c l 0 (by first | exact HT.out | exact HT.out.below (Dr.below ⟨1, rfl⟩)) (by omega)).mono ?_; rintro e w1 ⟨f1, r1, rfl, ho, -, hp, hf⟩; have HF1 := hide (by first | exact hf | exact ((Fr.refl v1 _).drew).trans hf : Fr v1 w1 (fun b => b = T)); have HO1 := hide ho; have HT1 := hide hp; have HK3 := hide (And.intro (HK2.out.1.one HF1.out (by omega)) (HK2.out.2.one HF1.out (by omega))); have kE1 := (And.intro HK3.out.1.c0 (And.intro HK3.out.1.c1 (And.intro HK3.out.2.c0 HK3.out.2.c1))); clear ho hp hf)
      | (go_at_call 21; refine (chancem_any _ T A n c l 2 (by first | exact HT1.out | exact HT1.out.below (Dr.below ⟨1, rfl⟩)) (by omega)).mono ?_; rintro e w2 ⟨f2, r2, rfl, ho, -, hp, hf⟩; have hf' := (by first | exact hf | exact ((Fr.refl w1 _).drew).trans hf : Fr w1 w2 (fun b => b = T)); have HF2 := hide (HF1.out.trans hf'); have HO2 := hide ho; have HO12 := hide (HO1.out.one hf' HT1.out.nb); have HT2 := hide hp; have HK4 := hide (And.intro (HK3.out.1.one hf' (by omega)) (HK3.out.2.one hf' (by omega))); have kE2 := (And.intro HK4.out.1.c0 (And.intro HK4.out.1.c1 (And.intro HK4.out.2.c0 HK4.out.2.c1))); clear ho hp hf hf')
      | (go_at_call 22; refine (nextp_any _ T A n c l 4 9 (by first | exact HT2.out | exact HT2.out.below (Dr.below ⟨1, rfl⟩)) (by omega) (by omega)).mono ?_; rintro e w3 ⟨rfl, hp, hf⟩; have hf' := (by first | exact hf | exact ((Fr.refl w2 _).drew).trans hf : Fr w2 w3 (fun b => b = T)); obtain ⟨k3, hk3, hk9⟩ := tapeV_nat l 4 9; rw [hk3]; have HF3 := hide (HF2.out.trans hf'); have HO13 := hide (HO12.out.one hf' HT2.out.nb); have HO23 := hide (HO2.out.one hf' HT2.out.nb); have hk8 : k3 ≤ 8 := (by omega); have hwk : IntKind.i64.wrap (1 + (k3 : Int)) = 1 + (k3 : Int) := IntWalk.i64_in _ (by omega); have HK5 := hide (And.intro (HK4.out.1.one hf' (by omega)) (HK4.out.2.one hf' (by omega))); have kE3 := (And.intro HK5.out.1.c0 (And.intro HK5.out.1.c1 (And.intro HK5.out.2.c0 HK5.out.2.c1))); clear hp hf hf' hk3 hk9)
      | (go_at_call 18; (with_reducible refine (smallk9 _ k3 hk8).mono ?_); rintro e w4 ⟨f3, rfl, ho, hb⟩; have hb' : Below w3.heap.size w3 w4 := (by first | exact hb | exact Below.of_drew hb); have HO3 := hide ho; have HF4 := hide (HF3.out.below_ hb'); have HO14 := hide (HO13.out.below hb'); have HO24 := hide (HO23.out.below hb'); have HK6 := hide (And.intro (HK5.out.1.below hb') (HK5.out.2.below hb')); have kE4 := (And.intro HK6.out.1.c0 (And.intro HK6.out.1.c1 (And.intro HK6.out.2.c0 HK6.out.2.c1))); clear ho hb hb'))
    have HB4 := hide (show Below w.heap.size w w4 from ((Fr.of_below (fun b => b = T) HBV1.out).trans HF4.out).below (Nat.le_refl _) (fun k hk e => by omega))
    generalize hW : World.alloc w4 _ = v2
    have HFR := hide (show VRow v2 w4.heap.size [⟨p, q, lp, kp, lq, kq⟩, ⟨f1, f2, lm (rn r1), lm r1.den, lm (rn r2), lm r2.den⟩, ⟨f3, q, lm (rn (mkRat ((1 + k3 : Nat) : Int) 1)), lm (mkRat ((1 + k3 : Nat) : Int) 1).den, lq, kq⟩] by
      rw [← hW]
      exact vrow_three (x0 := ⟨p, q, lp, kp, lq, kq⟩) (x1 := ⟨f1, f2, _, _, _, _⟩) (x2 := ⟨f3, q, _, _, _, _⟩) ⟨HPQ.out.1.below HB4.out, HPQ.out.2.below HB4.out⟩ ⟨HO14.out.1, HO24.out.1⟩ ⟨HO3.out.1, HPQ.out.2.below HB4.out⟩ _)
    have HB2 := hide (show Below w.heap.size w v2 by rw [← hW]; exact HB4.out.alloc HB4.out.size _)
    obtain ⟨b2, hb2⟩ : ∃ b, b = w4.heap.size := ⟨_, rfl⟩
    rw [← hb2] at HFR ⊢
    obtain ⟨row, hrow⟩ : ∃ row, row = [(⟨p, q, lp, kp, lq, kq⟩ : V4), ⟨f1, f2, lm (rn r1), lm r1.den, lm (rn r2), lm r2.den⟩, ⟨f3, q, lm (rn (mkRat ((1 + k3 : Nat) : Int) 1)), lm (mkRat ((1 + k3 : Nat) : Int) 1).den, lq, kq⟩] := ⟨_, rfl⟩
    rw [← hrow] at HFR
    have HRL := hide (show row.length = 3 by rw [hrow]; rfl)
    clear hrow hW hb2 kE kE1 kE2 kE3 kE4 HB4 HPQ HF1 HF2 HF3 HF4 HO1 HO12 HO13 HO14 HO2 HO23 HO24 HO3 HT HT1 HT2 HK2 HK3 HK4 HK5 HK6 HBV1 hwk hk8 hTw hTv
    rename_i hHeld
    clear hHeld
    go_wp2_with fail
    go_loopw [47] (fun iv wr => ∃ j : Nat, iv = .int .i64 (j : Int) ∧ j ≤ 3 ∧ Hid (Below v2.heap.size v2 wr)) (fun iv _ => 3 - (intOf iv).toNat)
    case atStart => exact ⟨0, rfl, by omega, hide (Below.refl _ _)⟩
    case round =>
      obtain ⟨j, rfl, hj, HBr⟩ := hrel
      by_cases hj2 : j = 3
      · subst hj2
        go_wp2_with (go_at_call 10; (with_reducible refine (vknown28_any _).mono ?_); rintro e w9 ⟨rfl, hb⟩; have HB9 := hide (HBr.out.trans (hb.mono HBr.out.size)); clear hb)
        go_ret
        exact ⟨rfl, HB2.out.trans (HB9.out.mono HB2.out.size)⟩
      · have hj0 : (0 : Int) ≤ (j : Int) := by omega
        have hjlt : (j : Int) < 3 := by omega
        obtain ⟨x, hx⟩ : ∃ x, row[j]? = some x := ⟨_, List.getElem?_eq_getElem (by rw [HRL.out]; omega)⟩
        obtain ⟨⟨q0, q1, q2, q3⟩, hqa, hqb⟩ := (HFR.out.below HBr.out).2 j _ hx
        have HQr := hide (And.intro hqa hqb)
        obtain ⟨X, hX⟩ : ∃ X, X = valR (fracOf x.la x.ka) changed := ⟨_, rfl⟩
        obtain ⟨Y, hY⟩ : ∃ Y, Y = mixR (fracOf x.la x.ka) (fracOf x.lb x.kb) part := ⟨_, rfl⟩
        have HX := hide hX
        have HY := hide hY
        clear hx hqa hqb hX hY
        go_upto_region 7 with (fail)
        generalize hW : World.alloc wr _ = z0
        have HZ0 := hide (show VP wr z0 wr.heap.size x by rw [← hW]; exact ⟨(Below.refl _ _).alloc (Nat.le_refl _) _, Cb.mk0 [.slice x.a.A x.a.n x.a.c, .slice x.a.B x.a.m x.a.d, .slice x.b.A x.b.n x.b.c, .slice x.b.B x.b.m x.b.d] (by simp) _ rfl, HQr.out.1.alloc _, HQr.out.2.alloc _⟩)
        obtain ⟨g, hg⟩ : ∃ g, g = wr.heap.size := ⟨_, rfl⟩
        rw [← hg] at HZ0 ⊢
        clear hW hg HQr q0 q1 q2 q3
        have y0 := HZ0.out.cb.cell 0 _ rfl; have y1 := HZ0.out.cb.cell 1 _ rfl; have y2 := HZ0.out.cb.cell 2 _ rfl; have y3 := HZ0.out.cb.cell 3 _ rfl; have yz := HZ0.out.cb.sz
        go_upto_region 8 with (go_at_call 23; (with_reducible refine (vavalue_any _ x.a x.la x.ka changed HZ0.out.qa).mono ?_); rintro e u1 ⟨c1, rfl, ho, hb⟩; rw [← HX.out] at ho ⊢; have HO1 := hide ho; have HU1 := hide (HZ0.out.below hb); clear ho hb)
        generalize hW : World.alloc u1 _ = z1
        have HZ1 := hide (show VP wr z1 g x by rw [← hW]; exact HU1.out.below ((Below.refl _ _).alloc (Nat.le_refl _) _))
        have HX1 := hide (show Bq z1 u1.heap.size c1 ∧ Fo z1 c1 X.1 by rw [← hW]; exact ⟨Bq.mk0 _ c1 rfl, HO1.out.alloc _⟩)
        obtain ⟨g1, hg1⟩ : ∃ g, g = u1.heap.size := ⟨_, rfl⟩
        rw [← hg1] at HX1 ⊢
        clear hW hg1 HZ0 HU1 HO1
        clear y0 y1 y2 y3 yz
        have y0 := HZ1.out.cb.cell 0 _ rfl; have y1 := HZ1.out.cb.cell 1 _ rfl; have y2 := HZ1.out.cb.cell 2 _ rfl; have y3 := HZ1.out.cb.cell 3 _ rfl; have yz := HZ1.out.cb.sz
        go_upto_region 9 with (go_at_call 24; (with_reducible refine (r28value_any _ x.a x.la x.ka changed HZ1.out.qa).mono ?_); rintro e u2 ⟨c2, rfl, ho, hb⟩; rw [← HX.out] at ho ⊢; have HO2 := hide ho; have HU2 := hide (HZ1.out.below hb); have HX12 := hide (And.intro (HX1.out.1.below hb) (HX1.out.2.below hb)); clear ho hb)
        generalize hW : World.alloc u2 _ = z2
        have HZ2 := hide (show VP wr z2 g x by rw [← hW]; exact HU2.out.below ((Below.refl _ _).alloc (Nat.le_refl _) _))
        have HX2 := hide (show (Bq z2 g1 c1 ∧ Fo z2 c1 X.1) ∧ Bq z2 u2.heap.size c2 ∧ Fo z2 c2 X.1 by rw [← hW]; exact ⟨⟨HX12.out.1.alloc _, HX12.out.2.alloc _⟩, Bq.mk0 _ c2 rfl, HO2.out.alloc _⟩)
        obtain ⟨g2, hg2⟩ : ∃ g, g = u2.heap.size := ⟨_, rfl⟩
        rw [← hg2] at HX2 ⊢
        clear hW hg2 HZ1 HU2 HO2 HX1 HX12
        clear y0 y1 y2 y3 yz
        have y0 := HZ2.out.cb.cell 0 _ rfl; have y1 := HZ2.out.cb.cell 1 _ rfl; have y2 := HZ2.out.cb.cell 2 _ rfl; have y3 := HZ2.out.cb.cell 3 _ rfl; have yz := HZ2.out.cb.sz
        go_upto_region 10 with (go_at_call 25; (with_reducible refine (vamixed_any _ x.a x.b x.la x.ka x.lb x.kb part HZ2.out.qa HZ2.out.qb).mono ?_); rintro e u3 ⟨c3, rfl, ho, hb⟩; rw [← HY.out] at ho ⊢; have HO3 := hide ho; have HU3 := hide (HZ2.out.below hb); have HX23 := hide (show (Bq u3 g1 c1 ∧ Fo u3 c1 X.1) ∧ Bq u3 g2 c2 ∧ Fo u3 c2 X.1 from ⟨⟨HX2.out.1.1.below hb, HX2.out.1.2.below hb⟩, HX2.out.2.1.below hb, HX2.out.2.2.below hb⟩); clear ho hb)
        generalize hW : World.alloc u3 _ = z3
        have HZ3 := hide (show VP wr z3 g x by rw [← hW]; exact HU3.out.below ((Below.refl _ _).alloc (Nat.le_refl _) _))
        have HX3 := hide (show ((Bq z3 g1 c1 ∧ Fo z3 c1 X.1) ∧ Bq z3 g2 c2 ∧ Fo z3 c2 X.1) ∧ Bq z3 u3.heap.size c3 ∧ Fo z3 c3 Y.1 by rw [← hW]; exact ⟨⟨⟨HX23.out.1.1.alloc _, HX23.out.1.2.alloc _⟩, HX23.out.2.1.alloc _, HX23.out.2.2.alloc _⟩, Bq.mk0 _ c3 rfl, HO3.out.alloc _⟩)
        obtain ⟨g3, hg3⟩ : ∃ g, g = u3.heap.size := ⟨_, rfl⟩
        rw [← hg3] at HX3 ⊢
        clear hW hg3 HZ2 HU3 HO3 HX2 HX23
        clear y0 y1 y2 y3 yz
        have y0 := HZ3.out.cb.cell 0 _ rfl; have y1 := HZ3.out.cb.cell 1 _ rfl; have y2 := HZ3.out.cb.cell 2 _ rfl; have y3 := HZ3.out.cb.cell 3 _ rfl; have yz := HZ3.out.cb.sz
        go_upto_region 11 with (go_at_call 26; (with_reducible refine (r28mixed_any _ x.a x.b x.la x.ka x.lb x.kb part HZ3.out.qa HZ3.out.qb).mono ?_); rintro e u4 ⟨c4, rfl, ho, hb⟩; rw [← HY.out] at ho ⊢; have HO4 := hide ho; have HU4 := hide (HZ3.out.below hb); have HX34 := hide (show ((Bq u4 g1 c1 ∧ Fo u4 c1 X.1) ∧ Bq u4 g2 c2 ∧ Fo u4 c2 X.1) ∧ Bq u4 g3 c3 ∧ Fo u4 c3 Y.1 from ⟨⟨⟨HX3.out.1.1.1.below hb, HX3.out.1.1.2.below hb⟩, HX3.out.1.2.1.below hb, HX3.out.1.2.2.below hb⟩, HX3.out.2.1.below hb, HX3.out.2.2.below hb⟩); clear ho hb)
        generalize hW : World.alloc u4 _ = z4
        have HB5 := hide (show Below wr.heap.size wr z4 by rw [← hW]; exact (HU4.out.below ((Below.refl _ _).alloc (Nat.le_refl _) _)).bw)
        have HX4 := hide (show (((Bq z4 g1 c1 ∧ Fo z4 c1 X.1) ∧ Bq z4 g2 c2 ∧ Fo z4 c2 X.1) ∧ Bq z4 g3 c3 ∧ Fo z4 c3 Y.1) ∧ Bq z4 u4.heap.size c4 ∧ Fo z4 c4 Y.1 by rw [← hW]; exact ⟨⟨⟨⟨HX34.out.1.1.1.alloc _, HX34.out.1.1.2.alloc _⟩, HX34.out.1.2.1.alloc _, HX34.out.1.2.2.alloc _⟩, HX34.out.2.1.alloc _, HX34.out.2.2.alloc _⟩, Bq.mk0 _ c4 rfl, HO4.out.alloc _⟩)
        obtain ⟨g4, hg4⟩ : ∃ g, g = u4.heap.size := ⟨_, rfl⟩
        rw [← hg4] at HX4 ⊢
        clear hW hg4 HZ3 HU4 HO4 HX3 HX34 HX HY HFR HRL HB2
        clear y0 y1 y2 y3 yz
        obtain ⟨a0, a1, -, az, -⟩ := HX4.out.1.1.1.1
        obtain ⟨b0, b1, -, bz, -⟩ := HX4.out.1.1.2.1
        obtain ⟨d0, d1, -, dz, -⟩ := HX4.out.1.2.1
        obtain ⟨e0, e1, -, ez, -⟩ := HX4.out.2.1
        go_wp2_with (first
          | (go_at_call 14; (with_reducible refine (samefrac_eq _ c1 c2 _ HX4.out.1.1.1.2 HX4.out.1.1.2.2).mono ?_); rintro e y1 ⟨rfl, hb⟩; have HM1 := hide (show (Bq y1 g3 c3 ∧ Fo y1 c3 Y.1) ∧ Bq y1 g4 c4 ∧ Fo y1 c4 Y.1 from ⟨⟨HX4.out.1.2.1.below hb, HX4.out.1.2.2.below hb⟩, HX4.out.2.1.below hb, HX4.out.2.2.below hb⟩); have HB6 := hide (HB5.out.trans (hb.mono HB5.out.size)); obtain ⟨f0, f1', -, fz, -⟩ := HM1.out.1.1; obtain ⟨h0, h1, -, hz, -⟩ := HM1.out.2.1; clear hb)
          | (go_at_call 14; (with_reducible refine (samefrac_eq _ c3 c4 _ HM1.out.1.2 HM1.out.2.2).mono ?_); rintro e y2 ⟨rfl, hb⟩; have HB7 := hide (HB6.out.trans (hb.mono HB6.out.size)); clear hb))
        go_roundw
        case rel => exact ⟨j + 1, by go_num, by omega, hide (HBr.out.trans (HB7.out.mono HBr.out.size))⟩
        case measure => simp [intOf]; omega
end Go.Proofs.Ytnofljgmkdommaa
