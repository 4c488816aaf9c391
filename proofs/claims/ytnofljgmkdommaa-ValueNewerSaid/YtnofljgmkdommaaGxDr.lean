/- The law ValueNewer. -/
import Derived.Test.YtnofljgmkdommaaG24
import Derived.Test.YtnofljgmkdommaaG16
import Derived.Test.YtnofljgmkdommaaG25
set_option linter.unusedVariables false
set_option linter.unusedSimpArgs false

/- The law ValueBetween. -/
namespace Go.Proofs.Ytnofljgmkdommaa
open Go.RowKit

/-- Boxes of fractions. -/
def VBs (v : World) (L : List (Nat × Fa × Rat)) : Prop := ∀ x ∈ L, Bq v x.1 x.2.1 ∧ Fo v x.2.1 (some x.2.2)
theorem VBs.below {v v' : World} {L : List (Nat × Fa × Rat)} (h : VBs v L) (hb : Below v.heap.size v v') : VBs v' L := fun x hx => ⟨(h x hx).1.below hb, (h x hx).2.below hb⟩
theorem VBs.add {v : World} {L : List (Nat × Fa × Rat)} (h : VBs v L) {q : Fa} {r : Rat} (ho : Fo v q (some r)) (t : TypeId) {g : Nat} (hg : g = v.heap.size) : VBs (v.alloc (.cells #[.slice q.A q.n q.c, .slice q.B q.m q.d] t)) ((g, q, r) :: L) := by
  intro x hx
  rcases List.mem_cons.1 hx with rfl | hx
  · exact ⟨Bq.mk0 t q hg, ho.alloc _⟩
  · exact ⟨(h x hx).1.alloc _, (h x hx).2.alloc _⟩
theorem vamixed_o (w : World) (a b : Fa) (o o' : Option Rat) (p : Int) (ha : Fo w a o) (hb : Fo w b o') : Calls Try.prog 25 #[.agg #[.slice a.A a.n a.c, .slice a.B a.m a.d], .agg #[.slice b.A b.n b.c, .slice b.B b.m b.d], .int .i64 p] w fun e w' => Ret w (mixR o o' p) e w' := by
  have := vamixed_any w a b _ _ _ _ p ha.1 hb.1
  rwa [fracOf_self ha.2, fracOf_self hb.2] at this
theorem vavalue_o (w : World) (a : Fa) (o : Option Rat) (c : Int) (ha : Fo w a o) : Calls Try.prog 23 #[.agg #[.slice a.A a.n a.c, .slice a.B a.m a.d], .int .i64 c] w fun e w' => Ret w (valR o c) e w' := by
  have := vavalue_any w a _ _ c ha.1
  rwa [fracOf_self ha.2] at this
theorem VBs.bq {v : World} {L : List (Nat × Fa × Rat)} (h : VBs v L) {g : Nat} {q : Fa} {r : Rat} (hm : (g, q, r) ∈ L) : Bq v g q := (h _ hm).1
theorem VBs.fo {v : World} {L : List (Nat × Fa × Rat)} (h : VBs v L) {g : Nat} {q : Fa} {r : Rat} (hm : (g, q, r) ∈ L) : Fo v q (some r) := (h _ hm).2
set_option maxRecDepth 100000 in
set_option maxHeartbeats 16000000 in
theorem vabet28_walk (w : World) (A : Option Addr) (n c : Nat) (l : List Int) (part changed : Int) (hA : Rs w none 1 iv A l) (hl : l.length = n) :
    Calls Try.prog 9 #[.slice A n c, .int .i64 part, .int .i64 changed] w fun e w' => e = .returned (.bool true) ∧ Below w.heap.size w w' := by
  have HP := hide (tp_new (w := w) (c := c) hA hl 52)
  clear hA hl
  obtain ⟨P, hP, hFP⟩ := fold_nat part 100 (by omega) (by omega)
  obtain ⟨C, hC, hFC⟩ := fold_nat changed 1024 (by omega) (by omega)
  have HFP := hide hFP
  have HFC := hide hFC
  have hP2 : P < 100 := by omega
  have hC2 : C < 1024 := by omega
  clear hFP hFC hP hC
  go_enter Try.func9, Try.ntmps9
  go_upto_region 3 with (go_at_call 27; (with_reducible refine (twom_any _ w.heap.size A n c l 0 HP.out (by omega)).mono ?_); rintro e w1 ⟨fa, fb, r, s, rfl, ho, ho2, hc1, hc2, hrs, -, hf⟩; have HB1 := hide (fr_new rfl hf); have HO := hide ho; have HO2 := hide ho2; have HCR := hide hc1; have HCS := hide hc2; have HRS := hide hrs; clear ho ho2 hc1 hc2 hrs hf)
  generalize hW : World.alloc (World.alloc w1 _) _ = v
  have HV := hide (show VBs v [(w1.heap.size + 1, fb, s), (w1.heap.size, fa, r)] by
    rw [← hW]
    exact VBs.add (VBs.add (L := []) (fun x hx => by cases hx) HO.out _ rfl) (HO2.out.alloc _) _ (by simp))
  have HB := hide (show Below w.heap.size w v by rw [← hW]; exact HB1.out.trans ((((Below.refl _ _).alloc (Nat.le_refl _) _).alloc (by simp) _ : Below w1.heap.size w1 _).mono HB1.out.size))
  obtain ⟨G, hG⟩ : ∃ G, G = w1.heap.size := ⟨_, rfl⟩
  rw [← hG] at HV ⊢
  clear hW hG HO HO2 HB1 HP
  have hM0 : Hid (mixR (some r) (some s) (P : Int) = (some (mixV r s P), 0)) := hide (mix_ok HCR.out HCS.out (by omega))
  have hM1 : Hid (mixR (some r) (some s) ((P : Int) + 1) = (some (mixV r s (P + 1)), 0)) := hide (by have := mix_ok HCR.out HCS.out (p := P + 1) (by omega); rwa [show ((P + 1 : Nat) : Int) = (P : Int) + 1 by omega] at this)
  have hV0 : Hid (valR (some r) (C : Int) = (some (r * mkRat (1 + (C : Int)) 1), 0)) := hide (val_ok HCR.out (by omega))
  have hV1 : Hid (valR (some r) ((C : Int) + 1) = (some (r * mkRat (1 + ((C + 1 : Nat) : Int)) 1), 0)) := hide (by have := val_ok HCR.out (c := C + 1) (by omega); rwa [show valR (some r) ((C + 1 : Nat) : Int) = valR (some r) ((C : Int) + 1) by rw [show ((C + 1 : Nat) : Int) = (C : Int) + 1 by omega]] at this)
  obtain ⟨x, hx⟩ : ∃ x, x = mixV r s P := ⟨_, rfl⟩
  obtain ⟨y, hy⟩ : ∃ y, y = mixV r s (P + 1) := ⟨_, rfl⟩
  obtain ⟨a1, ha1⟩ : ∃ a1, a1 = r * mkRat (1 + (C : Int)) 1 := ⟨_, rfl⟩
  obtain ⟨a2, ha2⟩ : ∃ a2, a2 = r * mkRat (1 + ((C + 1 : Nat) : Int)) 1 := ⟨_, rfl⟩
  have HC1 := hide (show decide (cmpO (some r) (some y) ≤ 0) = true from decide_eq_true (cmpQ_le.2 (by rw [hy]; exact mix_lo (Rat.le_of_lt HRS.out.2.1) (by omega))))
  have HC2 := hide (show decide (cmpO (some y) (some x) < 0) = true from decide_eq_true (cmpQ_neg.2 (by rw [hx, hy]; exact mix_lt HRS.out.2.1)))
  have HC3 := hide (show decide (cmpO (some x) (some s) ≤ 0) = true from decide_eq_true (cmpQ_le.2 (by rw [hx]; exact mix_hi (Rat.le_of_lt HRS.out.2.1))))
  have HC4 := hide (show decide (cmpO (some a1) (some a2) < 0) = true from decide_eq_true (cmpQ_neg.2 (by rw [ha1, ha2]; exact val_lt HRS.out.1)))
  rw [← hx] at hM0
  rw [← hy] at hM1
  rw [← ha1] at hV0
  rw [← ha2] at hV1
  clear hx hy ha1 ha2
  obtain ⟨y0, y1, -, yz, -⟩ := (HV.out.bq (g := G) (q := fa) (r := r) (by simp))
  obtain ⟨z0, z1, -, zz, -⟩ := (HV.out.bq (g := G + 1) (q := fb) (r := s) (by simp))
  go_upto_region 5 with (first
    | (go_at_call 15; (with_reducible refine (HFP.out _).mono ?_); rintro e w' ⟨rfl, rfl⟩)
    | (go_at_call 15; (with_reducible refine (HFC.out _).mono ?_); rintro e w' ⟨rfl, rfl⟩)
    | (go_at_call 25; (with_reducible refine (vamixed_o _ fa fb (some r) (some s) _ (HV.out.fo (g := G) (q := fa) (r := r) (by simp)) (HV.out.fo (g := G + 1) (q := fb) (r := s) (by simp))).mono ?_); rintro e u0 ⟨q10, rfl, ho, hb⟩; rw [hM0.out] at ho ⊢; dsimp only at ho ⊢; have HO0 := hide ho; have HU0 := hide (HV.out.below hb); have HBU0 := hide (HB.out.trans (hb.mono HB.out.size)); clear ho hb))
  generalize hW : World.alloc u0 _ = v0
  have HV0 := hide (show VBs v0 [(u0.heap.size, q10, x), (G + 1, fb, s), (G, fa, r)] by rw [← hW]; exact VBs.add HU0.out HO0.out _ rfl)
  have HBV0 := hide (show Below w.heap.size w v0 by rw [← hW]; exact HBU0.out.alloc HBU0.out.size _)
  obtain ⟨g10, hg10⟩ : ∃ g, g = u0.heap.size := ⟨_, rfl⟩
  rw [← hg10] at HV0 ⊢
  clear y0 y1 yz
  clear z0 z1 zz
  clear hW hg10 HO0 HU0 HBU0
  obtain ⟨y0, y1, -, yz, -⟩ := (HV0.out.bq (g := G) (q := fa) (r := r) (by simp))
  obtain ⟨z0, z1, -, zz, -⟩ := (HV0.out.bq (g := G + 1) (q := fb) (r := s) (by simp))
  go_upto_region 6 with (go_at_call 25; (with_reducible refine (vamixed_o _ fa fb (some r) (some s) _ (HV0.out.fo (g := G) (q := fa) (r := r) (by simp)) (HV0.out.fo (g := G + 1) (q := fb) (r := s) (by simp))).mono ?_); rintro e u1 ⟨q12, rfl, ho, hb⟩; rw [hM1.out] at ho ⊢; dsimp only at ho ⊢; have HO1 := hide ho; have HU1 := hide (HV0.out.below hb); have HBU1 := hide (HBV0.out.trans (hb.mono HBV0.out.size)); clear ho hb)
  generalize hW : World.alloc u1 _ = v1
  have HV1 := hide (show VBs v1 [(u1.heap.size, q12, y), (g10, q10, x), (G + 1, fb, s), (G, fa, r)] by rw [← hW]; exact VBs.add HU1.out HO1.out _ rfl)
  have HBV1 := hide (show Below w.heap.size w v1 by rw [← hW]; exact HBU1.out.alloc HBU1.out.size _)
  obtain ⟨g12, hg12⟩ : ∃ g, g = u1.heap.size := ⟨_, rfl⟩
  rw [← hg12] at HV1 ⊢
  clear y0 y1 yz
  clear z0 z1 zz
  clear hW hg12 HO1 HU1 HBU1
  obtain ⟨y0, y1, -, yz, -⟩ := (HV1.out.bq (g := G) (q := fa) (r := r) (by simp))
  go_upto_region 7 with (go_at_call 23; (with_reducible refine (vavalue_o _ fa (some r) _ (HV1.out.fo (g := G) (q := fa) (r := r) (by simp))).mono ?_); rintro e u2 ⟨q14, rfl, ho, hb⟩; rw [hV0.out] at ho ⊢; dsimp only at ho ⊢; have HO2 := hide ho; have HU2 := hide (HV1.out.below hb); have HBU2 := hide (HBV1.out.trans (hb.mono HBV1.out.size)); clear ho hb)
  generalize hW : World.alloc u2 _ = v2
  have HV2 := hide (show VBs v2 [(u2.heap.size, q14, a1), (g12, q12, y), (g10, q10, x), (G + 1, fb, s), (G, fa, r)] by rw [← hW]; exact VBs.add HU2.out HO2.out _ rfl)
  have HBV2 := hide (show Below w.heap.size w v2 by rw [← hW]; exact HBU2.out.alloc HBU2.out.size _)
  obtain ⟨g14, hg14⟩ : ∃ g, g = u2.heap.size := ⟨_, rfl⟩
  rw [← hg14] at HV2 ⊢
  clear y0 y1 yz
  clear hW hg14 HO2 HU2 HBU2
  obtain ⟨y0, y1, -, yz, -⟩ := (HV2.out.bq (g := G) (q := fa) (r := r) (by simp))
  go_upto_region 8 with (go_at_call 23; (with_reducible refine (vavalue_o _ fa (some r) _ (HV2.out.fo (g := G) (q := fa) (r := r) (by simp))).mono ?_); rintro e u3 ⟨q16, rfl, ho, hb⟩; rw [hV1.out] at ho ⊢; dsimp only at ho ⊢; have HO3 := hide ho; have HU3 := hide (HV2.out.below hb); have HBU3 := hide (HBV2.out.trans (hb.mono HBV2.out.size)); clear ho hb)
  generalize hW : World.alloc u3 _ = v3
  have HV3 := hide (show VBs v3 [(u3.heap.size, q16, a2), (g14, q14, a1), (g12, q12, y), (g10, q10, x), (G + 1, fb, s), (G, fa, r)] by rw [← hW]; exact VBs.add HU3.out HO3.out _ rfl)
  have HBV3 := hide (show Below w.heap.size w v3 by rw [← hW]; exact HBU3.out.alloc HBU3.out.size _)
  obtain ⟨g16, hg16⟩ : ∃ g, g = u3.heap.size := ⟨_, rfl⟩
  rw [← hg16] at HV3 ⊢
  clear y0 y1 yz
  clear hW hg16 HO3 HU3 HBU3
  obtain ⟨b00, b01, -, b0z, -⟩ := (HV3.out.bq (g := G) (q := fa) (r := r) (by simp)); obtain ⟨b10, b11, -, b1z, -⟩ := (HV3.out.bq (g := G + 1) (q := fb) (r := s) (by simp)); obtain ⟨b20, b21, -, b2z, -⟩ := (HV3.out.bq (g := g10) (q := q10) (r := x) (by simp)); obtain ⟨b30, b31, -, b3z, -⟩ := (HV3.out.bq (g := g12) (q := q12) (r := y) (by simp)); obtain ⟨b40, b41, -, b4z, -⟩ := (HV3.out.bq (g := g14) (q := q14) (r := a1) (by simp)); obtain ⟨b50, b51, -, b5z, -⟩ := (HV3.out.bq (g := g16) (q := q16) (r := a2) (by simp))
  have k1 := HC1.out
  have k2 := HC2.out
  have k3 := HC3.out
  have k4 := HC4.out
  go_wp2_with (first
    | (go_at_call 19; (with_reducible refine (fcmp_o _ fa q12 _ _ (HV3.out.fo (g := G) (q := fa) (r := r) (by simp)) (HV3.out.fo (g := g12) (q := q12) (r := y) (by simp))).mono ?_); rintro e m0 ⟨rfl, hb⟩; have HM0 := hide (HV3.out.below hb); have HMB0 := hide (HBV3.out.trans (hb.mono HBV3.out.size)); obtain ⟨b00, b01, -, b0z, -⟩ := (HM0.out.bq (g := G) (q := fa) (r := r) (by simp)); obtain ⟨b10, b11, -, b1z, -⟩ := (HM0.out.bq (g := G + 1) (q := fb) (r := s) (by simp)); obtain ⟨b20, b21, -, b2z, -⟩ := (HM0.out.bq (g := g10) (q := q10) (r := x) (by simp)); obtain ⟨b30, b31, -, b3z, -⟩ := (HM0.out.bq (g := g12) (q := q12) (r := y) (by simp)); obtain ⟨b40, b41, -, b4z, -⟩ := (HM0.out.bq (g := g14) (q := q14) (r := a1) (by simp)); obtain ⟨b50, b51, -, b5z, -⟩ := (HM0.out.bq (g := g16) (q := q16) (r := a2) (by simp)); clear hb)
    | (go_at_call 19; (with_reducible refine (fcmp_o _ q12 q10 _ _ (HM0.out.fo (g := g12) (q := q12) (r := y) (by simp)) (HM0.out.fo (g := g10) (q := q10) (r := x) (by simp))).mono ?_); rintro e m1 ⟨rfl, hb⟩; have HM1 := hide (HM0.out.below hb); have HMB1 := hide (HMB0.out.trans (hb.mono HMB0.out.size)); obtain ⟨b00, b01, -, b0z, -⟩ := (HM1.out.bq (g := G) (q := fa) (r := r) (by simp)); obtain ⟨b10, b11, -, b1z, -⟩ := (HM1.out.bq (g := G + 1) (q := fb) (r := s) (by simp)); obtain ⟨b20, b21, -, b2z, -⟩ := (HM1.out.bq (g := g10) (q := q10) (r := x) (by simp)); obtain ⟨b30, b31, -, b3z, -⟩ := (HM1.out.bq (g := g12) (q := q12) (r := y) (by simp)); obtain ⟨b40, b41, -, b4z, -⟩ := (HM1.out.bq (g := g14) (q := q14) (r := a1) (by simp)); obtain ⟨b50, b51, -, b5z, -⟩ := (HM1.out.bq (g := g16) (q := q16) (r := a2) (by simp)); clear hb)
    | (go_at_call 19; (with_reducible refine (fcmp_o _ q10 fb _ _ (HM1.out.fo (g := g10) (q := q10) (r := x) (by simp)) (HM1.out.fo (g := G + 1) (q := fb) (r := s) (by simp))).mono ?_); rintro e m2 ⟨rfl, hb⟩; have HM2 := hide (HM1.out.below hb); have HMB2 := hide (HMB1.out.trans (hb.mono HMB1.out.size)); obtain ⟨b00, b01, -, b0z, -⟩ := (HM2.out.bq (g := G) (q := fa) (r := r) (by simp)); obtain ⟨b10, b11, -, b1z, -⟩ := (HM2.out.bq (g := G + 1) (q := fb) (r := s) (by simp)); obtain ⟨b20, b21, -, b2z, -⟩ := (HM2.out.bq (g := g10) (q := q10) (r := x) (by simp)); obtain ⟨b30, b31, -, b3z, -⟩ := (HM2.out.bq (g := g12) (q := q12) (r := y) (by simp)); obtain ⟨b40, b41, -, b4z, -⟩ := (HM2.out.bq (g := g14) (q := q14) (r := a1) (by simp)); obtain ⟨b50, b51, -, b5z, -⟩ := (HM2.out.bq (g := g16) (q := q16) (r := a2) (by simp)); clear hb)
    | (go_at_call 19; (with_reducible refine (fcmp_o _ q14 q16 _ _ (HM2.out.fo (g := g14) (q := q14) (r := a1) (by simp)) (HM2.out.fo (g := g16) (q := q16) (r := a2) (by simp))).mono ?_); rintro e m3 ⟨rfl, hb⟩; have HM3 := hide (HM2.out.below hb); have HMB3 := hide (HMB2.out.trans (hb.mono HMB2.out.size)); obtain ⟨b00, b01, -, b0z, -⟩ := (HM3.out.bq (g := G) (q := fa) (r := r) (by simp)); obtain ⟨b10, b11, -, b1z, -⟩ := (HM3.out.bq (g := G + 1) (q := fb) (r := s) (by simp)); obtain ⟨b20, b21, -, b2z, -⟩ := (HM3.out.bq (g := g10) (q := q10) (r := x) (by simp)); obtain ⟨b30, b31, -, b3z, -⟩ := (HM3.out.bq (g := g12) (q := q12) (r := y) (by simp)); obtain ⟨b40, b41, -, b4z, -⟩ := (HM3.out.bq (g := g14) (q := q14) (r := a1) (by simp)); obtain ⟨b50, b51, -, b5z, -⟩ := (HM3.out.bq (g := g16) (q := q16) (r := a2) (by simp)); clear hb)
    | (go_at_call 10; (with_reducible refine (vknown28_any _).mono ?_); rintro e m5 ⟨rfl, hb⟩; have HM5 := hide (HMB3.out.trans (hb.mono HMB3.out.size)); clear hb))
  go_ret
  exact ⟨rfl, HM5.out⟩
end Go.Proofs.Ytnofljgmkdommaa

/- The law ValueNewer. -/
namespace Go.Proofs.Ytnofljgmkdommaa
open Go.RowKit

theorem VBs.nil (v : World) : VBs v [] := fun x hx => by cases hx
/-- An own row of bools. -/
structure PR (w : World) (base g n c : Nat) (l : List Bool) : Prop where
  own : w.ownsRow base 4 1 (.slice (some ⟨g, 0, none⟩) n c) n (l.flatMap bv)
  len : l.length = n
section
variable {w w' : World} {base g n c : Nat} {l : List Bool}
theorem PR.rs (h : PR w base g n c l) : Rs w none 1 bv (some ⟨g, 0, none⟩) l := Rs.of_own h.own bv_len h.len (by simp)
theorem PR.below (h : PR w base g n c l) (hb : Below w.heap.size w w') : PR w' base g n c l := ⟨own_below h.own hb, h.len⟩
theorem PR.fr (h : PR w base g n c l) {g' : Nat} (hf : Fr w w' (fun b => b = g')) (hg : g ≠ g') : PR w' base g n c l := ⟨own_fr h.own hf (fun k hk e => by simp [Value.ownBlock] at hk; omega), h.len⟩
theorem PR.lt (h : PR w base g n c l) : g < w.heap.size := (h.own.lt g rfl).2
theorem PR.cell (h : PR w base g n c l) {i : Nat} (hi : i < n) : ∃ b, w.cell? ⟨g, i, none⟩ = some (.bool b) := by
  obtain ⟨x, hx⟩ : ∃ x, l[i]? = some x := ⟨_, List.getElem?_eq_getElem (by have := h.len; omega)⟩
  refine ⟨x, ?_⟩
  have := own_cells (f := bv) bv_len h.own hx 0 (.bool x) rfl
  simpa using this
theorem PR.fz (h : PR w base g n c l) (j : Nat) : w.frozen? ⟨g, j, none⟩ = false := h.own.frozenAt j
theorem PR.put (h : PR w base g n c l) {i : Nat} (hi : i < n) (b : Bool) : PR (w.setCell ⟨g, i, none⟩ (.bool b)) base g n c (l.set i b) := by
  obtain ⟨x, hx⟩ : ∃ x, l[i]? = some x := ⟨_, List.getElem?_eq_getElem (by have := h.len; omega)⟩
  have h1 := own_put (s := 1) (f := bv) (j := 0) (u := .bool b) (t1 := b) bv_len (own_start h.own hx) (by have := h.len; omega) (by omega) rfl
  rw [show (i * 1 + 0 : Nat) = i by omega] at h1
  exact ⟨h1, by simpa using h.len⟩
end
theorem set2_r {bs : List Bool} {x y : Nat} (hy : y < bs.length) : ((bs.set x false).set y false)[y]? = some false := by
  rw [List.getElem?_set, if_pos rfl, if_pos (by simpa using hy)]
theorem set2_l {bs : List Bool} {x y : Nat} (hx : x < bs.length) (hy : y < bs.length) : ((bs.set x false).set y false)[x]? = some false := by
  by_cases h : y = x
  · subst h; exact set2_r hy
  · rw [List.getElem?_set, if_neg h, List.getElem?_set, if_pos rfl, if_pos hx]
/-- A row appended to nothing. -/
theorem pr_of {w' : World} {base n c X : Nat} {A : Option Addr} {l : List Bool} (hn : 0 < n) (hl : l.length = n) (ho : w'.ownsRow base 4 1 (.slice A n c) n (l.flatMap bv)) (hloc : ∀ g, (Value.slice A n c).ownBlock = some g → (Value.slice none 0 0).ownBlock = some g ∨ g = X) : A = some ⟨X, 0, none⟩ ∧ PR w' base X n c l := by
  rcases ho.2 with ⟨h1, _⟩ | ⟨g, cap, cur, hv, _⟩
  · injection h1 with _ h2; omega
  · injection hv with hA
    subst hA
    rcases hloc g rfl with h | h
    · simp [Value.ownBlock] at h
    · subst h
      exact ⟨rfl, ho, hl⟩
theorem wl_app_nil {w : World} {ops : Array Oper} {rest : List Oper} {o : Oper} {a : Act} {Q : Exit → Act → World → Prop} (hgd : o.guard = none) (s x : Operand)
    (ho : o.op = .call { callee := .builtin .append, args := #[s, x], argTypes := #[27, 27] }) (A : Option Addr) (n c : Nat) (l : List Bool) (hs : a.eval s = .slice none 0 0) (hx : a.eval x = .slice A n c) (hR : Rs w none 1 bv A l) (hl : l.length = n) (hn0 : 0 < n) (hn : n ≤ 1000)
    (h : ∀ c1 w1, PR w1 w.heap.size w.heap.size n c1 l → Below w.heap.size w w1 → wpList Try.prog ops Q rest (a.put o.dst (.slice (some ⟨w.heap.size, 0, none⟩) n c1)) w1) : wpList Try.prog ops Q (o :: rest) a w := by
  refine wl_append (f := bv) (av := none) w hgd s x 27 ho w.heap.size 4 _ 1 1 Try.underlying27 info4 rfl (by omega) (.slice none 0 0) 0 ([] : List Bool) hs (World.ownsRow_nil _ _ _ _) A n c l hx hR hl bv_len bv_one (by omega) (by omega) (Nat.le_refl _) ?_
  intro A' c' w' hown hgr hloc
  rw [Nat.zero_add, List.nil_append] at hown
  rw [Nat.zero_add] at hloc ⊢
  obtain ⟨rfl, hp⟩ := pr_of hn0 hl hown hloc
  exact h c' w' hp (below_of_grown hgr)
set_option maxRecDepth 100000 in
set_option maxHeartbeats 16000000 in
theorem vanew28_walk (w : World) (A : Option Addr) (n c : Nat) (bs : List Bool) (half i k : Int) (hR : Rs w none 1 bv A bs) (hl : bs.length = n) :
    Calls Try.prog 7 #[.slice A n c, .int .i64 half, .int .i64 i, .int .i64 k] w fun e w' => e = .returned (.bool true) ∧ Below w.heap.size w w' := by
  have HR := hide hR
  have HL := hide hl
  clear hR hl
  by_cases hn : 64 < n
  · have q0 : decide (64 < (n : Int)) = true := decide_eq_true (by omega)
    have q1 : decide (64 < n) = true := decide_eq_true (by omega)
    go_enter Try.func7, Try.ntmps7
    go_wp2_with (go_at_call 10; (with_reducible refine (vknown28_any _).mono ?_); rintro e w1 ⟨rfl, hb⟩; have HB1 := hide hb; clear hb)
    go_ret
    exact ⟨rfl, HB1.out⟩
  · have q0 : decide (64 < (n : Int)) = false := decide_eq_false (by omega)
    have q1 : decide (64 < n) = false := decide_eq_false (by omega)
    by_cases hz : n = 0
    · have q2 : ((n : Int) == 0) = true := by simp [hz]
      have q3 : decide ((n : Int) = 0) = true := decide_eq_true (by omega)
      have HZ := hide hz
      clear hz
      go_enter Try.func7, Try.ntmps7
      go_wp2_with (go_at_call 10; (with_reducible refine (vknown28_any _).mono ?_); rintro e w1 ⟨rfl, hb⟩; have HB1 := hide hb; clear hb)
      go_ret
      exact ⟨rfl, HB1.out⟩
    · have q2 : ((n : Int) == 0) = false := by simp [hz]
      have q3 : decide ((n : Int) = 0) = false := decide_eq_false (by omega)
      obtain ⟨m, hm, hFm⟩ := fold_nat half 5 (by omega) (by omega)
      obtain ⟨a, ha, hFa⟩ := fold_nat i (n : Int) (by omega) (by omega)
      obtain ⟨b, hb, hFb⟩ := fold_nat k (n : Int) (by omega) (by omega)
      have HFm := hide hFm
      have HFa := hide hFa
      have HFb := hide hFb
      have hm2 : m ≤ 4 := by omega
      have ha2 : a < n := by omega
      have hb2 : b < n := by omega
      clear hFm hFa hFb hm ha hb
      go_enter Try.func7, Try.ntmps7
      go_upto_region 5 with (first
        | (go_at_call 15; (with_reducible refine (HFm.out _).mono ?_); rintro e w' ⟨rfl, rfl⟩)
        | (go_at_call 15; (with_reducible refine (HFa.out _).mono ?_); rintro e w' ⟨rfl, rfl⟩)
        | (go_at_call 15; (with_reducible refine (HFb.out _).mono ?_); rintro e w' ⟨rfl, rfl⟩))
      go_upto_if 40 with (fail)
      go_cut [2, 3] from 40 to 42 (fun s2 s3 wx => ∃ x y : Nat, s2 = .int .i64 (x : Int) ∧ s3 = .int .i64 (y : Int) ∧ x ≤ y ∧ y < n ∧ w = wx)
      case first =>
        by_cases hab : b < a
        · have q4 : (b : Int) < (a : Int) := by omega
          go_wp2_with fail
          go_meet
          case rel => exact ⟨b, a, rfl, rfl, by omega, ha2, rfl⟩
        · have q4 : ¬ (b : Int) < (a : Int) := by omega
          go_wp2_with fail
          go_meet
          case rel => exact ⟨a, b, rfl, rfl, by omega, hb2, rfl⟩
      case rest =>
      obtain ⟨x, y, rfl, rfl, hxy, hyn, rfl⟩ := hcut
      clear HFm HFa HFb q0 q1 q2 q3
      have hn0 : 0 < n := by omega
      go_upto_region 8 with (at_builtin; refine wl_app_nil rfl _ _ rfl A n c bs rfl rfl HR.out HL.out hn0 (by omega) ?_; intro c1 w1 hp1 hb1; have HP1 := hide hp1; have HB1 := hide hb1; clear hp1 hb1)
      obtain ⟨g, hg⟩ : ∃ g, g = w.heap.size := ⟨_, rfl⟩
      have HG := hide hg
      rw [← hg] at HP1 ⊢
      clear hg
      have hxn : x < n := by omega
      have hx1 : (x : Int) < (n : Int) := by omega
      have hy1 : (y : Int) < (n : Int) := by omega
      have hx0 : (0 : Int) ≤ (x : Int) := by omega
      have hy0 : (0 : Int) ≤ (y : Int) := by omega
      go_cut [] from 45 to 50 (fun wx => Hid (PR wx g g n c1 ((bs.set x false).set y false)) ∧ Hid (Fr w1 wx (fun b => b = g)))
      case first =>
        obtain ⟨v1, e1⟩ := HP1.out.cell hxn
        obtain ⟨v2, e2⟩ := HP1.out.cell hyn
        have ef := HP1.out.fz
        have eg := HP1.out.lt
        by_cases hxe : x = y
        · subst hxe
          go_wp2_with fail
          go_meet
          case rel => exact ⟨hide ((HP1.out.put hxn false).put hyn false), hide (Fr.setCell (Fr.setCell (Fr.refl _ _) (Or.inr (by rfl)) _) (Or.inr (by rfl)) _)⟩
        · go_wp2_with fail
          go_meet
          case rel => exact ⟨hide ((HP1.out.put hxn false).put hyn false), hide (Fr.setCell (Fr.setCell (Fr.refl _ _) (Or.inr (by rfl)) _) (Or.inr (by rfl)) _)⟩
      case rest =>
      obtain ⟨HP2, HF2⟩ := hcut
      have HB2 := hide (show Below g w wc by have h := HB1.out; rw [← HG.out] at h; exact h.trans (HF2.out.below (by have := HB1.out.size; rw [← HG.out] at this; exact this) (fun k hk e => by omega)))
      obtain ⟨B0, hB0⟩ : ∃ B0, B0 = (bs.set x false).set y false := ⟨_, rfl⟩
      rw [← hB0] at HP2
      have hbx : Hid (B0[x]? = some false) := hide (by rw [hB0]; exact set2_l (by rw [HL.out]; omega) (by rw [HL.out]; omega))
      have hby : Hid (B0[y]? = some false) := hide (by rw [hB0]; exact set2_r (by rw [HL.out]; omega))
      clear hB0 HP1 HF2 HB1
      have hgw := HB2.out.size
      obtain ⟨h, hh⟩ : ∃ h, h = 1 + m := ⟨_, rfl⟩
      have hh1 : 1 ≤ h := by omega
      have hh2 : h ≤ 64 := by omega
      have HH := hide hh
      clear hh
      go_upto_region 10 with (first
        | (at_builtin; refine wl_app_nil rfl _ _ rfl (some ⟨g, 0, none⟩) n c1 B0 rfl rfl HP2.out.rs HP2.out.len hn0 (by omega) ?_; intro c3 w3 hp3 hb3; have HP3 := hide hp3; have HB3 := hide hb3; have HP2' := hide (HP2.out.below hb3); clear hp3 hb3)
        | (at_builtin; refine wl_app_nil rfl _ _ rfl (some ⟨g, 0, none⟩) n c1 B0 rfl rfl HP2'.out.rs HP2'.out.len hn0 (by omega) ?_; intro c4 w4 hp4 hb4; have HP4 := hide hp4; have HB4 := hide hb4; have HP3' := hide (HP3.out.below hb4); have HP2'' := hide (HP2'.out.below hb4); clear hp4 hb4))
      have hz3 := HP3.out.lt
      have hz2 := HP2.out.lt
      obtain ⟨v1, e1⟩ := HP3'.out.cell hxn
      obtain ⟨v2, e2⟩ := HP4.out.cell hyn
      have ef := HP3'.out.fz
      have eg := HP4.out.fz
      have ez := HP3'.out.lt
      have ez2 := HP4.out.lt
      go_upto_region 11 with (fail)
      generalize hW : World.setCell (World.setCell w4 _ _) _ _ = w5
      have f1 := fr_set w4 wc.heap.size x (.bool true)
      have f2 := fr_set (w4.setCell ⟨wc.heap.size, x, none⟩ (.bool true)) w3.heap.size y (.bool true)
      have HP5a := hide (show PR w5 g g n c1 B0 by rw [← hW]; exact ((HP2''.out.fr f1 (by omega)).fr f2 (by omega)))
      have HP5b := hide (show PR w5 wc.heap.size wc.heap.size n c3 (B0.set x true) by rw [← hW]; exact (HP3'.out.put hxn true).fr f2 (by omega))
      have HP5c := hide (show PR w5 w3.heap.size w3.heap.size n c4 (B0.set y true) by rw [← hW]; exact (HP4.out.fr f1 (by omega)).put hyn true)
      have HB5 := hide (show Below g w w5 by
        rw [← hW]
        have h3 : Below g w w3 := HB2.out.trans (HB3.out.mono (by omega))
        have h4 : Below g w w4 := h3.trans (HB4.out.mono (by omega))
        exact (h4.trans (f1.below (by omega) (fun k hk e => by omega))).trans (f2.below (by simp [World.setCell]; omega) (fun k hk e => by omega)))
      have HB5' := hide (show Below w.heap.size w w5 by have h9 := HB5.out; rwa [HG.out] at h9)
      clear hW f1 f2 e1 e2 ef eg HP4 HP3' HP2'' HP3 HP2' HB3 HB4 HB2
      have HDI := hide (show ∀ (W : World) (A : Option Addr) (c : Nat) (l : List Bool), Rs W none 1 bv A l → l.length = n → Calls Try.prog 16 #[.slice A n c, .int .i64 (1 + (m : Int))] W fun e w' => Ret W (some (disc h l), 0) e w' from fun W A c l hr hl => by
        have h1 := vadisc_ok W A n c h l hr hl (by omega) hh1 hh2
        rwa [show (h : Int) = 1 + (m : Int) by rw [HH.out]; omega] at h1)
      obtain ⟨d0, hd0⟩ : ∃ d0, d0 = disc h B0 := ⟨_, rfl⟩
      obtain ⟨d1, hd1⟩ : ∃ d1, d1 = disc h (B0.set x true) := ⟨_, rfl⟩
      obtain ⟨d2, hd2⟩ : ∃ d2, d2 = disc h (B0.set y true) := ⟨_, rfl⟩
      have HD0 := hide hd0
      have HD1 := hide hd1
      have HD2 := hide hd2
      have HC1 := hide (show decide (cmpO (some d0) (some d1) < 0) = true from decide_eq_true (cmpQ_neg.2 (by rw [hd0, hd1]; exact disc_more hbx.out)))
      have HC2 := hide (show decide (cmpO (some d1) (some d2) ≤ 0) = true from decide_eq_true (cmpQ_le.2 (by rw [hd1, hd2]; exact disc_newer hbx.out hby.out hxy)))
      clear hd0 hd1 hd2
      go_upto_region 12 with (go_at_call 16; (with_reducible refine (HDI.out _ (some ⟨g, 0, none⟩) c1 B0 HP5a.out.rs HP5a.out.len).mono ?_); rintro e u0 ⟨q12, rfl, ho, hb⟩; rw [← HD0.out] at ho; dsimp only at ho ⊢; have HO0 := hide ho; have HBU0 := hide (HB5'.out.trans (hb.mono HB5'.out.size)); have HP5b_0 := hide (HP5b.out.below hb); have HP5c_0 := hide (HP5c.out.below hb); clear ho hb)
      generalize hW : World.alloc u0 _ = v0
      have HV0 := hide (show VBs v0 [(u0.heap.size, q12, d0)] by rw [← hW]; exact VBs.add (VBs.nil _) HO0.out _ rfl)
      have HBV0 := hide (show Below w.heap.size w v0 by rw [← hW]; exact HBU0.out.alloc HBU0.out.size _)
      have HP5bv0 := hide (show PR v0 _ _ _ _ _ by rw [← hW]; exact HP5b_0.out.below ((Below.refl _ _).alloc (Nat.le_refl _) _))
      have HP5cv0 := hide (show PR v0 _ _ _ _ _ by rw [← hW]; exact HP5c_0.out.below ((Below.refl _ _).alloc (Nat.le_refl _) _))
      obtain ⟨g12, hg12⟩ : ∃ z, z = u0.heap.size := ⟨_, rfl⟩
      rw [← hg12] at HV0 ⊢
      clear hW hg12
      go_upto_region 13 with (go_at_call 16; (with_reducible refine (HDI.out _ (some ⟨wc.heap.size, 0, none⟩) c3 (B0.set x true) HP5bv0.out.rs HP5bv0.out.len).mono ?_); rintro e u1 ⟨q14, rfl, ho, hb⟩; rw [← HD1.out] at ho; dsimp only at ho ⊢; have HO1 := hide ho; have HBU1 := hide (HBV0.out.trans (hb.mono HBV0.out.size)); have HU1 := hide (HV0.out.below hb); have HP5c_1 := hide (HP5cv0.out.below hb); clear ho hb)
      generalize hW : World.alloc u1 _ = v1
      have HV1 := hide (show VBs v1 [(u1.heap.size, q14, d1), (g12, q12, d0)] by rw [← hW]; exact VBs.add HU1.out HO1.out _ rfl)
      have HBV1 := hide (show Below w.heap.size w v1 by rw [← hW]; exact HBU1.out.alloc HBU1.out.size _)
      have HP5cv1 := hide (show PR v1 _ _ _ _ _ by rw [← hW]; exact HP5c_1.out.below ((Below.refl _ _).alloc (Nat.le_refl _) _))
      obtain ⟨g14, hg14⟩ : ∃ z, z = u1.heap.size := ⟨_, rfl⟩
      rw [← hg14] at HV1 ⊢
      clear hW hg14
      go_upto_region 14 with (go_at_call 16; (with_reducible refine (HDI.out _ (some ⟨w3.heap.size, 0, none⟩) c4 (B0.set y true) HP5cv1.out.rs HP5cv1.out.len).mono ?_); rintro e u2 ⟨q16, rfl, ho, hb⟩; rw [← HD2.out] at ho; dsimp only at ho ⊢; have HO2 := hide ho; have HBU2 := hide (HBV1.out.trans (hb.mono HBV1.out.size)); have HU2 := hide (HV1.out.below hb); clear ho hb)
      generalize hW : World.alloc u2 _ = v2
      have HV2 := hide (show VBs v2 [(u2.heap.size, q16, d2), (g14, q14, d1), (g12, q12, d0)] by rw [← hW]; exact VBs.add HU2.out HO2.out _ rfl)
      have HBV2 := hide (show Below w.heap.size w v2 by rw [← hW]; exact HBU2.out.alloc HBU2.out.size _)
      obtain ⟨g16, hg16⟩ : ∃ z, z = u2.heap.size := ⟨_, rfl⟩
      rw [← hg16] at HV2 ⊢
      clear hW hg16
      obtain ⟨b00, b01, -, b0z, -⟩ := (HV2.out.bq (g := g12) (q := q12) (r := d0) (by simp)); obtain ⟨b10, b11, -, b1z, -⟩ := (HV2.out.bq (g := g14) (q := q14) (r := d1) (by simp)); obtain ⟨b20, b21, -, b2z, -⟩ := (HV2.out.bq (g := g16) (q := q16) (r := d2) (by simp))
      have k1 := HC1.out
      have k2 := HC2.out
      go_wp2_with (first
        | (go_at_call 19; (with_reducible refine (fcmp_o _ q12 q14 _ _ (HV2.out.fo (g := g12) (q := q12) (r := d0) (by simp)) (HV2.out.fo (g := g14) (q := q14) (r := d1) (by simp))).mono ?_); rintro e m0 ⟨rfl, hb⟩; have HM0 := hide (HV2.out.below hb); have HMB0 := hide (HBV2.out.trans (hb.mono HBV2.out.size)); obtain ⟨b00, b01, -, b0z, -⟩ := (HM0.out.bq (g := g12) (q := q12) (r := d0) (by simp)); obtain ⟨b10, b11, -, b1z, -⟩ := (HM0.out.bq (g := g14) (q := q14) (r := d1) (by simp)); obtain ⟨b20, b21, -, b2z, -⟩ := (HM0.out.bq (g := g16) (q := q16) (r := d2) (by simp)); clear hb)
        | (go_at_call 19; (with_reducible refine (fcmp_o _ q14 q16 _ _ (HM0.out.fo (g := g14) (q := q14) (r := d1) (by simp)) (HM0.out.fo (g := g16) (q := q16) (r := d2) (by simp))).mono ?_); rintro e m1 ⟨rfl, hb⟩; have HMB1 := hide (HMB0.out.trans (hb.mono HMB0.out.size)); clear hb)
        | (go_at_call 10; (with_reducible refine (vknown28_any _).mono ?_); rintro e m5 ⟨rfl, hb⟩; have HM5 := hide (HMB1.out.trans (hb.mono HMB1.out.size)); clear hb))
      go_ret
      exact ⟨rfl, HM5.out⟩
end Go.Proofs.Ytnofljgmkdommaa
