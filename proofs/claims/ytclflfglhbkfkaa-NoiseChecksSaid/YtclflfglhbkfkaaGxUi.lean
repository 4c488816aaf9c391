/- The walk of the law NoiseChecks. -/
import Derived.Test.YtclflfglhbkfkaaG20
import Derived.Test.YtclflfglhbkfkaaG12
import Derived.Test.YtclflfglhbkfkaaG23
import Derived.Test.YtclflfglhbkfkaaG22
set_option linter.unusedVariables false
set_option linter.unusedSimpArgs false

/- The walk of the law NoiseSequences. -/
namespace Go.Proofs.Ytclflfglhbkfkaa
open Go.RowKit

/-- Fractions in a row: each with what its limbs read. -/
def FRow (v : World) (b : Nat) (fs : List (Fa × List Nat × List Nat)) : Prop :=
  b < v.heap.size ∧ ∀ i x, fs[i]? = some x → v.cell? ⟨b, i * 2, none⟩ = some (.slice x.1.A x.1.n x.1.c) ∧ v.cell? ⟨b, i * 2 + 1, none⟩ = some (.slice x.1.B x.1.m x.1.d) ∧ Fq v x.1 x.2.1 x.2.2
theorem FRow.below {v v' : World} {b : Nat} {fs : List (Fa × List Nat × List Nat)} (h : FRow v b fs) (hb : Below v.heap.size v v') : FRow v' b fs := by
  have h1 := h.1
  refine ⟨Nat.lt_of_lt_of_le h1 hb.size, fun i x hx => ?_⟩
  obtain ⟨h2, h3, h4⟩ := h.2 i x hx
  exact ⟨by rw [hb.cell (by simp; omega)]; exact h2, by rw [hb.cell (by simp; omega)]; exact h3, h4.below hb⟩
theorem frow_two {w : World} {p q : Fa} {l k l' k' : List Nat} (hp : Fq w p l k) (hq : Fq w q l' k') (t : TypeId) : FRow (w.alloc (.cells #[.slice p.A p.n p.c, .slice p.B p.m p.d, .slice q.A q.n q.c, .slice q.B q.m q.d] t)) w.heap.size [(p, l, k), (q, l', k')] := by
  refine ⟨by simp, fun i x hx => ?_⟩
  match i with
  | 0 => simp at hx; subst hx; exact ⟨by simp [go_sem], by simp [go_sem], hp.alloc _⟩
  | 1 => simp at hx; subst hx; exact ⟨by simp [go_sem], by simp [go_sem], hq.alloc _⟩
  | i + 2 => simp at hx
theorem tp_drew {w : World} {T : Nat} {A : Option Addr} {n c : Nat} {l : List Int} {a : Nat} (h : Tp w T A n c l a) : Tp w.drew T A n c l a := h.below (Dr.below ⟨1, rfl⟩)
theorem fr_newd {w w' : World} {o : Obj} {T : Nat} (hT : T = w.heap.size) (h : Fr (w.alloc o).drew w' (fun b => b = T)) : Below w.heap.size w w' := fr_new hT (((Fr.refl _ _).drew).trans h)
set_option maxRecDepth 100000 in
set_option maxHeartbeats 8000000 in
theorem seqs_walk (w : World) (A : Option Addr) (n c : Nat) (l : List Int) (p : Fa) (lp kp : List Nat) (O : Option Addr) (on oc : Nat) (outs : List Bool) (hA : Rs w none 1 iv A l) (hl : l.length = n) (hu : Ul w none p.A p.n lp) (hv : Ul w none p.B p.m kp) (hpc : p.n ≤ p.c) (hpd : p.m ≤ p.d) (hO : Rs w none 1 bv O outs) (hol : outs.length = on) (hpn : p.n ≤ 9223372036854775807) (hpm : p.m ≤ 9223372036854775807) (hon : on ≤ 9223372036854775807) :
    Calls Try.prog 8 #[.slice A n c, .agg #[.slice p.A p.n p.c, .slice p.B p.m p.d], .slice O on oc] w fun e w' => e = .returned (.bool true) ∧ Below w.heap.size w w' := by
  by_cases hbig : 100 < wrap64 ((p.n : Int) + (p.m : Int))
  · have d1 : decide ((100 : Int) < wrap64 ((p.n : Int) + (p.m : Int))) = true := decide_eq_true hbig
    clear hu hv hA hO hpc hpd
    go_enter Try.func8, Try.ntmps8
    go_wp2_with (go_at_call 15; (with_reducible refine (known_any _).mono ?_); rintro e w9 ⟨rfl, hb⟩; have HB9 := hide (((Below.refl _ _).alloc (Nat.le_refl _) _ : Below w.heap.size w _).trans (hb.mono (by simp))); clear hb)
    go_ret
    exact ⟨rfl, HB9.out⟩
  · by_cases hbo : 100 < on
    · have d1 : decide ((100 : Int) < wrap64 ((p.n : Int) + (p.m : Int))) = false := decide_eq_false hbig
      have d2 : decide ((100 : Int) < (on : Int)) = true := decide_eq_true (by omega)
      clear hu hv hA hO hpc hpd
      go_enter Try.func8, Try.ntmps8
      go_wp2_with (go_at_call 15; (with_reducible refine (known_any _).mono ?_); rintro e w9 ⟨rfl, hb⟩; have HB9 := hide (((Below.refl _ _).alloc (Nat.le_refl _) _ : Below w.heap.size w _).trans (hb.mono (by simp))); clear hb)
      go_ret
      exact ⟨rfl, HB9.out⟩
    · have d1 : decide ((100 : Int) < wrap64 ((p.n : Int) + (p.m : Int))) = false := decide_eq_false hbig
      have d2 : decide ((100 : Int) < (on : Int)) = false := decide_eq_false (by omega)
      have HQ0 := hide (show Fq w p lp kp from ⟨hu, hv, hpc, hpd, hpn, hpm⟩)
      go_enter Try.func8, Try.ntmps8
      go_upto_region 3 with (fail)
      generalize hW : World.alloc w _ = v
      have HBV := hide (show Below w.heap.size w v by rw [← hW]; exact (Below.refl _ _).alloc (Nat.le_refl _) _)
      have hc0 : v.cell? ⟨w.heap.size, 0, none⟩ = some (.slice p.A p.n p.c) := by rw [← hW]; clear hW; go_simp
      have hc1 : v.cell? ⟨w.heap.size, 1, none⟩ = some (.slice p.B p.m p.d) := by rw [← hW]; clear hW; go_simp
      have hvz : w.heap.size < v.heap.size := by rw [← hW]; simp
      have HAV := hide (hA.below HBV.out)
      have HL := hide hl
      have HO := hide hO
      have HOL := hide hol
      clear hW hA hO hl hol hu hv
      go_region_held3 (fun W => (W.cell? ⟨w.heap.size, 0, none⟩ = some (.slice p.A p.n p.c) ∧ W.cell? ⟨w.heap.size, 1, none⟩ = some (.slice p.B p.m p.d))) (first | exact ⟨hc0, hc1⟩ | with_reducible exact kE | (constructor <;> go_keep)) (first
        | (go_at_call 16; refine (chancem_any _ v.heap.size A n c l 0 (by first | exact tp_new HAV.out HL.out _ | exact tp_drew (tp_new HAV.out HL.out _)) (by omega)).mono ?_; rintro e w1 ⟨f, r, rfl, ho, hch, -, hf⟩; have HB1 := hide (by first | exact fr_new rfl hf | exact fr_newd rfl hf : Below v.heap.size v w1); have HF := hide ho; have HCH := hide hch; have e0 := (HB1.out.cell (p := ⟨w.heap.size, 0, none⟩) (by simp; omega)).trans hc0; have e1 := (HB1.out.cell (p := ⟨w.heap.size, 1, none⟩) (by simp; omega)).trans hc1; have kE := And.intro e0 e1; clear ho hch hf))
      generalize hW : World.alloc w1 _ = v2
      have HFR := hide (show FRow v2 w1.heap.size [(p, lp, kp), (f, lm (rn r), lm r.den)] by rw [← hW]; exact frow_two ((HQ0.out.below HBV.out).below HB1.out) HF.out.1 26)
      have HB2 := hide (show Below w.heap.size w v2 by rw [← hW]; exact (HBV.out.trans (HB1.out.mono HBV.out.size)).alloc (by have h1 := HBV.out.size; have h2 := HB1.out.size; omega) _)
      obtain ⟨b2, hb2⟩ : ∃ b, b = w1.heap.size := ⟨_, rfl⟩
      rw [← hb2] at HFR ⊢
      have HO2 := hide (HO.out.below HB2.out)
      clear hW hb2 kE e0 e1
      go_wp2_with fail
      go_loopw [34] (fun iv wr => ∃ j : Nat, iv = .int .i64 (j : Int) ∧ j ≤ 2 ∧ Hid (Below v2.heap.size v2 wr)) (fun iv _ => 2 - (intOf iv).toNat)
      case atStart => exact ⟨0, rfl, by omega, hide (Below.refl _ _)⟩
      case round =>
        obtain ⟨j, rfl, hj, HBr⟩ := hrel
        by_cases hj2 : j = 2
        · subst hj2
          go_wp2_with (go_at_call 15; (with_reducible refine (known_any _).mono ?_); rintro e w9 ⟨rfl, hb⟩; have HB9 := hide (HBr.out.trans (hb.mono HBr.out.size)); clear hb)
          go_ret
          exact ⟨rfl, HB2.out.trans (HB9.out.mono HB2.out.size)⟩
        · have hj0 : (0 : Int) ≤ (j : Int) := by omega
          have hjlt : (j : Int) < 2 := by omega
          obtain ⟨⟨q, lq, kq⟩, hx⟩ : ∃ x, [(p, lp, kp), (f, lm (rn r), lm r.den)][j]? = some x := ⟨_, List.getElem?_eq_getElem (by simp; omega)⟩
          obtain ⟨q0, q1, hq⟩ := (HFR.out.below HBr.out).2 j _ hx
          have HQr := hide hq
          have HOr := hide (HO2.out.below HBr.out)
          clear hx hq
          dsimp only at q0 q1
          go_wp2_with (first
            | (go_at_call 36; (with_reducible refine (seq_any _ q lq kq O on oc outs (HQr.out.alloc _) (HOr.out.alloc _) HOL.out (by omega)).mono ?_); rintro e w3 ⟨c1, rfl, ho, hb⟩; have HO3 := hide ho; have H83 := hide ((Bq.mk0 (w := wr) 26 q rfl).below hb); have HQ3 := hide ((HQr.out.alloc _).below hb); have HR3 := hide ((HOr.out.alloc _).below hb); have HB3 := hide (HBr.out.trans (((Below.refl _ _).alloc (Nat.le_refl _) _).trans (hb.mono (by simp)) |>.mono HBr.out.size)); obtain ⟨x0, x1, xf, xz, -⟩ := H83.out; clear ho hb)
            | (go_at_call 37; (with_reducible refine (rzseq_any _ q lq kq O on oc outs (HQ3.out.alloc _) (HR3.out.alloc _) HOL.out (by omega)).mono ?_); rintro e w4 ⟨c2, rfl, ho, hb⟩; have HO4 := hide ho; have HP4 := hide ((HO3.out.alloc _).below hb); have H94 := hide ((Bq.mk0 (w := w3) 26 c1 rfl).below hb); have HB4 := hide (HB3.out.trans (((Below.refl _ _).alloc (Nat.le_refl _) _).trans (hb.mono (by simp)) |>.mono HB3.out.size)); obtain ⟨z0, z1, zf, zz, -⟩ := H94.out; clear ho hb)
            | (go_at_call 22; (with_reducible refine (samefrac_eq _ c1 c2 _ (HP4.out.alloc _) (HO4.out.alloc _)).mono ?_); rintro e w5 ⟨rfl, hb⟩; have HB5 := hide (HB4.out.trans (((Below.refl _ _).alloc (Nat.le_refl _) _).trans (hb.mono (by simp)) |>.mono HB4.out.size)); clear hb))
          go_roundw
          case rel => exact ⟨j + 1, by go_num, by omega, HB5⟩
          case measure => simp [intOf]; omega
end Go.Proofs.Ytclflfglhbkfkaa

/- The walk of the law NoiseChecks. -/
namespace Go.Proofs.Ytclflfglhbkfkaa
open Go.RowKit

/-- Two fractions with what their limbs read. -/
structure N4 where
  a : Fa
  b : Fa
  la : List Nat
  ka : List Nat
  lb : List Nat
  kb : List Nat
/-- Noise models in a row. -/
def NRow (v : World) (b : Nat) (fs : List N4) : Prop :=
  b < v.heap.size ∧ ∀ i x, fs[i]? = some x → (v.cell? ⟨b, i * 4, none⟩ = some (.slice x.a.A x.a.n x.a.c) ∧ v.cell? ⟨b, i * 4 + 1, none⟩ = some (.slice x.a.B x.a.m x.a.d) ∧ v.cell? ⟨b, i * 4 + 2, none⟩ = some (.slice x.b.A x.b.n x.b.c) ∧ v.cell? ⟨b, i * 4 + 3, none⟩ = some (.slice x.b.B x.b.m x.b.d)) ∧ Fq v x.a x.la x.ka ∧ Fq v x.b x.lb x.kb
theorem NRow.below {v v' : World} {b : Nat} {fs : List N4} (h : NRow v b fs) (hb : Below v.heap.size v v') : NRow v' b fs := by
  have h1 := h.1
  refine ⟨Nat.lt_of_lt_of_le h1 hb.size, fun i x hx => ?_⟩
  obtain ⟨⟨h2, h3, h4, h5⟩, h6, h7⟩ := h.2 i x hx
  exact ⟨⟨by rw [hb.cell (by simp; omega)]; exact h2, by rw [hb.cell (by simp; omega)]; exact h3, by rw [hb.cell (by simp; omega)]; exact h4, by rw [hb.cell (by simp; omega)]; exact h5⟩, h6.below hb, h7.below hb⟩
theorem nrow_four {w : World} {x0 x1 x2 x3 : N4} (h0 : Fq w x0.a x0.la x0.ka ∧ Fq w x0.b x0.lb x0.kb) (h1 : Fq w x1.a x1.la x1.ka ∧ Fq w x1.b x1.lb x1.kb) (h2 : Fq w x2.a x2.la x2.ka ∧ Fq w x2.b x2.lb x2.kb) (h3 : Fq w x3.a x3.la x3.ka ∧ Fq w x3.b x3.lb x3.kb) (t : TypeId) :
    NRow (w.alloc (.cells #[.slice x0.a.A x0.a.n x0.a.c, .slice x0.a.B x0.a.m x0.a.d, .slice x0.b.A x0.b.n x0.b.c, .slice x0.b.B x0.b.m x0.b.d, .slice x1.a.A x1.a.n x1.a.c, .slice x1.a.B x1.a.m x1.a.d, .slice x1.b.A x1.b.n x1.b.c, .slice x1.b.B x1.b.m x1.b.d, .slice x2.a.A x2.a.n x2.a.c, .slice x2.a.B x2.a.m x2.a.d, .slice x2.b.A x2.b.n x2.b.c, .slice x2.b.B x2.b.m x2.b.d, .slice x3.a.A x3.a.n x3.a.c, .slice x3.a.B x3.a.m x3.a.d, .slice x3.b.A x3.b.n x3.b.c, .slice x3.b.B x3.b.m x3.b.d] t)) w.heap.size [x0, x1, x2, x3] := by
  refine ⟨by simp, fun i x hx => ?_⟩
  match i with
  | 0 => simp at hx; subst hx; exact ⟨⟨by simp [go_sem], by simp [go_sem], by simp [go_sem], by simp [go_sem]⟩, h0.1.alloc _, h0.2.alloc _⟩
  | 1 => simp at hx; subst hx; exact ⟨⟨by simp [go_sem], by simp [go_sem], by simp [go_sem], by simp [go_sem]⟩, h1.1.alloc _, h1.2.alloc _⟩
  | 2 => simp at hx; subst hx; exact ⟨⟨by simp [go_sem], by simp [go_sem], by simp [go_sem], by simp [go_sem]⟩, h2.1.alloc _, h2.2.alloc _⟩
  | 3 => simp at hx; subst hx; exact ⟨⟨by simp [go_sem], by simp [go_sem], by simp [go_sem], by simp [go_sem]⟩, h3.1.alloc _, h3.2.alloc _⟩
  | i + 4 => simp at hx
set_option maxRecDepth 100000 in
set_option maxHeartbeats 16000000 in
theorem checks_walk (w : World) (A : Option Addr) (n c : Nat) (l : List Int) (p q : Fa) (lp kp lq kq : List Nat) (bad : Bool) (hA : Rs w none 1 iv A l) (hl : l.length = n) (hp : Fq w p lp kp) (hq : Fq w q lq kq) :
    Calls Try.prog 7 #[.slice A n c, .agg #[.slice p.A p.n p.c, .slice p.B p.m p.d, .slice q.A q.n q.c, .slice q.B q.m q.d], .bool bad] w fun e w' => e = .returned (.bool true) ∧ Below w.heap.size w w' := by
  by_cases hbig : 100 < wrap64 (wrap64 (wrap64 ((p.n : Int) + (p.m : Int)) + (q.n : Int)) + (q.m : Int))
  · have d1 : decide ((100 : Int) < wrap64 (wrap64 (wrap64 ((p.n : Int) + (p.m : Int)) + (q.n : Int)) + (q.m : Int))) = true := decide_eq_true hbig
    clear hA hp hq
    go_enter Try.func7, Try.ntmps7
    go_wp2_with (go_at_call 15; (with_reducible refine (known_any _).mono ?_); rintro e w9 ⟨rfl, hb⟩; have HB9 := hide (((Below.refl _ _).alloc (Nat.le_refl _) _ : Below w.heap.size w _).trans (hb.mono (by simp))); clear hb)
    go_ret
    exact ⟨rfl, HB9.out⟩
  · have d1 : decide ((100 : Int) < wrap64 (wrap64 (wrap64 ((p.n : Int) + (p.m : Int)) + (q.n : Int)) + (q.m : Int))) = false := decide_eq_false hbig
    have HPQ := hide (And.intro hp hq)
    go_enter Try.func7, Try.ntmps7
    go_upto_region 4 with (fail)
    generalize hW : World.alloc (World.alloc w _) _ = v
    have HBV := hide (show Below w.heap.size w v by rw [← hW]; exact ((Below.refl _ _).alloc (Nat.le_refl _) _).alloc (by simp) _)
    have HK := hide (show Cb v w.heap.size [.slice p.A p.n p.c, .slice p.B p.m p.d, .slice q.A q.n q.c, .slice q.B q.m q.d] by rw [← hW]; exact (Cb.mk0 _ (by simp) _ rfl).alloc _)
    have HT := hide (show Tp v (w.heap.size + 1) A n c l 0 by rw [← hW]; have := tp_new (w := w.alloc (.cells #[.slice p.A p.n p.c, .slice p.B p.m p.d, .slice q.A q.n q.c, .slice q.B q.m q.d] 50)) (c := c) (hA.alloc _) hl 31; simpa using this)
    have hvz : w.heap.size + 1 < v.heap.size := by rw [← hW]; simp
    have kE := (And.intro (HK.out.cell 0 _ rfl) (And.intro (HK.out.cell 1 _ rfl) (And.intro (HK.out.cell 2 _ rfl) (HK.out.cell 3 _ rfl))))
    clear hW hA hl hp hq
    go_region_held3 (fun W => (W.cell? ⟨w.heap.size, 0, none⟩ = some (.slice p.A p.n p.c) ∧ W.cell? ⟨w.heap.size, 1, none⟩ = some (.slice p.B p.m p.d) ∧ W.cell? ⟨w.heap.size, 2, none⟩ = some (.slice q.A q.n q.c) ∧ W.cell? ⟨w.heap.size, 3, none⟩ = some (.slice q.B q.m q.d))) (first | with_reducible exact kE | with_reducible exact kE1 | with_reducible exact kE2 | with_reducible exact kE3 | with_reducible exact kE4 | (refine ⟨?_, ?_, ?_, ?_⟩ <;> go_keep)) (first
      | (go_at_call 28; refine (noisem_any _ (w.heap.size + 1) A n c l 0 (by first | exact HT.out | exact tp_drew HT.out) (by omega)).mono ?_; rintro e w1 ⟨f1, g1, r1, s1, rfl, ho, ho2, -, -, -, hp, hf⟩; have HF1 := hide (by first | exact hf | exact ((Fr.refl v _).drew).trans hf : Fr v w1 (fun b => b = w.heap.size + 1)); have HO1 := hide (And.intro ho ho2); have HT1 := hide hp; have HK1 := hide (HK.out.one HF1.out (by omega)); have kE1 := (And.intro (HK1.out.cell 0 _ rfl) (And.intro (HK1.out.cell 1 _ rfl) (And.intro (HK1.out.cell 2 _ rfl) (HK1.out.cell 3 _ rfl)))); clear ho ho2 hp hf)
      | (go_at_call 16; refine (chancem_any _ (w.heap.size + 1) A n c l 3 (by first | exact HT1.out | exact tp_drew HT1.out) (by omega)).mono ?_; rintro e w2 ⟨f2, r2, rfl, ho, -, hp, hf⟩; have hf' := (by first | exact hf | exact ((Fr.refl w1 _).drew).trans hf : Fr w1 w2 (fun b => b = w.heap.size + 1)); have HF2 := hide (HF1.out.trans hf'); have HO2 := hide ho; have HO12 := hide (And.intro (HO1.out.1.one hf' HT1.out.nb) (HO1.out.2.one hf' HT1.out.nb)); have HT2 := hide hp; have HK2 := hide (HK1.out.one hf' (by omega)); have kE2 := (And.intro (HK2.out.cell 0 _ rfl) (And.intro (HK2.out.cell 1 _ rfl) (And.intro (HK2.out.cell 2 _ rfl) (HK2.out.cell 3 _ rfl)))); clear ho hp hf hf')
      | (go_at_call 16; refine (chancem_any _ (w.heap.size + 1) A n c l 5 (by first | exact HT2.out | exact tp_drew HT2.out) (by omega)).mono ?_; rintro e w3 ⟨f3, r3, rfl, ho, -, hp, hf⟩; have hf' := (by first | exact hf | exact ((Fr.refl w2 _).drew).trans hf : Fr w2 w3 (fun b => b = w.heap.size + 1)); have HF3 := hide (HF2.out.trans hf'); have HO3 := hide ho; have HO13 := hide (And.intro (HO12.out.1.one hf' HT2.out.nb) (HO12.out.2.one hf' HT2.out.nb)); have HO23 := hide (HO2.out.one hf' HT2.out.nb); have HT3 := hide hp; have HK3 := hide (HK2.out.one hf' (by omega)); have kE3 := (And.intro (HK3.out.cell 0 _ rfl) (And.intro (HK3.out.cell 1 _ rfl) (And.intro (HK3.out.cell 2 _ rfl) (HK3.out.cell 3 _ rfl)))); clear ho hp hf hf')
      | (go_at_call 29; refine (innerm_any _ (w.heap.size + 1) A n c l 7 (by first | exact HT3.out | exact tp_drew HT3.out) (by omega)).mono ?_; rintro e w4 ⟨f4, r4, rfl, ho, -, hp, hf⟩; have hf' := (by first | exact hf | exact ((Fr.refl w3 _).drew).trans hf : Fr w3 w4 (fun b => b = w.heap.size + 1)); have HF4 := hide (HF3.out.trans hf'); have HO4 := hide ho; have HO14 := hide (And.intro (HO13.out.1.one hf' HT3.out.nb) (HO13.out.2.one hf' HT3.out.nb)); have HO24 := hide (HO23.out.one hf' HT3.out.nb); have HO34 := hide (HO3.out.one hf' HT3.out.nb); have HK4 := hide (HK3.out.one hf' (by omega)); have kE4 := (And.intro (HK4.out.cell 0 _ rfl) (And.intro (HK4.out.cell 1 _ rfl) (And.intro (HK4.out.cell 2 _ rfl) (HK4.out.cell 3 _ rfl)))); clear ho hp hf hf'))
    have HB4 := hide (show Below w.heap.size w w4 from (Fr.of_below (fun b => b = w.heap.size + 1) HBV.out |>.trans HF4.out).below (Nat.le_refl _) (fun k hk e => by omega))
    generalize hW : World.alloc w4 _ = v2
    have HFR := hide (show NRow v2 w4.heap.size [⟨p, q, lp, kp, lq, kq⟩, ⟨f1, g1, lm (rn r1), lm r1.den, lm (rn s1), lm s1.den⟩, ⟨f2, f3, lm (rn r2), lm r2.den, lm (rn r3), lm r3.den⟩, ⟨f4, q, lm (rn r4), lm r4.den, lq, kq⟩] by
      rw [← hW]
      exact nrow_four (x0 := ⟨p, q, lp, kp, lq, kq⟩) (x1 := ⟨f1, g1, _, _, _, _⟩) (x2 := ⟨f2, f3, _, _, _, _⟩) (x3 := ⟨f4, q, _, _, _, _⟩) ⟨HPQ.out.1.below HB4.out, HPQ.out.2.below HB4.out⟩ ⟨HO14.out.1.1, HO14.out.2.1⟩ ⟨HO24.out.1, HO34.out.1⟩ ⟨HO4.out.1, HPQ.out.2.below HB4.out⟩ 50)
    have HB2 := hide (show Below w.heap.size w v2 by rw [← hW]; exact HB4.out.alloc HB4.out.size _)
    obtain ⟨b2, hb2⟩ : ∃ b, b = w4.heap.size := ⟨_, rfl⟩
    rw [← hb2] at HFR ⊢
    clear hW hb2 kE kE1 kE2 kE3 kE4
    go_wp2_with fail
    go_loopw [53] (fun iv wr => ∃ j : Nat, iv = .int .i64 (j : Int) ∧ j ≤ 4 ∧ Hid (Below v2.heap.size v2 wr)) (fun iv _ => 4 - (intOf iv).toNat)
    case atStart => exact ⟨0, rfl, by omega, hide (Below.refl _ _)⟩
    case round =>
      obtain ⟨j, rfl, hj, HBr⟩ := hrel
      by_cases hj2 : j = 4
      · subst hj2
        go_wp2_with (go_at_call 15; (with_reducible refine (known_any _).mono ?_); rintro e w9 ⟨rfl, hb⟩; have HB9 := hide (HBr.out.trans (hb.mono HBr.out.size)); clear hb)
        go_ret
        exact ⟨rfl, HB2.out.trans (HB9.out.mono HB2.out.size)⟩
      · have hj0 : (0 : Int) ≤ (j : Int) := by omega
        have hjlt : (j : Int) < 4 := by omega
        obtain ⟨x, hx⟩ : ∃ x, [(⟨p, q, lp, kp, lq, kq⟩ : N4), ⟨f1, g1, lm (rn r1), lm r1.den, lm (rn s1), lm s1.den⟩, ⟨f2, f3, lm (rn r2), lm r2.den, lm (rn r3), lm r3.den⟩, ⟨f4, q, lm (rn r4), lm r4.den, lq, kq⟩][j]? = some x := ⟨_, List.getElem?_eq_getElem (by simp; omega)⟩
        obtain ⟨⟨q0, q1, q2, q3⟩, hqa, hqb⟩ := (HFR.out.below HBr.out).2 j _ hx
        obtain ⟨a, b, la, ka, lb, kb⟩ := x
        dsimp only at q0 q1 q2 q3 hqa hqb
        have HQr := hide (And.intro hqa hqb)
        obtain ⟨X, hX⟩ : ∃ X, X = flR (fracOf la ka) (fracOf lb kb) bad := ⟨_, rfl⟩
        have HX := hide hX
        clear hx hqa hqb hX
        go_upto_region 9 with (first
          | (go_at_call 30; (with_reducible refine (nfails_any _ a b la ka lb kb bad (HQr.out.1.alloc _) (HQr.out.2.alloc _)).mono ?_); rintro e z1 ⟨c1, rfl, ho, hb⟩; rw [← HX.out] at ho ⊢; have HO1 := hide ho; have HN1 := hide ((FN.mk0 HQr.out.1 HQr.out.2 50).below hb); obtain ⟨e10, e11, e12, e13⟩ := HN1.out.ca; have e14 := HN1.out.sz; clear ho hb)
          | (go_at_call 31; (with_reducible refine (rzfails_any _ a b la ka lb kb bad (HN1.out.qa.alloc _) (HN1.out.qb.alloc _)).mono ?_); rintro e z2 ⟨c2, rfl, ho, hb⟩; rw [← HX.out] at ho ⊢; have HO2 := hide ho; have HO12 := hide ((HO1.out.alloc _).below hb); have HN2 := hide ((HN1.out.below ((Below.refl _ _).alloc (Nat.le_refl _) _)).below hb); have H12 := hide ((Bq.mk0 (w := z1) 26 c1 rfl).below hb); clear ho hb))
        generalize hW : World.alloc z2 _ = z3
        have HN3 := hide (show FN wr z3 a b la ka lb kb by rw [← hW]; exact HN2.out.below ((Below.refl _ _).alloc (Nat.le_refl _) _))
        have HC3 := hide (show Bq z3 z1.heap.size c1 ∧ Bq z3 z2.heap.size c2 ∧ Fo z3 c1 X.1 ∧ Fo z3 c2 X.1 by rw [← hW]; exact ⟨H12.out.below ((Below.refl _ _).alloc (Nat.le_refl _) _), Bq.mk0 26 c2 rfl, HO12.out.alloc _, HO2.out.alloc _⟩)
        clear hW
        apply region_seq 34 (69 :: 70 :: 71 :: 72 :: 73 :: 74 :: 75 :: 76 :: 77 :: 78 :: 79 :: 80 :: 81 :: 82 :: 83 :: 84 :: 85 :: 86 :: 87 :: 88 :: 89 :: 90 :: 91 :: 92 :: 93 :: 94 :: 95 :: 96 :: 97 :: 98 :: 99 :: 100 :: 101 :: 102 :: []) (eqV _ :: eqV _ :: eqV _ :: eqV _ :: eqV _ :: eqV _ :: eqV _ :: eqV _ :: eqV _ :: eqV _ :: eqV _ :: eqV _ :: eqV _ :: eqV _ :: eqV _ :: eqV _ :: eqV _ :: eqV _ :: eqV _ :: eqV _ :: eqV _ :: eqV _ :: eqV _ :: eqV _ :: eqV _ :: eqV _ :: eqV _ :: eqV _ :: eqV _ :: eqV _ :: eqV _ :: eqV _ :: eqV _ :: eqV _ :: []) (false :: false :: false :: false :: false :: false :: false :: false :: false :: false :: false :: false :: false :: false :: false :: false :: false :: false :: false :: false :: false :: false :: false :: false :: false :: false :: false :: false :: false :: false :: false :: false :: false :: false :: []) (by kernel_rfl) (by decide) rfl rfl rfl (by decide) (by kernel_rfl) (by kernel_rfl) ?stb3 ?steps3 ?fin3
        case stb3 => repeat' (first | exact trivial | apply stb_eq | fail | apply And.intro)
        case steps3 =>
          repeat' (first | exact trivial | apply And.intro)
          all_goals
            intro a' w' hbw hdf hoff hdep K hK
            (have o1 := hoff 9 rfl; have o2 := hoff 11 rfl; have o3 := hoff 13 rfl; have o4 := hoff 10 rfl; have o5 := hoff 12 rfl)
            (have HN := hide (HN3.out.below hbw); obtain ⟨y0, y1, y2, y3⟩ := HN.out.ca; obtain ⟨u0, u1, -⟩ := HC3.out.1.below hbw; obtain ⟨v0, v1, -⟩ := HC3.out.2.1.below hbw)
            replace hdep := hdep _ rfl rfl
            simp only [List.getElem_toArray, List.getElem_cons_succ, List.getElem_cons_zero, List.toList_toArray, depAll, getR, eqV, List.getD_cons_succ, List.getD_cons_zero, and_true] at hdep
            simp only [Nat.zero_add, Nat.reduceAdd, getR, eqV, List.getD_cons_succ, List.getD_cons_zero] at hK
            clear hoff hdf
            skip
            first
              | (refine rg_unwanted rfl rfl rfl (b' := false) (by first | (simp [hdep]; done) | assumption) (by decide) ?_; exact hK _ _ rfl (Below.refl _ _) (by simp))
              | (refine rg_unwanted rfl rfl rfl (b' := true) (by first | (simp [hdep]; done) | assumption) (by decide) ?_; exact hK _ _ rfl (Below.refl _ _) (by simp))
              | (refine rg_wanted rfl rfl rfl (b' := true) (by first | (simp [hdep]; done) | assumption) rfl (fun K' hKK => ?_); go_wp2_with (first | (go_at_call 32; (with_reducible refine (nzcheck_any _ a b la ka lb kb HN.out.qa HN.out.qb).mono ?_); rintro e y1 ⟨rfl, hb⟩) | (go_at_call 33; (with_reducible refine (rzcheck_any _ a b la ka lb kb HN.out.qa HN.out.qb).mono ?_); rintro e y1 ⟨rfl, hb⟩) | (go_at_call 34; (with_reducible refine (chance_any _ a la ka HN.out.qa).mono ?_); rintro e y1 ⟨rfl, hb⟩) | (go_at_call 35; (with_reducible refine (rzchance_any _ a la ka HN.out.qa).mono ?_); rintro e y1 ⟨rfl, hb⟩) | (go_at_call 34; (with_reducible refine (chance_any _ b lb kb HN.out.qb).mono ?_); rintro e y1 ⟨rfl, hb⟩) | (go_at_call 35; (with_reducible refine (rzchance_any _ b lb kb HN.out.qb).mono ?_); rintro e y1 ⟨rfl, hb⟩) | (go_at_call 22; (with_reducible refine (samefrac_eq _ c1 c2 _ (HC3.out.2.2.1.below hbw) (HC3.out.2.2.2.below hbw)).mono ?_); rintro e y1 ⟨rfl, hb⟩)); first | exact hK _ _ rfl (Below.refl _ _) (by simp) | exact hK _ _ rfl hb (by simp))
              | (refine rg_wanted rfl rfl rfl (b' := false) (by first | (simp [hdep]; done) | assumption) rfl (fun K' hKK => ?_); go_wp2_with (first | (go_at_call 32; (with_reducible refine (nzcheck_any _ a b la ka lb kb HN.out.qa HN.out.qb).mono ?_); rintro e y1 ⟨rfl, hb⟩) | (go_at_call 33; (with_reducible refine (rzcheck_any _ a b la ka lb kb HN.out.qa HN.out.qb).mono ?_); rintro e y1 ⟨rfl, hb⟩) | (go_at_call 34; (with_reducible refine (chance_any _ a la ka HN.out.qa).mono ?_); rintro e y1 ⟨rfl, hb⟩) | (go_at_call 35; (with_reducible refine (rzchance_any _ a la ka HN.out.qa).mono ?_); rintro e y1 ⟨rfl, hb⟩) | (go_at_call 34; (with_reducible refine (chance_any _ b lb kb HN.out.qb).mono ?_); rintro e y1 ⟨rfl, hb⟩) | (go_at_call 35; (with_reducible refine (rzchance_any _ b lb kb HN.out.qb).mono ?_); rintro e y1 ⟨rfl, hb⟩) | (go_at_call 22; (with_reducible refine (samefrac_eq _ c1 c2 _ (HC3.out.2.2.1.below hbw) (HC3.out.2.2.2.below hbw)).mono ?_); rintro e y1 ⟨rfl, hb⟩)); first | exact hK _ _ rfl (Below.refl _ _) (by simp) | exact hK _ _ rfl hb (by simp))
              | (refine rg_free rfl rfl (fun K' hKK => ?_); fail)
              | (refine rg_free rfl rfl (fun K' hKK => ?_); go_wp2_with (first | (go_at_call 32; (with_reducible refine (nzcheck_any _ a b la ka lb kb HN.out.qa HN.out.qb).mono ?_); rintro e y1 ⟨rfl, hb⟩) | (go_at_call 33; (with_reducible refine (rzcheck_any _ a b la ka lb kb HN.out.qa HN.out.qb).mono ?_); rintro e y1 ⟨rfl, hb⟩) | (go_at_call 34; (with_reducible refine (chance_any _ a la ka HN.out.qa).mono ?_); rintro e y1 ⟨rfl, hb⟩) | (go_at_call 35; (with_reducible refine (rzchance_any _ a la ka HN.out.qa).mono ?_); rintro e y1 ⟨rfl, hb⟩) | (go_at_call 34; (with_reducible refine (chance_any _ b lb kb HN.out.qb).mono ?_); rintro e y1 ⟨rfl, hb⟩) | (go_at_call 35; (with_reducible refine (rzchance_any _ b lb kb HN.out.qb).mono ?_); rintro e y1 ⟨rfl, hb⟩) | (go_at_call 22; (with_reducible refine (samefrac_eq _ c1 c2 _ (HC3.out.2.2.1.below hbw) (HC3.out.2.2.2.below hbw)).mono ?_); rintro e y1 ⟨rfl, hb⟩)); first | exact hK _ _ rfl (Below.refl _ _) (by simp) | exact hK _ _ rfl hb (by simp))
        intro w' hbw
        repeat (refine fin_eq ?_)
        refine fin_nil ?_
        (simp only [List.setIfInBounds_toArray, List.set_cons_succ, List.set_cons_zero]; refine wpAny_done (by kernel_rfl) ?_ _)
        go_wp2_with fail
        go_roundw
        case rel => exact ⟨j + 1, by go_num, by omega, hide (HBr.out.trans ((HN3.out.bw.trans (hbw.mono HN3.out.bw.size)).mono HBr.out.size))⟩
        case measure => simp [intOf]; omega
end Go.Proofs.Ytclflfglhbkfkaa
