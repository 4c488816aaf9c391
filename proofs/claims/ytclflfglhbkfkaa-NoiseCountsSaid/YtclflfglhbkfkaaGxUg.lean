/- The walk of the law NoiseCounts. -/
import Derived.Test.YtclflfglhbkfkaaG20
import Derived.Test.YtclflfglhbkfkaaG12
import Derived.Test.YtclflfglhbkfkaaG23
import Derived.Test.YtclflfglhbkfkaaG22
import Derived.Test.YtclflfglhbkfkaaG13
set_option linter.unusedVariables false
set_option linter.unusedSimpArgs false

/- The walk of the law NoiseSequences. -/
namespace Go.Proofs.Ytclflfglhbkfkaa
open Go.RowKit

/-- Fractions in a row: each with what its limbs read. -/
def FRow (v : World) (b : Nat) (fs : List (Fa × List Nat × List Nat)) : Prop :=
  b < v.heap.size ∧ ∀ i x, fs[i]? = some x → v.cell? ⟨b, i * 2, none⟩ = some (.slice x.1.A x.1.n x.1.c) ∧ v.cell? ⟨b, i * 2 + 1, none⟩ = some (.slice x.1.B x.1.m x.1.d) ∧ Fq v x.1 x.2.1 x.2.2
theorem FRow.below {v v' : World} {b : Nat} {fs : List (Fa × List Nat × List Nat)} (h : FRow v b fs) (hb : Below v.heap.size v v') : FRow v' b fs := by
  have h1 := h.1
  refine ⟨Nat.lt_of_lt_of_le h1 hb.size, fun i x hx => ?_⟩
  obtain ⟨h2, h3, h4⟩ := h.2 i x hx
  exact ⟨by rw [hb.cell (by simp; omega)]; exact h2, by rw [hb.cell (by simp; omega)]; exact h3, h4.below hb⟩
theorem frow_two {w : World} {p q : Fa} {l k l' k' : List Nat} (hp : Fq w p l k) (hq : Fq w q l' k') (t : TypeId) : FRow (w.alloc (.cells #[.slice p.A p.n p.c, .slice p.B p.m p.d, .slice q.A q.n q.c, .slice q.B q.m q.d] t)) w.heap.size [(p, l, k), (q, l', k')] := by
  refine ⟨by simp, fun i x hx => ?_⟩
  match i with
  | 0 => simp at hx; subst hx; exact ⟨by simp [go_sem], by simp [go_sem], hp.alloc _⟩
  | 1 => simp at hx; subst hx; exact ⟨by simp [go_sem], by simp [go_sem], hq.alloc _⟩
  | i + 2 => simp at hx
theorem tp_drew {w : World} {T : Nat} {A : Option Addr} {n c : Nat} {l : List Int} {a : Nat} (h : Tp w T A n c l a) : Tp w.drew T A n c l a := h.below (Dr.below ⟨1, rfl⟩)
theorem fr_newd {w w' : World} {o : Obj} {T : Nat} (hT : T = w.heap.size) (h : Fr (w.alloc o).drew w' (fun b => b = T)) : Below w.heap.size w w' := fr_new hT (((Fr.refl _ _).drew).trans h)
set_option maxRecDepth 100000 in
set_option maxHeartbeats 8000000 in
theorem seqs_walk (w : World) (A : Option Addr) (n c : Nat) (l : List Int) (p : Fa) (lp kp : List Nat) (O : Option Addr) (on oc : Nat) (outs : List Bool) (hA : Rs w none 1 iv A l) (hl : l.length = n) (hu : Ul w none p.A p.n lp) (hv : Ul w none p.B p.m kp) (hpc : p.n ≤ p.c) (hpd : p.m ≤ p.d) (hO : Rs w none 1 bv O outs) (hol : outs.length = on) (hpn : p.n ≤ 9223372036854775807) (hpm : p.m ≤ 9223372036854775807) (hon : on ≤ 9223372036854775807) :
    Calls Try.prog 8 #[.slice A n c, .agg #[.slice p.A p.n p.c, .slice p.B p.m p.d], .slice O on oc] w fun e w' => e = .returned (.bool true) ∧ Below w.heap.size w w' := by
  by_cases hbig : 100 < wrap64 ((p.n : Int) + (p.m : Int))
  · have d1 : decide ((100 : Int) < wrap64 ((p.n : Int) + (p.m : Int))) = true := decide_eq_true hbig
    clear hu hv hA hO hpc hpd
    go_enter Try.func8, Try.ntmps8
    go_wp2_with (go_at_call 15; (with_reducible refine (known_any _).mono ?_); rintro e w9 ⟨rfl, hb⟩; have HB9 := hide (((Below.refl _ _).alloc (Nat.le_refl _) _ : Below w.heap.size w _).trans (hb.mono (by simp))); clear hb)
    go_ret
    exact ⟨rfl, HB9.out⟩
  · by_cases hbo : 100 < on
    · have d1 : decide ((100 : Int) < wrap64 ((p.n : Int) + (p.m : Int))) = false := decide_eq_false hbig
      have d2 : decide ((100 : Int) < (on : Int)) = true := decide_eq_true (by omega)
      clear hu hv hA hO hpc hpd
      go_enter Try.func8, Try.ntmps8
      go_wp2_with (go_at_call 15; (with_reducible refine (known_any _).mono ?_); rintro e w9 ⟨rfl, hb⟩; have HB9 := hide (((Below.refl _ _).alloc (Nat.le_refl _) _ : Below w.heap.size w _).trans (hb.mono (by simp))); clear hb)
      go_ret
      exact ⟨rfl, HB9.out⟩
    · have d1 : decide ((100 : Int) < wrap64 ((p.n : Int) + (p.m : Int))) = false := decide_eq_false hbig
      have d2 : decide ((100 : Int) < (on : Int)) = false := decide_eq_false (by omega)
      have HQ0 := hide (show Fq w p lp kp from ⟨hu, hv, hpc, hpd, hpn, hpm⟩)
      go_enter Try.func8, Try.ntmps8
      go_upto_region 3 with (fail)
      generalize hW : World.alloc w _ = v
      have HBV := hide (show Below w.heap.size w v by rw [← hW]; exact (Below.refl _ _).alloc (Nat.le_refl _) _)
      have hc0 : v.cell? ⟨w.heap.size, 0, none⟩ = some (.slice p.A p.n p.c) := by rw [← hW]; clear hW; go_simp
      have hc1 : v.cell? ⟨w.heap.size, 1, none⟩ = some (.slice p.B p.m p.d) := by rw [← hW]; clear hW; go_simp
      have hvz : w.heap.size < v.heap.size := by rw [← hW]; simp
      have HAV := hide (hA.below HBV.out)
      have HL := hide hl
      have HO := hide hO
      have HOL := hide hol
      clear hW hA hO hl hol hu hv
      go_region_held3 (fun W => (W.cell? ⟨w.heap.size, 0, none⟩ = some (.slice p.A p.n p.c) ∧ W.cell? ⟨w.heap.size, 1, none⟩ = some (.slice p.B p.m p.d))) (first | exact ⟨hc0, hc1⟩ | with_reducible exact kE | (constructor <;> go_keep)) (first
        | (go_at_call 16; refine (chancem_any _ v.heap.size A n c l 0 (by first | exact tp_new HAV.out HL.out _ | exact tp_drew (tp_new HAV.out HL.out _)) (by omega)).mono ?_; rintro e w1 ⟨f, r, rfl, ho, hch, -, hf⟩; have HB1 := hide (by first | exact fr_new rfl hf | exact fr_newd rfl hf : Below v.heap.size v w1); have HF := hide ho; have HCH := hide hch; have e0 := (HB1.out.cell (p := ⟨w.heap.size, 0, none⟩) (by simp; omega)).trans hc0; have e1 := (HB1.out.cell (p := ⟨w.heap.size, 1, none⟩) (by simp; omega)).trans hc1; have kE := And.intro e0 e1; clear ho hch hf))
      generalize hW : World.alloc w1 _ = v2
      have HFR := hide (show FRow v2 w1.heap.size [(p, lp, kp), (f, lm (rn r), lm r.den)] by rw [← hW]; exact frow_two ((HQ0.out.below HBV.out).below HB1.out) HF.out.1 26)
      have HB2 := hide (show Below w.heap.size w v2 by rw [← hW]; exact (HBV.out.trans (HB1.out.mono HBV.out.size)).alloc (by have h1 := HBV.out.size; have h2 := HB1.out.size; omega) _)
      obtain ⟨b2, hb2⟩ : ∃ b, b = w1.heap.size := ⟨_, rfl⟩
      rw [← hb2] at HFR ⊢
      have HO2 := hide (HO.out.below HB2.out)
      clear hW hb2 kE e0 e1
      go_wp2_with fail
      go_loopw [34] (fun iv wr => ∃ j : Nat, iv = .int .i64 (j : Int) ∧ j ≤ 2 ∧ Hid (Below v2.heap.size v2 wr)) (fun iv _ => 2 - (intOf iv).toNat)
      case atStart => exact ⟨0, rfl, by omega, hide (Below.refl _ _)⟩
      case round =>
        obtain ⟨j, rfl, hj, HBr⟩ := hrel
        by_cases hj2 : j = 2
        · subst hj2
          go_wp2_with (go_at_call 15; (with_reducible refine (known_any _).mono ?_); rintro e w9 ⟨rfl, hb⟩; have HB9 := hide (HBr.out.trans (hb.mono HBr.out.size)); clear hb)
          go_ret
          exact ⟨rfl, HB2.out.trans (HB9.out.mono HB2.out.size)⟩
        · have hj0 : (0 : Int) ≤ (j : Int) := by omega
          have hjlt : (j : Int) < 2 := by omega
          obtain ⟨⟨q, lq, kq⟩, hx⟩ : ∃ x, [(p, lp, kp), (f, lm (rn r), lm r.den)][j]? = some x := ⟨_, List.getElem?_eq_getElem (by simp; omega)⟩
          obtain ⟨q0, q1, hq⟩ := (HFR.out.below HBr.out).2 j _ hx
          have HQr := hide hq
          have HOr := hide (HO2.out.below HBr.out)
          clear hx hq
          dsimp only at q0 q1
          go_wp2_with (first
            | (go_at_call 36; (with_reducible refine (seq_any _ q lq kq O on oc outs (HQr.out.alloc _) (HOr.out.alloc _) HOL.out (by omega)).mono ?_); rintro e w3 ⟨c1, rfl, ho, hb⟩; have HO3 := hide ho; have H83 := hide ((Bq.mk0 (w := wr) 26 q rfl).below hb); have HQ3 := hide ((HQr.out.alloc _).below hb); have HR3 := hide ((HOr.out.alloc _).below hb); have HB3 := hide (HBr.out.trans (((Below.refl _ _).alloc (Nat.le_refl _) _).trans (hb.mono (by simp)) |>.mono HBr.out.size)); obtain ⟨x0, x1, xf, xz, -⟩ := H83.out; clear ho hb)
            | (go_at_call 37; (with_reducible refine (rzseq_any _ q lq kq O on oc outs (HQ3.out.alloc _) (HR3.out.alloc _) HOL.out (by omega)).mono ?_); rintro e w4 ⟨c2, rfl, ho, hb⟩; have HO4 := hide ho; have HP4 := hide ((HO3.out.alloc _).below hb); have H94 := hide ((Bq.mk0 (w := w3) 26 c1 rfl).below hb); have HB4 := hide (HB3.out.trans (((Below.refl _ _).alloc (Nat.le_refl _) _).trans (hb.mono (by simp)) |>.mono HB3.out.size)); obtain ⟨z0, z1, zf, zz, -⟩ := H94.out; clear ho hb)
            | (go_at_call 22; (with_reducible refine (samefrac_eq _ c1 c2 _ (HP4.out.alloc _) (HO4.out.alloc _)).mono ?_); rintro e w5 ⟨rfl, hb⟩; have HB5 := hide (HB4.out.trans (((Below.refl _ _).alloc (Nat.le_refl _) _).trans (hb.mono (by simp)) |>.mono HB4.out.size)); clear hb))
          go_roundw
          case rel => exact ⟨j + 1, by go_num, by omega, HB5⟩
          case measure => simp [intOf]; omega
end Go.Proofs.Ytclflfglhbkfkaa

/- The walk of the law NoiseCounts. -/
namespace Go.Proofs.Ytclflfglhbkfkaa
open Go.RowKit

set_option maxRecDepth 100000 in
set_option maxHeartbeats 16000000 in
theorem counts_walk (w : World) (A : Option Addr) (n c : Nat) (l : List Int) (p : Fa) (lp kp : List Nat) (N K : Int) (hA : Rs w none 1 iv A l) (hl : l.length = n) (hu : Ul w none p.A p.n lp) (hv : Ul w none p.B p.m kp) (hpc : p.n ≤ p.c) (hpd : p.m ≤ p.d) (hpn : p.n ≤ 9223372036854775807) (hpm : p.m ≤ 9223372036854775807) (hK : K < 9223372036854775808) :
    Calls Try.prog 4 #[.slice A n c, .agg #[.slice p.A p.n p.c, .slice p.B p.m p.d], .int .i64 N, .int .i64 K] w fun e w' => e = .returned (.bool true) ∧ Below w.heap.size w w' := by
  obtain ⟨m, hm, hF⟩ := fold_nat N 12 (by omega) (by omega)
  have HFD := hide hF
  clear hF
  have HK := hide hK
  clear hK
  by_cases hbig : 100 < wrap64 ((p.n : Int) + (p.m : Int))
  · have d1 : decide ((100 : Int) < wrap64 ((p.n : Int) + (p.m : Int))) = true := decide_eq_true hbig
    clear hu hv hA hpc hpd
    go_enter Try.func4, Try.ntmps4
    go_wp2_with (go_at_call 15; (with_reducible refine (known_any _).mono ?_); rintro e w9 ⟨rfl, hb⟩; have HB9 := hide (((Below.refl _ _).alloc (Nat.le_refl _) _ : Below w.heap.size w _).trans (hb.mono (by simp))); clear hb)
    go_ret
    exact ⟨rfl, HB9.out⟩
  · have d1 : decide ((100 : Int) < wrap64 ((p.n : Int) + (p.m : Int))) = false := decide_eq_false hbig
    have HQ0 := hide (show Fq w p lp kp from ⟨hu, hv, hpc, hpd, hpn, hpm⟩)
    go_enter Try.func4, Try.ntmps4
    go_upto_region 3 with (fail)
    generalize hW : World.alloc w _ = v
    have HBV := hide (show Below w.heap.size w v by rw [← hW]; exact (Below.refl _ _).alloc (Nat.le_refl _) _)
    have hc0 : v.cell? ⟨w.heap.size, 0, none⟩ = some (.slice p.A p.n p.c) := by rw [← hW]; clear hW; go_simp
    have hc1 : v.cell? ⟨w.heap.size, 1, none⟩ = some (.slice p.B p.m p.d) := by rw [← hW]; clear hW; go_simp
    have hvz : w.heap.size < v.heap.size := by rw [← hW]; simp
    have HAV := hide (hA.below HBV.out)
    have HL := hide hl
    clear hW hA hl hu hv
    go_region_held3 (fun W => (W.cell? ⟨w.heap.size, 0, none⟩ = some (.slice p.A p.n p.c) ∧ W.cell? ⟨w.heap.size, 1, none⟩ = some (.slice p.B p.m p.d))) (first | exact ⟨hc0, hc1⟩ | with_reducible exact kE | (constructor <;> go_keep)) (first
      | (go_at_call 16; refine (chancem_any _ v.heap.size A n c l 0 (by first | exact tp_new HAV.out HL.out _ | exact tp_drew (tp_new HAV.out HL.out _)) (by omega)).mono ?_; rintro e w1 ⟨f, r, rfl, ho, hch, -, hf⟩; have HB1 := hide (by first | exact fr_new rfl hf | exact fr_newd rfl hf : Below v.heap.size v w1); have HF := hide ho; have HCH := hide hch; have e0 := (HB1.out.cell (p := ⟨w.heap.size, 0, none⟩) (by simp; omega)).trans hc0; have e1 := (HB1.out.cell (p := ⟨w.heap.size, 1, none⟩) (by simp; omega)).trans hc1; have kE := And.intro e0 e1; clear ho hch hf))
    generalize hW : World.alloc w1 _ = v2
    have HFR := hide (show FRow v2 w1.heap.size [(p, lp, kp), (f, lm (rn r), lm r.den)] by rw [← hW]; exact frow_two ((HQ0.out.below HBV.out).below HB1.out) HF.out.1 26)
    have HB2 := hide (show Below w.heap.size w v2 by rw [← hW]; exact (HBV.out.trans (HB1.out.mono HBV.out.size)).alloc (by have h1 := HBV.out.size; have h2 := HB1.out.size; omega) _)
    obtain ⟨b2, hb2⟩ : ∃ b, b = w1.heap.size := ⟨_, rfl⟩
    rw [← hb2] at HFR ⊢
    clear hW hb2 kE e0 e1
    go_wp2_with fail
    go_loopw [41] (fun iv wr => ∃ j : Nat, iv = .int .i64 (j : Int) ∧ j ≤ 2 ∧ Hid (Below v2.heap.size v2 wr)) (fun iv _ => 2 - (intOf iv).toNat)
    case atStart => exact ⟨0, rfl, by omega, hide (Below.refl _ _)⟩
    case round =>
      obtain ⟨j, rfl, hj, HBr⟩ := hrel
      by_cases hj2 : j = 2
      · subst hj2
        go_wp2_with (go_at_call 15; (with_reducible refine (known_any _).mono ?_); rintro e w9 ⟨rfl, hb⟩; have HB9 := hide (HBr.out.trans (hb.mono HBr.out.size)); clear hb)
        go_ret
        exact ⟨rfl, HB2.out.trans (HB9.out.mono HB2.out.size)⟩
      · have hj0 : (0 : Int) ≤ (j : Int) := by omega
        have hjlt : (j : Int) < 2 := by omega
        obtain ⟨⟨q, lq, kq⟩, hx⟩ : ∃ x, [(p, lp, kp), (f, lm (rn r), lm r.den)][j]? = some x := ⟨_, List.getElem?_eq_getElem (by simp; omega)⟩
        obtain ⟨q0, q1, hq⟩ := (HFR.out.below HBr.out).2 j _ hx
        have HQr := hide hq
        clear hx hq
        dsimp only at q0 q1
        go_upto_region 7 with (go_at_call 12; (with_reducible refine (HFD.out _).mono ?_); rintro e w' ⟨rfl, rfl⟩)
        generalize hW : World.alloc (World.alloc wr _) _ = v3
        have HR2 := hide (show Rs v3 none 1 iv (some ⟨wr.heap.size + 1, 0, none⟩) [N, (m : Int)] by rw [← hW]; have := two_new (wr.alloc (.cells #[.slice q.A q.n q.c, .slice q.B q.m q.d] 26)) N m 3; simpa using this)
        have HB3 := hide (show Below v2.heap.size v2 v3 by rw [← hW]; exact (HBr.out.alloc HBr.out.size _).alloc (by have := HBr.out.size; simp; omega) _)
        have HQ3 := hide (show Fq v3 q lq kq by rw [← hW]; exact (HQr.out.alloc _).alloc _)
        have H83 := hide (show Bq v3 wr.heap.size q by rw [← hW]; exact (Bq.mk0 26 q rfl).below ((Below.refl _ _).alloc (Nat.le_refl _) _))
        obtain ⟨b8, hb8⟩ : ∃ b, b = wr.heap.size := ⟨_, rfl⟩
        rw [← hb8] at HR2 H83 ⊢
        clear hW hb8 q0 q1
        go_loopw [50] (fun iv wx => ∃ k : Nat, iv = .int .i64 (k : Int) ∧ k ≤ 2 ∧ Hid (Below v3.heap.size v3 wx)) (fun iv _ => 2 - (intOf iv).toNat)
        case atStart => exact ⟨0, rfl, by omega, hide (Below.refl _ _)⟩
        case round =>
          obtain ⟨k, rfl, hk, HBx⟩ := hrel
          by_cases hk2 : k = 2
          · subst hk2
            go_wp2_with fail
            go_roundw
            case rel => exact ⟨j + 1, by go_num, by omega, hide (HB3.out.trans (HBx.out.mono HB3.out.size))⟩
            case measure => simp [intOf]; omega
          · have hk0 : (0 : Int) ≤ (k : Int) := by omega
            have hklt : (k : Int) < 2 := by omega
            obtain ⟨b, o, hbo, -, hb2, hcell⟩ := ints_at (HR2.out.below HBx.out) (k := k) (by simp; omega)
            obtain ⟨x, hx⟩ : ∃ x, x = [N, (m : Int)][k]'(by simp; omega) := ⟨_, rfl⟩
            rw [← hx] at hcell
            injection hbo with hbo
            injection hbo with h1 h2
            subst h1
            subst h2
            simp only [Nat.zero_add] at hcell
            clear hx
            have HQx := hide (HQ3.out.below HBx.out)
            have H8 := hide (H83.out.below HBx.out)
            obtain ⟨p9, q9, -⟩ := H8.out
            obtain ⟨X1, hX1⟩ : ∃ X, X = totR (fracOf lq kq) x (fun j => decide ((j : Int) = K)) := ⟨_, rfl⟩
            obtain ⟨X2, hX2⟩ : ∃ X, X = totR (fracOf lq kq) x (fun j => decide (K ≤ (j : Int))) := ⟨_, rfl⟩
            obtain ⟨X3, hX3⟩ : ∃ X, X = totR (fracOf lq kq) x (fun j => decide ((j : Int) ≤ K)) := ⟨_, rfl⟩
            have C0 := hide (show ∀ W, Fq W q lq kq → Calls Try.prog 17 #[.agg #[.slice q.A q.n q.c, .slice q.B q.m q.d], .int .i64 x, .int .i64 K] W fun e w' => Ret W X1 e w' from fun W h => by rw [hX1]; exact exactly_any W q lq kq x K h)
            have C1 := hide (show ∀ W, Fq W q lq kq → Calls Try.prog 18 #[.agg #[.slice q.A q.n q.c, .slice q.B q.m q.d], .int .i64 x, .int .i64 K] W fun e w' => Ret W X1 e w' from fun W h => by rw [hX1]; exact rzexactly_any W q lq kq x K h)
            have C2 := hide (show ∀ W, Fq W q lq kq → Calls Try.prog 13 #[.agg #[.slice q.A q.n q.c, .slice q.B q.m q.d], .int .i64 x, .int .i64 K] W fun e w' => Ret W X2 e w' from fun W h => by rw [hX2]; exact atleast_any W q lq kq x K h)
            have C3 := hide (show ∀ W, Fq W q lq kq → Calls Try.prog 19 #[.agg #[.slice q.A q.n q.c, .slice q.B q.m q.d], .int .i64 x, .int .i64 K] W fun e w' => Ret W X2 e w' from fun W h => by rw [hX2, ← totR_ge]; exact rzatleast_any W q lq kq x K h HK.out)
            have C4 := hide (show ∀ W, Fq W q lq kq → Calls Try.prog 20 #[.agg #[.slice q.A q.n q.c, .slice q.B q.m q.d], .int .i64 x, .int .i64 K] W fun e w' => Ret W X3 e w' from fun W h => by rw [hX3]; exact atmost_any W q lq kq x K h)
            have C5 := hide (show ∀ W, Fq W q lq kq → Calls Try.prog 21 #[.agg #[.slice q.A q.n q.c, .slice q.B q.m q.d], .int .i64 x, .int .i64 K] W fun e w' => Ret W X3 e w' from fun W h => by rw [hX3, ← totR_le]; exact rzatmost_any W q lq kq x K h)
            clear hX1 hX2 hX3
            go_upto_region 15 with (first
            | (go_at_call 17; (with_reducible refine (C0.out _ HQx.out).mono ?_); rintro e z1 ⟨c1, rfl, ho, hb⟩; have HO1 := hide ho; have HX1 := hide ((BX.nil wr).below hb); have HQ1 := hide (HQx.out.below hb); have H81 := hide (H8.out.below hb); obtain ⟨p0, q0, -⟩ := H81.out; clear ho hb)
            | (go_at_call 18; (with_reducible refine (C1.out _ (HQ1.out.alloc _)).mono ?_); rintro e z2 ⟨c2, rfl, ho, hb⟩; have HO2 := hide ho; have HX2 := hide ((HX1.out.push HO1.out 26 rfl).below hb); have HQ2 := hide ((HQ1.out.alloc _).below hb); have H82 := hide ((H81.out.below ((Below.refl _ _).alloc (Nat.le_refl _) _)).below hb); obtain ⟨p1, q1, -⟩ := H82.out; clear ho hb)
            | (go_at_call 13; (with_reducible refine (C2.out _ (HQ2.out.alloc _)).mono ?_); rintro e z3 ⟨c3, rfl, ho, hb⟩; have HO3 := hide ho; have HX3 := hide ((HX2.out.push HO2.out 26 rfl).below hb); have HQ3 := hide ((HQ2.out.alloc _).below hb); have H83 := hide ((H82.out.below ((Below.refl _ _).alloc (Nat.le_refl _) _)).below hb); obtain ⟨p2, q2, -⟩ := H83.out; clear ho hb)
            | (go_at_call 19; (with_reducible refine (C3.out _ (HQ3.out.alloc _)).mono ?_); rintro e z4 ⟨c4, rfl, ho, hb⟩; have HO4 := hide ho; have HX4 := hide ((HX3.out.push HO3.out 26 rfl).below hb); have HQ4 := hide ((HQ3.out.alloc _).below hb); have H84 := hide ((H83.out.below ((Below.refl _ _).alloc (Nat.le_refl _) _)).below hb); obtain ⟨p3, q3, -⟩ := H84.out; clear ho hb)
            | (go_at_call 20; (with_reducible refine (C4.out _ (HQ4.out.alloc _)).mono ?_); rintro e z5 ⟨c5, rfl, ho, hb⟩; have HO5 := hide ho; have HX5 := hide ((HX4.out.push HO4.out 26 rfl).below hb); have HQ5 := hide ((HQ4.out.alloc _).below hb); have H85 := hide ((H84.out.below ((Below.refl _ _).alloc (Nat.le_refl _) _)).below hb); obtain ⟨p4, q4, -⟩ := H85.out; clear ho hb)
            | (go_at_call 21; (with_reducible refine (C5.out _ (HQ5.out.alloc _)).mono ?_); rintro e z6 ⟨c6, rfl, ho, hb⟩; have HO6 := hide ho; have HX6 := hide ((HX5.out.push HO5.out 26 rfl).below hb); have HQ6 := hide ((HQ5.out.alloc _).below hb); have H86 := hide ((H85.out.below ((Below.refl _ _).alloc (Nat.le_refl _) _)).below hb); obtain ⟨p5, q5, -⟩ := H86.out; clear ho hb))
            generalize hW : World.alloc z6 _ = z7
            have HX7 := hide (show BX wr z7 _ by rw [← hW]; exact HX6.out.push HO6.out 26 rfl)
            clear hW
            obtain ⟨_, _, _, _, -⟩ := (HX7.out.get 0 rfl).b
            obtain ⟨_, _, _, _, -⟩ := (HX7.out.get 1 rfl).b
            obtain ⟨_, _, _, _, -⟩ := (HX7.out.get 2 rfl).b
            obtain ⟨_, _, _, _, -⟩ := (HX7.out.get 3 rfl).b
            obtain ⟨_, _, _, _, -⟩ := (HX7.out.get 4 rfl).b
            obtain ⟨_, _, _, _, -⟩ := (HX7.out.get 5 rfl).b
            go_wp2_with (first
            | (go_at_call 22; (with_reducible refine (samefrac_eq _ c1 c2 _ (HX7.out.get 5 rfl).o (HX7.out.get 4 rfl).o).mono ?_); rintro e y1 ⟨rfl, hb⟩; have HY1 := hide (HX7.out.below hb); obtain ⟨_, _, _, _, -⟩ := (HY1.out.get 0 rfl).b; obtain ⟨_, _, _, _, -⟩ := (HY1.out.get 1 rfl).b; obtain ⟨_, _, _, _, -⟩ := (HY1.out.get 2 rfl).b; obtain ⟨_, _, _, _, -⟩ := (HY1.out.get 3 rfl).b; clear hb)
            | (go_at_call 22; (with_reducible refine (samefrac_eq _ c3 c4 _ (HY1.out.get 3 rfl).o (HY1.out.get 2 rfl).o).mono ?_); rintro e y2 ⟨rfl, hb⟩; have HY2 := hide (HY1.out.below hb); obtain ⟨_, _, _, _, -⟩ := (HY2.out.get 0 rfl).b; obtain ⟨_, _, _, _, -⟩ := (HY2.out.get 1 rfl).b; clear hb)
            | (go_at_call 22; (with_reducible refine (samefrac_eq _ c5 c6 _ (HY2.out.get 1 rfl).o (HY2.out.get 0 rfl).o).mono ?_); rintro e y3 ⟨rfl, hb⟩; have HY3 := hide (HY2.out.below hb); clear hb))
            go_roundw
            case rel => exact ⟨k + 1, by go_num, by omega, hide (HBx.out.trans (HY3.out.bw.mono HBx.out.size))⟩
            case measure => simp [intOf]; omega
end Go.Proofs.Ytclflfglhbkfkaa
