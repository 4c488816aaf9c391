/- Contracts of the functions that these laws reach: part 31: Contract: rerun.judge; Contracts: rerun.Judge, the rerun laws' example; Rows of attempts of a call's own; contract: the maker of attempts. -/
import Derived.Test.YtnokfhkcfebimaaGreatP30
import Derived.Test.YtnokfhkcfebimaaGreatP20
import Derived.Test.YtnokfhkcfebimaaGreatP23
import Derived.Test.YtnokfhkcfebimaaGreatP29
set_option linter.unusedVariables false
set_option linter.unusedSimpArgs false

/- Contract: rerun.judge. -/
namespace Go.Proofs.YtnokfhkcfebimaaGreat
open Go.RowKit Go.Shelf
attribute [local go_sem] Oper.semAt_some

set_option maxRecDepth 100000 in
set_option maxHeartbeats 4000000 in
theorem vjudge_ok (w : World) (s : Sv) (l h a b : Rat) (M : Nat) (A : Option Addr) (n c : Nat) (xs : List (Bool × Bool)) (hq : SQ w s) (hk : OKs s l h a b M) (hR : Rs w none 2 atv A xs) (hl : xs.length = n) (hn : n ≤ 33) :
    Calls Tryz.prog 52 #[.agg #[.slice s.l.A s.l.n s.l.c, .slice s.l.B s.l.m s.l.d, .slice s.h.A s.h.n s.h.c, .slice s.h.B s.h.m s.h.d, .slice s.a.A s.a.n s.a.c, .slice s.a.B s.a.m s.a.d, .slice s.b.A s.b.n s.b.c, .slice s.b.B s.b.m s.b.d, .int .i64 s.m], .slice A n c] w fun e w' => e = .returned (.tuple #[.int .i64 (jud (aftQ (decQ l h a b) M) xs).1, .int .i64 ((jud (aftQ (decQ l h a b) M) xs).2 : Int)]) ∧ Below w.heap.size w w' := by
  refine (callsIn_wide (n := 5)).1 ?_
  refine callsIn_of_wp_marks Tryz.func52 rfl trivial ?_ rfl
  simp only [Tryz.ntmps52, List.size_toArray, List.length_cons, List.length_nil, Nat.reduceAdd, Nat.reduceSub, Array.replicate_succ, Array.replicate_zero, List.push_toArray, List.append_toArray, List.nil_append, List.cons_append]
  have HQ := hide hq
  have HK := hide hk
  have HR := hide hR
  have HL := hide hl
  obtain ⟨g, hg⟩ : ∃ g, g = aftQ (decQ l h a b) M := ⟨_, rfl⟩
  rw [← hg]
  have HG := hide hg
  clear hq hk hR hl hg
  gi_wp2_with (refine ⟨trivial, ?_⟩; gi_at_call 92; refine (callsIn_wide.2 (vtaken_at _ (w.heap.size + 1 + 1 + 1 + 1 + 1) (by simp) _ _ _ _)).mono ?_; rintro e w1 ⟨rfl, hc0, hc1, hz, hb⟩; have HP := hide (JP.mk0 (s := s) _ _ _ _ _ rfl hc0 hc1 hz hb); clear hc0 hc1 hz hb)
  refine rf_law (gf := 125) (lb := #[.pointer (some ⟨w.heap.size + 1 + 1 + 1 + 1 + 1, 0, none⟩), .pointer (some ⟨w.heap.size + 1 + 1 + 1 + 1 + 1 + 1, 0, none⟩)]) rfl rfl (enters_of Tryz.func125 (by kernel_rfl) rfl) ?_
  intro fn rc hr1 hr2 hy
  refine (vtaken1_any w s A n c w1.heap.size rc xs HR.out HL.out hn (JI g M xs) (fun W => ∃ (v : Int) (u : Nat) (rc' : Loop), jud g xs = (v, u) ∧ rc'.state = .done ∧ rc'.pending = some .ret ∧ JX w v (u : Int) w1.heap.size rc' W) _ (JI.zero _ _ _) (HP.out.start rc) ?hY).mono ?behind
  case behind =>
    rintro e W2 ⟨⟨v, rfl⟩, (⟨f, hj, hw⟩ | ⟨v, u, rc', hju, hs, hp, hx⟩)⟩
    · have HE : (Instr.endLoop (w1.heap.size + 1)).run Tryz.prog W2 = .ok none (W2.putObj (w1.heap.size + 1) (.loop { rc with state := .exhausted })) := by rw [run_endLoop hw.lo (by rw [hr1]; simp), hr2]
      refine ⟨none, _, HE, ?_⟩
      have HX := hide (hw.x.put { rc with state := .exhausted })
      have HJD := hide (show jud g xs = (0, n) by rw [← HL.out]; exact JI.done (by rw [HL.out]; exact hj))
      clear HE
      revert HX
      generalize World.putObj W2 _ _ = W4
      intro HX
      have k0 := HX.out.vd.cell 0 _ rfl
      have k1 := HX.out.us.cell 0 _ rfl
      have k2 := HX.out.vd.sz
      have k3 := HX.out.us.sz
      have k4 := HX.out.vd.fz 0
      have k5 := HX.out.us.fz 0
      clear hw hj hy HP HR HQ
      dsimp only
      gi_wp2
      gi_region
      all_goals gi_wp2
      have HX2 := hide ((HX.out.verdict 0).used (n : Int)).drew
      clear k0 k1 k2 k3 k4 k5 HX
      obtain ⟨q1, q2, q3⟩ := HX2.out.fin (.deferred none)
      refine ⟨by simp, .inl ⟨_, _, rfl, run_takeDeferred HX2.out.df, ?_⟩⟩
      refine ⟨.tuple #[.int .i64 0, .int .i64 (n : Int)], by simp [results, Tryz.results52, go_sem, q2, q3], ?_, q1⟩
      rw [HJD.out]
    · have HE : (Instr.endLoop (w1.heap.size + 1)).run Tryz.prog W2 = .ok (some .ret) (W2.putObj (w1.heap.size + 1) (.loop { rc' with state := .exhausted })) := by rw [run_endLoop hx.lo (by rw [hs]; simp), hp]
      refine ⟨some .ret, _, HE, ?_⟩
      have HX := hide (hx.put { rc' with state := .exhausted })
      have HJD := hide hju
      clear HE
      revert HX
      generalize World.putObj W2 _ _ = W4
      intro HX
      have k0 := HX.out.vd.cell 0 _ rfl
      have k1 := HX.out.us.cell 0 _ rfl
      clear hx hju hy HP HR HQ
      dsimp only
      gi_wp2
      obtain ⟨q1, q2, q3⟩ := HX.out.fin (.deferred none)
      refine ⟨by simp, .inl ⟨_, _, rfl, run_takeDeferred HX.out.df, ?_⟩⟩
      refine ⟨.tuple #[.int .i64 v, .int .i64 (u : Int)], by simp [results, Tryz.results52, go_sem, q2, q3], ?_, q1⟩
      rw [HJD.out]
  case hY =>
    intro k f x W hx hJ hW
    refine ⟨fn, _, _, _, hy W _ hW.lo rfl, roundIn_of_wpIn trivial ?_⟩
    clear hy
    obtain ⟨fl, rd⟩ := x
    obtain ⟨⟨f0, r0⟩, hx0⟩ : ∃ y, xs[0]? = some y := ⟨_, List.getElem?_eq_getElem (by have := (List.getElem?_eq_some_iff.1 hx).1; omega)⟩
    obtain ⟨bb, o, rfl, hb0, e0, e1⟩ := atts_at HR.out hx0
    have HX := hide hx
    have HX0 := hide hx0
    have HJ := hide hJ
    have HW := hide hW
    have E0 := hide e0
    have E1 := hide e1
    clear hx hx0 hJ hW e0 e1
    dsimp only
    gi_wp2
    have HWa := hide (HW.out.below ((Below.refl _ _).alloc (Nat.le_refl _) _ : Below W.heap.size W (W.alloc (.cells #[.bool fl, .bool rd] 80))))
    have hD1 : w1.heap.size + 1 < W.heap.size := (Array.getElem?_eq_some_iff.1 HW.out.lo).1
    refine ⟨_, run_beginRound HWa.out.lo hr1, ?_⟩
    have HV := hide (HWa.out.put { rc with state := .busy })
    have HB := hide (Cb.one (Cb.mk0 (w := W) [.bool fl, .bool rd] (by simp) 80 rfl) (fr_putObj _ (w1.heap.size + 1) (.loop { rc with state := .busy })) (by omega))
    obtain ⟨X, hX⟩ : ∃ X, X = W.heap.size := ⟨_, rfl⟩
    rw [← hX] at HB ⊢
    revert HV HB
    generalize World.putObj (W.alloc _) _ _ = V
    intro HV HB
    clear hX hD1 HWa HW
    obtain ⟨u, hu⟩ : ∃ u : Int, u = (k : Int) + 1 := ⟨_, rfl⟩
    rw [← hu] at HV
    have HU := hide hu
    have hbw := HV.out.bw
    have j0 : V.cell? ⟨bb, o, none⟩ = some (.bool f0) := (hbw.cell (by simpa using hb0)).trans (by simpa using E0.out)
    have j1 : V.cell? ⟨bb, o + 1, none⟩ = some (.bool r0) := (hbw.cell (by simpa using hb0)).trans (by simpa using E1.out)
    have j2 : bb < V.heap.size := Nat.lt_of_lt_of_le hb0 hbw.size
    have x0 := HB.out.cell 0 _ rfl
    have x1 := HB.out.cell 1 _ rfl
    have x2 := HB.out.sz
    have y0 := HV.out.li.cell 0 _ rfl
    have y1 := HV.out.li.sz
    have y2 := HV.out.us.cell 0 _ rfl
    have y3 := HV.out.us.sz
    have y4 := HV.out.us.fz 0
    have y5 := HV.out.vd.cell 0 _ rfl
    have y6 := HV.out.vd.sz
    have y7 := HV.out.vd.fz 0
    have y8 := HV.out.fa.cell 0 _ rfl
    have y9 := HV.out.fa.sz
    have ya := HV.out.fa.fz 0
    have HXV := hide HV.out.x
    clear hbw E0 E1 HB
    have hn0 : (0 : Int) < (n : Int) := by have := HL.out; have := (List.getElem?_eq_some_iff.1 HX0.out).1; omega
    have hkn : k < 33 := by have := HL.out; have := (List.getElem?_eq_some_iff.1 HX.out).1; omega
    by_cases hk : k = 0
    · subst hk
      obtain rfl : u = 1 := by rw [hu]; rfl
      obtain ⟨rfl, rfl⟩ : fl = f0 ∧ rd = r0 := by have := HX.out.symm.trans HX0.out; simpa using this
      have HJF := hide (show f = 0 by
        obtain ⟨m, hm, h | ⟨_, _, h, _⟩⟩ := HJ.out
        · rw [hm, h.2]; rfl
        · omega)
      clear hu hkn HX HP HJ
      cases fl
      · have HE := hide (jud_fine (g := g) HX0.out)
        gi_wp2
        gi_region
        all_goals gi_wp2
        all_goals
          refine JX.post (v := 5) (u := 1) (rc := { rc with state := .busy }) ?_ (fun w' rc' hs hp hx => .inr ⟨rfl, 5, 1, HE.out, rc', hs, hp, hx⟩)
          (repeat' first | with_reducible exact HXV.out | (with_reducible refine JX.drew ?_) | (with_reducible refine JX.alloc ?_ _) | (with_reducible apply JX.used) | (with_reducible apply JX.verdict))
      · have HE := hide (JI.first (g := g) HK.out.m1 HX0.out)
        gi_wp2
        refine JW.post (HV.out.below ((Below.refl _ _).alloc (Nat.le_refl _) _)) hr1 hr2 (fun w' hw => .inl ⟨rfl, 0, HE.out, ?_⟩)
        have h9 := HJF.out
        rw [h9] at hw
        simpa using hw
    · obtain ⟨m, r1, rfl, h01, hm1, hkM, h2r, hA, hB, hC, hE⟩ := JI.next HJ.out hk HX.out
      obtain ⟨rfl, rfl⟩ : f0 = true ∧ r0 = r1 := by have := HX0.out.symm.trans h01; simpa using this
      have g1 : (u == 1) = false := by have : ¬ u = 1 := (by omega)
                                       simp [this]
      have g2 : decide (u = 1) = false := decide_eq_false (by omega)
      have g3 : ¬ u = 1 := by omega
      have HKM := hide hkM
      clear h01 HJ HX0 HX
      by_cases hrd : rd = r0
      · subst hrd
        cases rd
        · have HE := hide (hB rfl rfl)
          clear hA hB hC hE h2r hu hkM hm1 hk hkn
          cases fl
          · have HE2 := hide (show jud g xs = (4, k + 1) from HE.out)
            gi_wp2
            gi_region
            all_goals gi_wp2
            all_goals
              refine JX.post (v := 4) (u := u) (rc := { rc with state := .busy }) ?_ (fun w' rc' hs hp hx => .inr ⟨rfl, 4, k + 1, HE2.out, rc', hs, hp, by rw [HU.out] at hx; simpa using hx⟩)
              (repeat' first | with_reducible exact HXV.out | (with_reducible refine JX.drew ?_) | (with_reducible refine JX.alloc ?_ _) | (with_reducible apply JX.used) | (with_reducible apply JX.verdict))
          · have HE2 := hide (show jud g xs = (1, k + 1) from HE.out)
            gi_wp2
            gi_region
            all_goals gi_wp2
            all_goals
              refine JX.post (v := 1) (u := u) (rc := { rc with state := .busy }) ?_ (fun w' rc' hs hp hx => .inr ⟨rfl, 1, k + 1, HE2.out, rc', hs, hp, by rw [HU.out] at hx; simpa using hx⟩)
              (repeat' first | with_reducible exact HXV.out | (with_reducible refine JX.drew ?_) | (with_reducible refine JX.alloc ?_ _) | (with_reducible apply JX.used) | (with_reducible apply JX.verdict))
        · obtain ⟨p0, p1, p2, p3, p4, p5, p6, p7, p8, p9⟩ := (show FS w V w.heap.size s from ⟨HV.out.bw, HV.out.sp, HQ.out.below HV.out.bw⟩).ca
          cases fl
          · have HC := hide (show ∀ W, SQ W s → Calls Tryz.prog 55 #[.agg #[.slice s.l.A s.l.n s.l.c, .slice s.l.B s.l.m s.l.d, .slice s.h.A s.h.n s.h.c, .slice s.h.B s.h.m s.h.d, .slice s.a.A s.a.n s.a.c, .slice s.a.B s.a.m s.a.d, .slice s.b.A s.b.n s.b.c, .slice s.b.B s.b.m s.b.d, .int .i64 s.m], .int .i64 (u - 1 - ((m : Int))), .int .i64 ((m : Int))] W fun e w' => e = .returned (.int .i64 (g (k - m) (m))) ∧ Below W.heap.size W w' from fun W hW => by
              have := vafter_ok W s l h a b M (k - m) (m) hW HK.out (by omega)
              rw [← HG.out, show (((k - m : Nat)) : Int) = u - 1 - ((m : Int)) by omega, show (((m : Nat)) : Int) = (m : Int) by omega] at this
              exact this)
            have HC2 := hide (show g (k - m) (m) ≠ 0 → jud g xs = (g (k - m) (m), k + 1) from hC rfl rfl)
            have HE2 := hide (show g (k - m) (m) = 0 → JI g M xs (k + 1) ((m : Int)) from fun h0 => hE rfl rfl h0 (by have := aft_go (d := decQ l h a b) (M := M) (p := k - m) (f := m) (by omega) (by rw [← HG.out]; exact h0); omega))
            have hw1 : wrap64 (u - 1) = u - 1 := IntWalk.wrap64_in _ ⟨by omega, by omega⟩
            have hw2 : wrap64 (u - 1 - ((m : Int))) = u - 1 - ((m : Int)) := IntWalk.wrap64_in _ ⟨by omega, by omega⟩
            have hw3 : wrap64 ((m : Int) + 1) = (m : Int) + 1 := IntWalk.wrap64_in _ ⟨by omega, by omega⟩
            clear hA hB hC hE h2r hu hkM hm1 hk hkn
            by_cases hg0 : g (k - m) (m) = 0
            · have HJ2 := hide (HE2.out hg0)
              rw [hg0] at HC
              clear HC2 HE2 hg0
              gi_wp2_with (refine ⟨trivial, ?_⟩; gi_at_call 55; refine (CallsIn.inRound (w1.heap.size + 1) (callsIn_wide.2 (HC.out _ ?hq))).mono ?_; (case hq => exact HQ.out.below (HV.out.below ((Below.refl _ _).alloc (Nat.le_refl _) _)).bw); rintro e w5 ⟨rfl, hb⟩; have H5 := hide ((HV.out.below ((Below.refl _ _).alloc (Nat.le_refl _) _)).below hb); have z2 := H5.out.us.cell 0 _ rfl; have z3 := H5.out.us.sz; have z4 := H5.out.us.fz 0; have z5 := H5.out.vd.cell 0 _ rfl; have z6 := H5.out.vd.sz; have z7 := H5.out.vd.fz 0; clear hb)
              refine JW.post H5.out.again hr1 hr2 (fun w' hw => .inl ⟨rfl, _, HJ2.out, by rw [HU.out] at hw; exact hw⟩)
            · have HJ2 := hide (HC2.out hg0)
              obtain ⟨r, hr⟩ : ∃ r, r = g (k - m) (m) := ⟨_, rfl⟩
              rw [← hr] at HC HJ2 hg0
              have z0 : (r == 0) = false := by simp [hg0]
              have z1 : decide (r = 0) = false := decide_eq_false hg0
              clear HC2 HE2 hr
              gi_wp2_with (refine ⟨trivial, ?_⟩; gi_at_call 55; refine (CallsIn.inRound (w1.heap.size + 1) (callsIn_wide.2 (HC.out _ ?hq))).mono ?_; (case hq => exact HQ.out.below (HV.out.below ((Below.refl _ _).alloc (Nat.le_refl _) _)).bw); rintro e w5 ⟨rfl, hb⟩; have H5 := hide ((HV.out.below ((Below.refl _ _).alloc (Nat.le_refl _) _)).below hb); have z2 := H5.out.us.cell 0 _ rfl; have z3 := H5.out.us.sz; have z4 := H5.out.us.fz 0; have z5 := H5.out.vd.cell 0 _ rfl; have z6 := H5.out.vd.sz; have z7 := H5.out.vd.fz 0; clear hb)
              gi_region
              all_goals gi_wp2
              all_goals
                have HXV := hide H5.out.x
                refine JX.post (v := r) (u := u) (rc := { rc with state := .busy }) ?_ (fun w' rc' hs hp hx => .inr ⟨rfl, r, k + 1, HJ2.out, rc', hs, hp, by rw [HU.out] at hx; simpa using hx⟩)
                (repeat' first | with_reducible exact HXV.out | (with_reducible refine JX.drew ?_) | (with_reducible refine JX.alloc ?_ _) | (with_reducible apply JX.used) | (with_reducible apply JX.verdict))
          · have HC := hide (show ∀ W, SQ W s → Calls Tryz.prog 55 #[.agg #[.slice s.l.A s.l.n s.l.c, .slice s.l.B s.l.m s.l.d, .slice s.h.A s.h.n s.h.c, .slice s.h.B s.h.m s.h.d, .slice s.a.A s.a.n s.a.c, .slice s.a.B s.a.m s.a.d, .slice s.b.A s.b.n s.b.c, .slice s.b.B s.b.m s.b.d, .int .i64 s.m], .int .i64 (u - 1 - ((m : Int) + 1)), .int .i64 ((m : Int) + 1)] W fun e w' => e = .returned (.int .i64 (g (k - 1 - m) (m + 1))) ∧ Below W.heap.size W w' from fun W hW => by
              have := vafter_ok W s l h a b M (k - 1 - m) (m + 1) hW HK.out (by omega)
              rw [← HG.out, show (((k - 1 - m : Nat)) : Int) = u - 1 - ((m : Int) + 1) by omega, show (((m + 1 : Nat)) : Int) = (m : Int) + 1 by omega] at this
              exact this)
            have HC2 := hide (show g (k - 1 - m) (m + 1) ≠ 0 → jud g xs = (g (k - 1 - m) (m + 1), k + 1) from hC rfl rfl)
            have HE2 := hide (show g (k - 1 - m) (m + 1) = 0 → JI g M xs (k + 1) ((m : Int) + 1) from fun h0 => hE rfl rfl h0 (by have := aft_go (d := decQ l h a b) (M := M) (p := k - 1 - m) (f := m + 1) (by omega) (by rw [← HG.out]; exact h0); omega))
            have hw1 : wrap64 (u - 1) = u - 1 := IntWalk.wrap64_in _ ⟨by omega, by omega⟩
            have hw2 : wrap64 (u - 1 - ((m : Int) + 1)) = u - 1 - ((m : Int) + 1) := IntWalk.wrap64_in _ ⟨by omega, by omega⟩
            have hw3 : wrap64 ((m : Int) + 1) = (m : Int) + 1 := IntWalk.wrap64_in _ ⟨by omega, by omega⟩
            clear hA hB hC hE h2r hu hkM hm1 hk hkn
            by_cases hg0 : g (k - 1 - m) (m + 1) = 0
            · have HJ2 := hide (HE2.out hg0)
              rw [hg0] at HC
              clear HC2 HE2 hg0
              gi_wp2_with (refine ⟨trivial, ?_⟩; gi_at_call 55; refine (CallsIn.inRound (w1.heap.size + 1) (callsIn_wide.2 (HC.out _ ?hq))).mono ?_; (case hq => exact HQ.out.below ((HV.out.failed ((m : Int) + 1)).below ((Below.refl _ _).alloc (Nat.le_refl _) _)).bw); rintro e w5 ⟨rfl, hb⟩; have H5 := hide (((HV.out.failed ((m : Int) + 1)).below ((Below.refl _ _).alloc (Nat.le_refl _) _)).below hb); have z2 := H5.out.us.cell 0 _ rfl; have z3 := H5.out.us.sz; have z4 := H5.out.us.fz 0; have z5 := H5.out.vd.cell 0 _ rfl; have z6 := H5.out.vd.sz; have z7 := H5.out.vd.fz 0; clear hb)
              refine JW.post H5.out.again hr1 hr2 (fun w' hw => .inl ⟨rfl, _, HJ2.out, by rw [HU.out] at hw; exact hw⟩)
            · have HJ2 := hide (HC2.out hg0)
              obtain ⟨r, hr⟩ : ∃ r, r = g (k - 1 - m) (m + 1) := ⟨_, rfl⟩
              rw [← hr] at HC HJ2 hg0
              have z0 : (r == 0) = false := by simp [hg0]
              have z1 : decide (r = 0) = false := decide_eq_false hg0
              clear HC2 HE2 hr
              gi_wp2_with (refine ⟨trivial, ?_⟩; gi_at_call 55; refine (CallsIn.inRound (w1.heap.size + 1) (callsIn_wide.2 (HC.out _ ?hq))).mono ?_; (case hq => exact HQ.out.below ((HV.out.failed ((m : Int) + 1)).below ((Below.refl _ _).alloc (Nat.le_refl _) _)).bw); rintro e w5 ⟨rfl, hb⟩; have H5 := hide (((HV.out.failed ((m : Int) + 1)).below ((Below.refl _ _).alloc (Nat.le_refl _) _)).below hb); have z2 := H5.out.us.cell 0 _ rfl; have z3 := H5.out.us.sz; have z4 := H5.out.us.fz 0; have z5 := H5.out.vd.cell 0 _ rfl; have z6 := H5.out.vd.sz; have z7 := H5.out.vd.fz 0; clear hb)
              gi_region
              all_goals gi_wp2
              all_goals
                have HXV := hide H5.out.x
                refine JX.post (v := r) (u := u) (rc := { rc with state := .busy }) ?_ (fun w' rc' hs hp hx => .inr ⟨rfl, r, k + 1, HJ2.out, rc', hs, hp, by rw [HU.out] at hx; simpa using hx⟩)
                (repeat' first | with_reducible exact HXV.out | (with_reducible refine JX.drew ?_) | (with_reducible refine JX.alloc ?_ _) | (with_reducible apply JX.used) | (with_reducible apply JX.verdict))
      · have HE := hide (hA hrd)
        clear hA hB hC hE h2r hu hkM hm1 hk hkn
        have e3 : (rd == r0) = false := by simp [hrd]
        have e4 : (!(rd == r0)) = true := by simp [hrd]
        gi_wp2
        gi_region
        all_goals gi_wp2
        all_goals
          refine JX.post (v := 4) (u := u) (rc := { rc with state := .busy }) ?_ (fun w' rc' hs hp hx => .inr ⟨rfl, 4, k + 1, HE.out, rc', hs, hp, by rw [HU.out] at hx; simpa using hx⟩)
          (repeat' first | with_reducible exact HXV.out | (with_reducible refine JX.drew ?_) | (with_reducible refine JX.alloc ?_ _) | (with_reducible apply JX.used) | (with_reducible apply JX.verdict))
end Go.Proofs.YtnokfhkcfebimaaGreat

/- Contracts: rerun.Judge, the rerun laws' example. -/
namespace Go.Proofs.YtnokfhkcfebimaaGreat
open Go.RowKit

set_option maxRecDepth 100000 in
set_option maxHeartbeats 8000000 in
theorem vjudgex_ok (w : World) (s : Sv) (l h a b : Rat) (M : Nat) (A : Option Addr) (n c : Nat) (xs : List (Bool × Bool)) (hq : SQ w s) (hk : OKs s l h a b M) (hR : Rs w none 2 atv A xs) (hl : xs.length = n) (hn : n ≤ 33) :
    Calls Tryz.prog 20 #[.agg #[.slice s.l.A s.l.n s.l.c, .slice s.l.B s.l.m s.l.d, .slice s.h.A s.h.n s.h.c, .slice s.h.B s.h.m s.h.d, .slice s.a.A s.a.n s.a.c, .slice s.a.B s.a.m s.a.d, .slice s.b.A s.b.n s.b.c, .slice s.b.B s.b.m s.b.d, .int .i64 s.m], .slice A n c] w fun e w' => e = .returned (.tuple #[.int .i64 (jud (aftQ (decQ l h a b) M) xs).1, .int .i64 ((jud (aftQ (decQ l h a b) M) xs).2 : Int), .int .i64 0]) ∧ Below w.heap.size w w' := by
  have HC := hide (show vckE s n = 0 by unfold vckE; rw [if_neg (by rw [hk.ok]; simp), if_neg (by omega)])
  have HK := hide hk
  have HR := hide hR
  have HL := hide hl
  obtain ⟨T, hT⟩ : ∃ T, T = jud (aftQ (decQ l h a b) M) xs := ⟨_, rfl⟩
  rw [← hT]
  have HT := hide hT
  clear hk hR hl hT
  go_enter Tryz.func20, Tryz.ntmps20
  go_upto_region 1 with (fail)
  generalize hW : World.alloc w _ = v
  have HF := hide (show FS w v w.heap.size s by rw [← hW]; exact FS.mk0 hq _)
  obtain ⟨a0, a1, a2, a3, a4, a5, a6, a7, a8, a9⟩ := HF.out.ca
  clear hW hq
  go_wp2_with (first
    | (go_at_call 51; (with_reducible refine (vcheck_any _ s A n c HF.out.q).mono ?_); rintro e w1 ⟨rfl, hb⟩; rw [HC.out]; have HF1 := hide (HF.out.below hb); obtain ⟨b0, b1, b2, b3, b4, b5, b6, b7, b8, b9⟩ := HF1.out.ca; clear hb)
    | (go_at_call 52; (with_reducible refine (vjudge_ok _ s l h a b M A n c xs HF1.out.q HK.out (HR.out.below HF1.out.bw) HL.out hn).mono ?_); rintro e w2 ⟨rfl, hb⟩; rw [← HT.out]; have HF2 := hide (HF1.out.below hb); clear hb))
  refine bodyPost_ret (v := .tuple #[.int .i64 T.1, .int .i64 (T.2 : Int), .int .i64 0]) (by simp [results, Tryz.results20, go_sem, *]) rfl ⟨rfl, HF2.out.bw⟩
set_option maxRecDepth 100000 in
set_option maxHeartbeats 8000000 in
theorem vjudgex_bad (w : World) (s : Sv) (A : Option Addr) (n c : Nat) (hq : SQ w s) (hc : vckE s n ≠ 0) :
    Calls Tryz.prog 20 #[.agg #[.slice s.l.A s.l.n s.l.c, .slice s.l.B s.l.m s.l.d, .slice s.h.A s.h.n s.h.c, .slice s.h.B s.h.m s.h.d, .slice s.a.A s.a.n s.a.c, .slice s.a.B s.a.m s.a.d, .slice s.b.A s.b.n s.b.c, .slice s.b.B s.b.m s.b.d, .int .i64 s.m], .slice A n c] w fun e w' => e = .returned (.tuple #[.int .i64 0, .int .i64 0, .int .i64 (vckE s n)]) ∧ Below w.heap.size w w' := by
  obtain ⟨E, hE⟩ : ∃ E, E = vckE s n := ⟨_, rfl⟩
  rw [← hE] at hc ⊢
  have HE := hide hE
  have g1 : (E == 0) = false := by simp [hc]
  have g2 : decide (E = 0) = false := decide_eq_false hc
  clear hE
  go_enter Tryz.func20, Tryz.ntmps20
  go_upto_region 1 with (fail)
  generalize hW : World.alloc w _ = v
  have HF := hide (show FS w v w.heap.size s by rw [← hW]; exact FS.mk0 hq _)
  obtain ⟨a0, a1, a2, a3, a4, a5, a6, a7, a8, a9⟩ := HF.out.ca
  clear hW hq
  go_wp2_with (go_at_call 51; (with_reducible refine (vcheck_any _ s A n c HF.out.q).mono ?_); rintro e w1 ⟨rfl, hb⟩; rw [← HE.out]; have HF1 := hide (HF.out.below hb); obtain ⟨b0, b1, b2, b3, b4, b5, b6, b7, b8, b9⟩ := HF1.out.ca; clear hb)
  refine bodyPost_ret (v := .tuple #[.int .i64 0, .int .i64 0, .int .i64 E]) (by simp [results, Tryz.results20, go_sem, *]) rfl ⟨rfl, HF1.out.bw⟩
set_option maxRecDepth 100000 in
set_option maxHeartbeats 8000000 in
theorem vexample_any (w : World) : Calls Tryz.prog 50 #[] w fun e w' => ∃ s : Sv, e = .returned (.agg #[.slice s.l.A s.l.n s.l.c, .slice s.l.B s.l.m s.l.d, .slice s.h.A s.h.n s.h.c, .slice s.h.B s.h.m s.h.d, .slice s.a.A s.a.n s.a.c, .slice s.a.B s.a.m s.a.d, .slice s.b.A s.b.n s.b.c, .slice s.b.B s.b.m s.b.d, .int .i64 s.m]) ∧ SQ w' s ∧ OKex s ∧ Below w.heap.size w w' := by
  go_enter Tryz.func50, Tryz.ntmps50
  go_upto_region 1 with (fail)
  generalize hW : World.alloc w _ = v
  have HR := hide (show Cb v w.heap.size z9 by rw [← hW]; exact Cb.mk0 z9 (by simp [z9]) _ rfl)
  have HB := hide (show Below w.heap.size w v by rw [← hW]; exact (Below.refl _ _).alloc (Nat.le_refl _) _)
  clear hW
  go_wp2_with (first
    | (go_at_call 25; (with_reducible refine (sm10 _).mono ?_); rintro e w4 ⟨f4, rfl, ho, hb⟩; have HO4 := hide ho; have HO34 := hide (HO3.out.below hb); have HO24 := hide (HO23.out.below hb); have HO14 := hide (HO13.out.below hb); have HR4 := hide (HR3.out.below hb); have HB4 := hide (HB3.out.trans (hb.mono HB3.out.size)); have t0 := HR4.out.cell 0 _ rfl; have t1 := HR4.out.cell 1 _ rfl; have t2 := HR4.out.cell 2 _ rfl; have t3 := HR4.out.cell 3 _ rfl; have t4 := HR4.out.cell 4 _ rfl; have t5 := HR4.out.cell 5 _ rfl; have t6 := HR4.out.cell 6 _ rfl; have t7 := HR4.out.cell 7 _ rfl; have t8 := HR4.out.cell 8 _ rfl; have tf := HR4.out.fz; have tz := HR4.out.sz; clear ho hb)
    | (go_at_call 25; (with_reducible refine (sm20 _).mono ?_); rintro e w3 ⟨f3, rfl, ho, hb⟩; have HO3 := hide ho; have HO23 := hide (HO2.out.below hb); have HO13 := hide (HO12.out.below hb); have HR3 := hide (HR2.out.below hb); have HB3 := hide (HB2.out.trans (hb.mono HB2.out.size)); clear ho hb)
    | (go_at_call 25; (with_reducible refine (sm2 _).mono ?_); rintro e w2 ⟨f2, rfl, ho, hb⟩; have HO2 := hide ho; have HO12 := hide (HO1.out.below hb); have HR2 := hide (HR1.out.below hb); have HB2 := hide (HB1.out.trans (hb.mono HB1.out.size)); clear ho hb)
    | (go_at_call 25; (with_reducible refine (sm10 _).mono ?_); rintro e w1 ⟨f1, rfl, ho, hb⟩; have HO1 := hide ho; have HR1 := hide (HR.out.below hb); have HB1 := hide (HB.out.trans (hb.mono HB.out.size)); clear ho hb))
  have hq9 := hide (fr9 (w := w4) (g := w.heap.size) (.slice f1.A f1.n f1.c) (.slice f1.B f1.m f1.d) (.slice f2.A f2.n f2.c) (.slice f2.B f2.m f2.d) (.slice f3.A f3.n f3.c) (.slice f3.B f3.m f3.d) (.slice f4.A f4.n f4.c) (.slice f4.B f4.m f4.d) (.int .i64 10))
  generalize hW : World.setCell (World.setCell (World.setCell (World.setCell (World.setCell (World.setCell (World.setCell (World.setCell (World.setCell w4 _ _) _ _) _ _) _ _) _ _) _ _) _ _) _ _) _ _ = v10
  have HR10 := hide (show Cb v10 w.heap.size [.slice f1.A f1.n f1.c, .slice f1.B f1.m f1.d, .slice f2.A f2.n f2.c, .slice f2.B f2.m f2.d, .slice f3.A f3.n f3.c, .slice f3.B f3.m f3.d, .slice f4.A f4.n f4.c, .slice f4.B f4.m f4.d, .int .i64 10] by rw [← hW]; exact (((((((((HR4.out.put 0 (.slice f1.A f1.n f1.c) (by simp [z9]) (by simp)).put 1 (.slice f1.B f1.m f1.d) (by simp [z9]) (by simp)).put 2 (.slice f2.A f2.n f2.c) (by simp [z9]) (by simp)).put 3 (.slice f2.B f2.m f2.d) (by simp [z9]) (by simp)).put 4 (.slice f3.A f3.n f3.c) (by simp [z9]) (by simp)).put 5 (.slice f3.B f3.m f3.d) (by simp [z9]) (by simp)).put 6 (.slice f4.A f4.n f4.c) (by simp [z9]) (by simp)).put 7 (.slice f4.B f4.m f4.d) (by simp [z9]) (by simp)).put 8 (.int .i64 10) (by simp [z9]) (by simp)))
  have HQ9 := hide (show Fr w4 v10 (fun b => b = w.heap.size) by rw [← hW]; exact hq9.out)
  clear hW hq9 t0 t1 t2 t3 t4 t5 t6 t7 t8 tf tz
  have k0 := HR10.out.cell 0 _ rfl; have k1 := HR10.out.cell 1 _ rfl; have k2 := HR10.out.cell 2 _ rfl; have k3 := HR10.out.cell 3 _ rfl; have k4 := HR10.out.cell 4 _ rfl; have k5 := HR10.out.cell 5 _ rfl; have k6 := HR10.out.cell 6 _ rfl; have k7 := HR10.out.cell 7 _ rfl; have k8 := HR10.out.cell 8 _ rfl
  refine bodyPost_ret (v := .agg #[.slice f1.A f1.n f1.c, .slice f1.B f1.m f1.d, .slice f2.A f2.n f2.c, .slice f2.B f2.m f2.d, .slice f3.A f3.n f3.c, .slice f3.B f3.m f3.d, .slice f4.A f4.n f4.c, .slice f4.B f4.m f4.d, .int .i64 10]) (by simp [results, Tryz.results50, go_sem, *]) rfl ⟨⟨f1, f2, f3, f4, 10, lm (rn (mkRat 1 10)), lm (mkRat 1 10).den, lm (rn (mkRat 1 2)), lm (mkRat 1 2).den, lm (rn (mkRat 1 20)), lm (mkRat 1 20).den, lm (rn (mkRat 1 10)), lm (mkRat 1 10).den⟩, rfl, ⟨HO14.out.1.one HQ9.out HR4.out.nb, HO24.out.1.one HQ9.out HR4.out.nb, HO34.out.1.one HQ9.out HR4.out.nb, HO4.out.1.one HQ9.out HR4.out.nb⟩, ⟨fracOf_self (o := some _) HO14.out.2, fracOf_self (o := some _) HO24.out.2, fracOf_self (o := some _) HO34.out.2, fracOf_self (o := some _) HO4.out.2, inn10, inn2, inn20, inn10, by decide +kernel, rfl, by omega, by omega⟩, ((Fr.of_below (fun b => b = w.heap.size) HB4.out).trans HQ9.out).below (Nat.le_refl _) (fun k hk e => by omega)⟩
end Go.Proofs.YtnokfhkcfebimaaGreat

/- Rows of attempts of a call's own; contract: the maker of attempts. -/
namespace Go.Proofs.YtnokfhkcfebimaaGreat
open Go.RowKit

theorem info80 : (Tryz.prog.info? 80).map (fun i => (i.zero, i.size, i.bytes)) = some (some (.agg #[.bool false, .bool false]), 2, 2) := by kernel_rfl
theorem atv_one (x : Bool × Bool) : ∀ u ∈ atv x, u.oneCell' = true := by
  intro u hu
  simp [atv] at hu
  rcases hu with rfl | rfl <;> rfl
/-- A slice of attempts of a call's own; the tape may have moved. -/
structure OA (w0 w : World) (T : Nat) (A : Option Addr) (m c : Nat) (l : List (Bool × Bool)) : Prop where
  own : w.ownsRow w0.heap.size 80 2 (.slice A m c) m (l.flatMap atv)
  len : l.length = m
  fr : Fr w0 w (fun b => b = T)
section
variable {w0 w w' : World} {T : Nat} {A : Option Addr} {m c : Nat} {l : List (Bool × Bool)}
theorem OA.rs (h : OA w0 w T A m c l) : Rs w none 2 atv A l := Rs.of_own h.own atv_len h.len (by simp)
theorem OA.cap (h : OA w0 w T A m c l) : m ≤ c := own_slice_cap h.own (by omega)
theorem OA.nil (hf : Fr w0 w (fun b => b = T)) : OA w0 w T none 0 0 [] := ⟨World.ownsRow_nil _ _ _ _, rfl, hf⟩
theorem OA.lo (h : OA w0 w T A m c l) {g : Nat} (hg : (Value.slice A m c).ownBlock = some g) : w0.heap.size ≤ g ∧ g < w.heap.size := by
  rcases h.own.2 with ⟨h1, _⟩ | ⟨g', cap, cur, hv, hb, hh, _⟩
  · rw [h1] at hg; simp [Value.ownBlock] at hg
  · rw [hv] at hg
    simp [Value.ownBlock] at hg
    subst hg
    exact ⟨hb, (Array.getElem?_eq_some_iff.1 hh).1⟩
theorem OA.below (h : OA w0 w T A m c l) (hb : Below w.heap.size w w') : OA w0 w' T A m c l := ⟨h.own.kept (grown_of_below hb none) (Classical.em _), h.len, h.fr.below_ hb⟩
theorem OA.alloc (h : OA w0 w T A m c l) (o : Obj) : OA w0 (w.alloc o) T A m c l := h.below ((Below.refl _ _).alloc (Nat.le_refl _) _)
theorem OA.tape (h : OA w0 w T A m c l) (hf : Fr w w' (fun b => b = T)) (hT : T < w0.heap.size) : OA w0 w' T A m c l :=
  ⟨h.own.kept (row := some T) ⟨hf.os, hf.tape, hf.output, hf.size, fun k hk hne => hf.block k hk (fun e => hne (by rw [e]))⟩ (by
      cases hob : (Value.slice A m c).ownBlock with
      | none => exact .inl rfl
      | some b => right; intro e; injection e with e; have := (h.lo hob).1; omega),
    h.len, h.fr.trans hf⟩
theorem OA.tp (h : OA w0 w T A m c l) {TA : Option Addr} {tn tc : Nat} {tl : List Int} {a0 a : Nat} (h0 : Tp w0 T TA tn tc tl a0) (hp : Tp w T TA tn tc tl a) (hf : Fr w w' (fun b => (Value.slice A m c).ownBlock = some b)) : Tp w' T TA tn tc tl a := by
  cases hob : (Value.slice A m c).ownBlock with
  | none =>
    refine hp.below ((hf.mono (T := fun _ => False) (fun k hk e => ?_)).below (Nat.le_refl _) (fun _ _ h => h))
    rw [hob] at e; simp at e
  | some b => exact h0.one hp (h.lo hob).1 (hf.mono (fun k hk e => by rw [hob] at e; injection e with e; exact e.symm))
end
theorem wl_app_att {w0 w : World} {ops : Array Oper} {rest : List Oper} {o : Oper} {a : Act} {Q : Exit → Act → World → Prop} (hgd : o.guard = none) (s x : Operand) (t : TypeId) (ht : Tryz.prog.underlying t = some (.slice 80))
    (ho : o.op = .call { callee := .builtin .append, args := #[s, x], argTypes := #[t, t] })
    (T : Nat) (A : Option Addr) (m c : Nat) (l : List (Bool × Bool)) (X Y : Bool) (hs : a.eval s = .slice A m c) (hx : a.eval x = .slice (some ⟨w.heap.size, 0, none⟩) 1 1) (hO : OA w0 w T A m c l) (h63 : m + 1 ≤ 4294967296)
    (h : ∀ A' c' w', OA w0 w' T A' (m + 1) c' (l ++ [(X, Y)]) → Fr (w.alloc (.cells #[.bool X, .bool Y] 80)) w' (fun b => (Value.slice A m c).ownBlock = some b) → wpList Tryz.prog ops Q rest (a.put o.dst (.slice A' (m + 1) c')) w') :
    wpList Tryz.prog ops Q (o :: rest) a (w.alloc (.cells #[.bool X, .bool Y] 80)) := by
  have hO1 : OA w0 (w.alloc (.cells #[.bool X, .bool Y] 80)) T A m c l := hO.alloc _
  refine wl_append _ hgd s x t ho w0.heap.size 80 _ 2 2 ht info80 rfl (by omega) (.slice A m c) m l hs hO1.own _ 1 1 [(X, Y)] hx
    (rs_one (av := none) (by simp) (by simp) (by intro j u hu; match j with | 0 => simp [atv] at hu; subst hu; simp [go_sem] | 1 => simp [atv] at hu; subst hu; simp [go_sem] | j + 2 => simp [atv] at hu)) rfl atv_len atv_one h63 (by omega) hO1.fr.size ?_
  intro A' c' w' hown hgr _
  refine h A' c' w' ⟨hown, by simp [hO.len], hO1.fr.grown hgr ?_⟩ ⟨hgr.os, hgr.tape, hgr.output, hgr.size, fun k hk hS => hgr.block k hk (fun e => hS e.symm)⟩
  intro g hg
  exact .inl (hO1.lo hg).1
/-- What the maker of attempts returns. -/
def MkA (w : World) (T : Nat) (TA : Option Addr) (tn tc : Nat) (tl : List Int) (a most : Nat) (e : Ending) (w' : World) : Prop :=
  ∃ (A : Option Addr) (m c : Nat) (xs : List (Bool × Bool)) (b : Nat), e = .returned (.slice A m c) ∧ OA w w' T A m c xs ∧ m ≤ most ∧ Tp w' T TA tn tc tl b ∧ b ≤ a + 3 + 3 * most
set_option maxRecDepth 100000 in
set_option maxHeartbeats 8000000 in
theorem vattempts_any (w : World) (T : Nat) (TA : Option Addr) (tn tc : Nat) (tl : List Int) (a most : Nat) (hP : Tp w T TA tn tc tl a) (ha : a ≤ 4294960000) (hm : most ≤ 100) :
    Calls Tryz.prog 19 #[.pointer (some ⟨T, 0, none⟩), .int .i64 (most : Int)] w fun e w' => MkA w T TA tn tc tl a most e w' := by
  have hT0 := hP.t.1
  have HP0 := hide hP
  clear hP
  have hw1 : wrap64 ((most : Int) + 1) = (most : Int) + 1 := IntWalk.wrap64_in _ ⟨by omega, by omega⟩
  obtain ⟨c5, hc5⟩ : ∃ x, x = tapeV tl (a + 1) 4 := ⟨_, rfl⟩
  have HC5 := hide hc5
  have hc51 : 0 ≤ c5 ∧ c5 ≤ 4 := by have := tapeV_lo tl (a + 1) 4; omega
  have hw2 : wrap64 (1 + c5) = 1 + c5 := IntWalk.wrap64_in _ ⟨by omega, by omega⟩
  clear hc5
  obtain ⟨N, hN, hN2⟩ := tapeV_nat tl (a + 1 + 1) ((most : Int) + 1)
  have HN := hide hN
  have hNm : N ≤ most := by omega
  clear hN hN2
  obtain ⟨rb, hrb⟩ : ∃ x, x = decide (tapeV tl a 4 < 3) := ⟨_, rfl⟩
  have HRB := hide hrb
  clear hrb
  go_enter Tryz.func19, Tryz.ntmps19
  go_wp2_with (first
    | (go_at_call 41; (with_reducible refine (chancetp_any _ T TA tn tc tl a 3 4 HP0.out (by omega) (by omega)).mono ?_); rintro e w1 ⟨rfl, hp, hf⟩; rw [← HRB.out]; have HP1 := hide hp; have HF1 := hide hf; clear hp hf)
    | (go_at_call 24; (with_reducible refine (nextp_any _ T TA tn tc tl (a + 1) 4 HP1.out (by omega) (by omega)).mono ?_); rintro e w2 ⟨rfl, hp, hf⟩; rw [← HC5.out]; have HP2 := hide hp; have HF2 := hide (HF1.out.trans hf); clear hp hf)
    | (go_at_call 24; (with_reducible refine (nextp_any _ T TA tn tc tl (a + 1 + 1) ((most : Int) + 1) HP2.out (by omega) (by omega)).mono ?_); rintro e w3 ⟨rfl, hp, hf⟩; rw [HN.out]; have HP3 := hide hp; have HF3 := hide (HF2.out.trans hf); clear hp hf))
  go_loopw [5, 8] (fun sv nv wr => ∃ (k r p c : Nat) (A : Option Addr) (xs : List (Bool × Bool)), sv = .slice A k c ∧ nv = .int .i64 (r : Int) ∧ k + r = N ∧ p + 3 * r ≤ a + 3 + 3 * N ∧ Hid (OA w wr T A k c xs) ∧ Hid (Tp wr T TA tn tc tl p)) (fun _ nv _ => (intOf nv).toNat)
  case atStart => exact ⟨0, N, a + 1 + 1 + 1, 0, none, [], rfl, rfl, by omega, by omega, hide (OA.nil HF3.out), HP3⟩
  case round =>
    obtain ⟨k, r, p, c, A, xs, rfl, rfl, hkr, hpr, HO, HP⟩ := hrel
    by_cases hr : r = 0
    · subst hr
      have hle : decide ((0 : Int) < ((0 : Nat) : Int)) = false := rfl
      go_wp2_with fail
      go_ret
      exact ⟨A, k, c, xs, p, rfl, HO.out, by omega, HP.out, by omega⟩
    · obtain ⟨r', rfl⟩ : ∃ r', r = r' + 1 := ⟨r - 1, by omega⟩
      have hgt : decide ((0 : Int) < ((r' + 1 : Nat) : Int)) = true := decide_eq_true (by omega)
      have hgt2 : (0 : Int) < ((r' + 1 : Nat) : Int) := by omega
      have hpb : p ≤ 4294964000 := by omega
      have hk100 : k ≤ 100 := by omega
      by_cases hk : k = 0
      · subst hk
        obtain ⟨b1, hb1⟩ : ∃ x, x = decide (tapeV tl p 8 < 7) := ⟨_, rfl⟩
        have HB1 := hide hb1
        clear hb1
        cases b1
        · go_wp2_with (first
            | (go_at_call 41; (with_reducible refine (chancetp_any _ T TA tn tc tl p 7 8 HP.out (by omega) (by omega)).mono ?_); rintro e w4 ⟨rfl, hp, hf⟩; rw [← HB1.out]; have HP4 := hide hp; have HO4 := hide (HO.out.tape hf hT0); clear hp hf)
            | (go_at_call 41; (with_reducible refine (chancetp_any _ T TA tn tc tl (p + 1) (1 + c5) 5 HP4.out (by omega) (by omega)).mono ?_); rintro e w5 ⟨rfl, hp, hf⟩; have HP5 := hide hp; have HO5 := hide (HO4.out.tape hf hT0); clear hp hf)
            | (go_at_call 41; (with_reducible refine (chancetp_any _ T TA tn tc tl (p + 1 + 1) 1 30 HP5.out (by omega) (by omega)).mono ?_); rintro e w6 ⟨rfl, hp, hf⟩; have HP6 := hide hp; have HO6 := hide (HO5.out.tape hf hT0); clear hp hf)
            | (at_builtin; refine wl_app_att (w0 := w) rfl _ _ _ Tryz.underlying46 rfl T A 0 c xs _ _ rfl rfl HO6.out (by omega) ?_; intro A2 c2 w7 ho2 hf2; have HO7 := hide ho2; have HP7 := hide ((HO6.out.alloc _).tp HP0.out (HP6.out.alloc _) hf2); clear ho2 hf2))
          go_roundw
          case rel => exact ⟨0 + 1, r', p + 1 + 1 + 1, c2, A2, _, rfl, by go_num, by omega, by omega, HO7, HP7⟩
          case measure => simp [intOf] <;> omega
        · go_wp2_with (first
            | (go_at_call 41; (with_reducible refine (chancetp_any _ T TA tn tc tl p 7 8 HP.out (by omega) (by omega)).mono ?_); rintro e w4 ⟨rfl, hp, hf⟩; rw [← HB1.out]; have HP4 := hide hp; have HO4 := hide (HO.out.tape hf hT0); clear hp hf)
            | (go_at_call 41; (with_reducible refine (chancetp_any _ T TA tn tc tl (p + 1) 1 30 HP4.out (by omega) (by omega)).mono ?_); rintro e w6 ⟨rfl, hp, hf⟩; have HP6 := hide hp; have HO6 := hide (HO4.out.tape hf hT0); clear hp hf)
            | (at_builtin; refine wl_app_att (w0 := w) rfl _ _ _ Tryz.underlying46 rfl T A 0 c xs _ _ rfl rfl HO6.out (by omega) ?_; intro A2 c2 w7 ho2 hf2; have HO7 := hide ho2; have HP7 := hide ((HO6.out.alloc _).tp HP0.out (HP6.out.alloc _) hf2); clear ho2 hf2))
          go_roundw
          case rel => exact ⟨0 + 1, r', p + 1 + 1, c2, A2, _, rfl, by go_num, by omega, by omega, HO7, HP7⟩
          case measure => simp [intOf] <;> omega
      · have g1 : decide ((k : Int) = 0) = false := decide_eq_false (by omega)
        have g2 : ((k : Int) == 0) = false := by simp [hk]
        have g3 : ¬ (k : Int) = 0 := by omega
        go_wp2_with (first
          | (go_at_call 41; (with_reducible refine (chancetp_any _ T TA tn tc tl p (1 + c5) 5 HP.out (by omega) (by omega)).mono ?_); rintro e w5 ⟨rfl, hp, hf⟩; have HP5 := hide hp; have HO5 := hide (HO.out.tape hf hT0); clear hp hf)
          | (go_at_call 41; (with_reducible refine (chancetp_any _ T TA tn tc tl (p + 1) 1 30 HP5.out (by omega) (by omega)).mono ?_); rintro e w6 ⟨rfl, hp, hf⟩; have HP6 := hide hp; have HO6 := hide (HO5.out.tape hf hT0); clear hp hf)
          | (at_builtin; refine wl_app_att (w0 := w) rfl _ _ _ Tryz.underlying46 rfl T A k c xs _ _ rfl rfl HO6.out (by omega) ?_; intro A2 c2 w7 ho2 hf2; have HO7 := hide ho2; have HP7 := hide ((HO6.out.alloc _).tp HP0.out (HP6.out.alloc _) hf2); clear ho2 hf2))
        go_roundw
        case rel => exact ⟨k + 1, r', p + 1 + 1, c2, A2, _, rfl, by go_num, by omega, by omega, HO7, HP7⟩
        case measure => simp [intOf] <;> omega
end Go.Proofs.YtnokfhkcfebimaaGreat
