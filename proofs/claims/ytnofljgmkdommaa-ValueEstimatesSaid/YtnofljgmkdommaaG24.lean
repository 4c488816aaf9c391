/- Contracts of the functions that these laws reach: part 24: Contract: the reference's Discounted; Contracts: Estimate, known; Contract: the maker of specifications of the sequential laws; Contract: known of the value laws. -/
import Derived.Test.YtnofljgmkdommaaG23
import Derived.Test.YtnofljgmkdommaaG17
import Derived.Test.YtnofljgmkdommaaG16
import Derived.Test.YtnofljgmkdommaaG15
set_option linter.unusedVariables false
set_option linter.unusedSimpArgs false

/- Contract: the reference's Discounted. -/
namespace Go.Proofs.Ytnofljgmkdommaa
open Go.RowKit

structure RD (w : World) (g6 g7 : Nat) (x y : Fa) (X Y : Rat) (W : World) : Prop where
  bw : Below w.heap.size w W
  r4 : Rb W w.heap.size
  f6 : Bq W g6 x
  f7 : Bq W g7 y
  o6 : Fo W x (some X)
  o7 : Fo W y (some Y)
  od : w.heap.size < g6 ∧ g6 < g7
section
variable {w W W' : World} {g6 g7 : Nat} {x y x' y' : Fa} {X Y X' Y' : Rat}
theorem RD.below (j : RD w g6 g7 x y X Y W) (hb : Below W.heap.size W W') : RD w g6 g7 x y X Y W' :=
  ⟨j.bw.trans (hb.mono j.bw.size), j.r4.below hb, j.f6.below hb, j.f7.below hb, j.o6.below hb, j.o7.below hb, j.od⟩
theorem RD.set6 (j : RD w g6 g7 x y X Y W) (ho : Fo W x' (some X')) : RD w g6 g7 x' y X' Y ((W.setCell ⟨g6, 0, none⟩ (.slice x'.A x'.n x'.c)).setCell ⟨g6, 1, none⟩ (.slice x'.B x'.m x'.d)) := by
  obtain ⟨h1, h2⟩ := j.od
  have hf := fr_fill (w := W) (g := g6) (.slice x'.A x'.n x'.c) (.slice x'.B x'.m x'.d)
  have nb := j.f6.nb
  exact ⟨bw_one j.bw hf (by omega), (j.r4.bq.one hf (by omega)).rb, j.f6.fill x', j.f7.one hf (by omega), ho.one hf nb, j.o7.one hf nb, j.od⟩
theorem RD.set7 (j : RD w g6 g7 x y X Y W) (ho : Fo W y' (some Y')) : RD w g6 g7 x y' X Y' ((W.setCell ⟨g7, 0, none⟩ (.slice y'.A y'.n y'.c)).setCell ⟨g7, 1, none⟩ (.slice y'.B y'.m y'.d)) := by
  obtain ⟨h1, h2⟩ := j.od
  have hf := fr_fill (w := W) (g := g7) (.slice y'.A y'.n y'.c) (.slice y'.B y'.m y'.d)
  have nb := j.f7.nb
  exact ⟨bw_one j.bw hf (by omega), (j.r4.bq.one hf (by omega)).rb, j.f6.one hf (by omega), j.f7.fill y', j.o6.one hf nb, ho.one hf nb, j.od⟩
end
theorem rzof_half (w : World) : Calls Try.prog 33 #[.int .i64 1, .int .i64 2] w fun e w' => Ret1 w (some (mkRat 1 2)) e w' :=
  rzof_any w 1 2 1 2 rfl rfl (by omega) (by omega) (by omega)
theorem rzof_two (w : World) : Calls Try.prog 33 #[.int .i64 2, .int .i64 1] w fun e w' => Ret1 w (some 2) e w' :=
  rzof_any w 2 1 2 1 rfl rfl (by omega) (by omega) (by omega)
theorem r2pow_half (w : World) (a : Fa) (e : Nat) (ha : Fo w a (some (mkRat 1 2))) (he : e ≤ 63) (hf : fitsR ((mkRat 1 2) ^ e) = true) : Calls Try.prog 38 #[.agg #[.slice a.A a.n a.c, .slice a.B a.m a.d], .int .i64 (e : Int)] w fun e' w' => RetV w (hp e) e' w' :=
  r2pow_ok w a (mkRat 1 2) e ha (by omega) hf
set_option maxRecDepth 100000 in
set_option maxHeartbeats 8000000 in
theorem r28disc_big (w : World) (A : Option Addr) (n c : Nat) (half : Int) (hn : 64 < n) :
    Calls Try.prog 17 #[.slice A n c, .int .i64 half] w fun e w' => Ret w (none, 2) e w' := by
  have q0 : decide (64 < (n : Int)) = true := decide_eq_true (by omega)
  have q1 : decide (64 < n) = true := decide_eq_true (by omega)
  go_enter Try.func17, Try.ntmps17
  go_wp2_with fail
  refine bodyPost_ret (v := .tuple #[.agg #[.slice fa0.A fa0.n fa0.c, .slice fa0.B fa0.m fa0.d], .int .i64 2]) (by simp [results, Try.results17, go_sem, *]) rfl ⟨fa0, rfl, Fo.nil _, (Below.refl _ _).alloc (Nat.le_refl _) _⟩
set_option maxRecDepth 100000 in
set_option maxHeartbeats 8000000 in
theorem r28disc_lo (w : World) (A : Option Addr) (n c : Nat) (half : Int) (hn : n ≤ 64) (hh : half < 1) :
    Calls Try.prog 17 #[.slice A n c, .int .i64 half] w fun e w' => Ret w (none, 3) e w' := by
  have q0 : decide (64 < (n : Int)) = false := decide_eq_false (by omega)
  have q1 : decide (64 < n) = false := decide_eq_false (by omega)
  have q2 : decide (half < 1) = true := decide_eq_true hh
  go_enter Try.func17, Try.ntmps17
  go_wp2_with fail
  refine bodyPost_ret (v := .tuple #[.agg #[.slice fa0.A fa0.n fa0.c, .slice fa0.B fa0.m fa0.d], .int .i64 3]) (by simp [results, Try.results17, go_sem, *]) rfl ⟨fa0, rfl, Fo.nil _, (Below.refl _ _).alloc (Nat.le_refl _) _⟩
set_option maxRecDepth 100000 in
set_option maxHeartbeats 8000000 in
theorem r28disc_hi (w : World) (A : Option Addr) (n c : Nat) (half : Int) (hn : n ≤ 64) (hh : 64 < half) :
    Calls Try.prog 17 #[.slice A n c, .int .i64 half] w fun e w' => Ret w (none, 3) e w' := by
  have q0 : decide (64 < (n : Int)) = false := decide_eq_false (by omega)
  have q1 : decide (64 < n) = false := decide_eq_false (by omega)
  have q2 : decide (half < 1) = false := decide_eq_false (by omega)
  have q3 : decide (64 < half) = true := decide_eq_true hh
  go_enter Try.func17, Try.ntmps17
  go_wp2_with fail
  refine bodyPost_ret (v := .tuple #[.agg #[.slice fa0.A fa0.n fa0.c, .slice fa0.B fa0.m fa0.d], .int .i64 3]) (by simp [results, Try.results17, go_sem, *]) rfl ⟨fa0, rfl, Fo.nil _, (Below.refl _ _).alloc (Nat.le_refl _) _⟩
set_option maxRecDepth 100000 in
set_option maxHeartbeats 16000000 in
theorem r28disc_ok (w : World) (A : Option Addr) (n c h : Nat) (bs : List Bool) (hR : Rs w none 1 bv A bs) (hl : bs.length = n) (hn : n ≤ 64) (hh : 1 ≤ h) (hh2 : h ≤ 64) :
    Calls Try.prog 17 #[.slice A n c, .int .i64 (h : Int)] w fun e w' => Ret w (some (disc h bs), 0) e w' := by
  have HR := hide hR
  have HL := hide hl
  have HD := hide (disc_div (h := h) (bs := bs) (by omega))
  rw [hl] at HD
  clear hR hl
  have q0 : decide (64 < (n : Int)) = false := decide_eq_false (by omega)
  have q1 : decide (64 < n) = false := decide_eq_false (by omega)
  have q2 : decide ((h : Int) < 1) = false := decide_eq_false (by omega)
  have q3 : decide (h < 1) = false := decide_eq_false (by omega)
  have q4 : decide (64 < (h : Int)) = false := decide_eq_false (by omega)
  have q5 : decide (64 < h) = false := decide_eq_false (by omega)
  go_enter Try.func17, Try.ntmps17
  go_upto_region 5 with (fail)
  generalize hW : World.alloc w _ = v
  have HRB := hide (show Rb v w.heap.size by rw [← hW]; exact Rb.mk0 _ rfl)
  have HBV := hide (show Below w.heap.size w v by rw [← hW]; exact (Below.refl _ _).alloc (Nat.le_refl _) _)
  clear hW q0 q1 q2 q3 q4 q5
  go_upto_region 6 with (first
    | (go_at_call 33; (with_reducible refine (rzof_one _).mono ?_); rintro e w1 ⟨f1, rfl, ho, hb⟩; have HO1 := hide ho; have HB1 := hide hb; clear ho hb)
    | (go_at_call 33; (with_reducible refine (rzof_two _).mono ?_); rintro e w2 ⟨f2, rfl, ho, hb⟩; have HO2 := hide ho; have HB2 := hide (HB1.out.trans (hb.mono HB1.out.size)); have HO1' := hide (HO1.out.below hb); clear ho hb))
  generalize hW : World.alloc (World.alloc w2 _) _ = v3
  have hz1 := HRB.out.sz
  have hz2 := HB2.out.size
  have HS := hide (show RD w w2.heap.size (w2.heap.size + 1) f1 f2 1 2 v3 by
    rw [← hW]
    have h3 : Below w2.heap.size w2 ((w2.alloc (.cells #[.slice f1.A f1.n f1.c, .slice f1.B f1.m f1.d] 36)).alloc (.cells #[.slice f2.A f2.n f2.c, .slice f2.B f2.m f2.d] 36)) := ((Below.refl _ _).alloc (Nat.le_refl _) _).alloc (by simp) _
    exact ⟨(HBV.out.trans (HB2.out.mono HBV.out.size)).trans (h3.mono (Nat.le_trans HBV.out.size HB2.out.size)), (HRB.out.below HB2.out).below h3, (Bq.mk0 _ f1 rfl).alloc _, Bq.mk0 _ f2 (by simp), HO1'.out.below h3, HO2.out.below h3, by omega, by omega⟩)
  obtain ⟨G, hG⟩ : ∃ G, G = w2.heap.size := ⟨_, rfl⟩
  rw [← hG] at HS ⊢
  clear hW hG hz1 hz2 HO1 HO2 HO1' HB1 HB2 HRB HBV
  go_upto_region 7 with (fail)
  go_loopw [8] (fun kv wr => ∃ (k : Nat) (x y : Fa), kv = .int .i64 (k : Int) ∧ k ≤ n ∧ Hid (RD w G (G + 1) x y (fS h bs k) (wS h k) wr)) (fun kv _ => n - (intOf kv).toNat)
  case atStart => exact ⟨0, f1, f2, rfl, by omega, HS⟩
  case round =>
    obtain ⟨k, x, y, rfl, hkn, HJ⟩ := hrel
    clear HS
    by_cases hk : k = n
    · subst hk
      obtain ⟨x0, x1, xf, xz, -⟩ := HJ.out.f6; obtain ⟨y0, y1, yf, yz, -⟩ := HJ.out.f7
      go_upto_region 14 with (go_at_call 40; (with_reducible refine (r2div_o _ x y _ _ HJ.out.o6 HJ.out.o7).mono ?_); rintro e w5 ⟨q, rfl, ho, hb⟩; rw [HD.out] at ho ⊢; have HO := hide ho; have HJ5 := hide (HJ.out.below hb); clear ho hb)
      generalize hW : World.alloc w5 _ = v6
      have HQ := hide (show Bq v6 w5.heap.size q by rw [← hW]; exact Bq.mk0 _ q rfl)
      have HO6 := hide (show Fo v6 q (some (disc h bs)) by rw [← hW]; exact HO.out.alloc _)
      have HJ6 := hide (show RD w G (G + 1) x y (fS h bs k) (wS h k) v6 by rw [← hW]; exact HJ5.out.below ((Below.refl _ _).alloc (Nat.le_refl _) _))
      clear x0 x1 xf xz y0 y1 yf yz
      obtain ⟨s0, s1, sf, sz, -⟩ := HJ6.out.r4
      obtain ⟨c0, c1, cf, cz, -⟩ := HQ.out
      clear hW
      go_wp2_with fail
      refine bodyPost_ret (v := .tuple #[.agg #[.slice q.A q.n q.c, .slice q.B q.m q.d], .int .i64 0]) (by simp [results, Try.results17, go_sem, *]) rfl ⟨q, rfl, HO6.out.put2 HJ6.out.r4.nb _ _ (by simp), Rb.end0 HJ6.out.bw (Nat.le_refl _) _ _⟩
    · obtain ⟨f, hf⟩ : ∃ f, bs[n - 1 - k]? = some f := ⟨_, List.getElem?_eq_getElem (by have := HL.out; omega)⟩
      have HF := hide (show bs[bs.length - 1 - k]? = some f by rw [HL.out]; exact hf)
      obtain ⟨b, o, rfl, hb0, e0⟩ := bits_cell HR.out hf
      clear hf
      have hlt : decide ((k : Int) < (n : Int)) = true := decide_eq_true (by omega)
      have hlt2 : (k : Int) < (n : Int) := by omega
      have hk0 : (0 : Int) ≤ (k : Int) := by omega
      have hk64 : k < 64 := by omega
      obtain ⟨e, he⟩ : ∃ e, e = k / h := ⟨_, rfl⟩
      have HE := hide he
      have hq1 : (k : Int) / (h : Int) = (e : Int) := by rw [he]; rfl
      have hq2 : ((k : Int)).tdiv (h : Int) = (e : Int) := by rw [he]; rfl
      have he64 : e ≤ 63 := by rw [he]; exact div_63 (by omega)
      have hh0 : ((h : Int) == 0) = false := by simp; omega
      have hh1 : ¬ (h : Int) = 0 := by omega
      have HFT := hide (show fitsR ((mkRat 1 2) ^ e) = true by rw [he]; exact hp_fits (by omega))
      clear he
      go_upto_region 9 with (fail)
      go_cut [9, 10] from 26 to 39 (fun s9 s10 wx => ∃ (g : Nat) (q : Fa), s9 = .pointer (some ⟨g, 0, none⟩) ∧ s10 = .int .i64 0 ∧ wr.heap.size ≤ g ∧ Hid (Bq wx g q) ∧ Hid (Fo wx q (some (hp e))) ∧ Hid (Below wr.heap.size wr wx))
      case first =>
        apply region_seqo 7 9 [33, 34, 35, 36, 37, 32, 38, 39, 9] [fun x w => ∃ c : Fa, x = .agg #[.slice c.A c.n c.c, .slice c.B c.m c.d] ∧ Fo w c (some (mkRat 1 2)), eqV _, eqV _, eqV _, fun x w => ∃ c : Fa, x = .tuple #[.agg #[.slice c.A c.n c.c, .slice c.B c.m c.d], .int .i64 0] ∧ Fo w c (some (hp e)), fun x w => ∃ c : Fa, x = .tuple #[.agg #[.slice c.A c.n c.c, .slice c.B c.m c.d], .int .i64 0] ∧ Fo w c (some (hp e)), fun x w => ∃ c : Fa, x = .agg #[.slice c.A c.n c.c, .slice c.B c.m c.d] ∧ Fo w c (some (hp e)), eqV _, fun x w => ∃ b : Nat, x = .pointer (some ⟨b, 0, none⟩) ∧ wr.heap.size ≤ b ∧ Bq w b fa0] [false, false, false, false, false, false, false, false, false] (by kernel_rfl) (by decide) (by decide) rfl rfl rfl (by decide) (by kernel_rfl) (by kernel_rfl) rfl ?stb14 ?steps14 ?fina14 ?finb14
        case stb14 => repeat' (first | exact trivial | apply stb_eq | (first | exact fun x w w' ⟨c, h1, h2⟩ hb => ⟨c, h1, h2.below hb⟩ | exact fun x w w' ⟨c, h1, h2, h3⟩ hb => ⟨c, h1, h2, h3.below hb⟩) | apply And.intro)
        case steps14 =>
          repeat' (first | exact trivial | apply And.intro)
          all_goals
            intro a' w' hbw hdf hoff hdep K hK
            (have o1 := hoff 1 rfl; have o8 := hoff 8 rfl)
            (have hvz := hbw.size)
            replace hdep := hdep _ rfl
            simp only [List.getElem_toArray, List.getElem_cons_succ, List.getElem_cons_zero, List.toList_toArray, depAll, binds_data, binds_chain, binds_guard, binds_phase, binds_text, binds_gc, cond_true, cond_false, true_and, getR, eqV, List.getD_cons_succ, List.getD_cons_zero, and_true] at hdep
            simp only [Nat.zero_add, Nat.reduceAdd, getR, eqV, List.getD_cons_succ, List.getD_cons_zero] at hK
            clear hoff hdf
            (first | (obtain ⟨⟨c1, e13, HO1⟩, e16, hdep⟩ : (∃ c : Fa, _) ∧ (_ = _) ∧ _ := hdep) | (obtain ⟨⟨c1, e24, HO1⟩, hdep⟩ : (∃ c : Fa, _) ∧ _ := hdep) | (obtain ⟨c1, e24, HO1⟩ : ∃ c : Fa, _ := hdep) | skip)
            first
              | (refine rg_unwanted rfl rfl rfl (b' := false) (by first | (simp [hdep]; done) | assumption) (by decide) ?_; exact hK _ _ rfl (Below.refl _ _) (by simp))
              | (refine rg_unwanted rfl rfl rfl (b' := true) (by first | (simp [hdep]; done) | assumption) (by decide) ?_; exact hK _ _ rfl (Below.refl _ _) (by simp))
              | (refine rg_wanted rfl rfl rfl (b' := true) (by first | (simp [hdep]; done) | assumption) rfl (fun K' hKK => ?_); go_wp2_with (first | (go_at_call 33; (with_reducible refine (rzof_half _).mono ?_); rintro e' w1 ⟨c, rfl, ho, hb⟩) | (go_at_call 38; (with_reducible refine (r2pow_half _ c1 e HO1 he64 HFT.out).mono ?_); rintro e' w1 ⟨c, rfl, ho, hb⟩)); first | exact hK _ _ rfl (Below.refl _ _) (by simp) | (first | exact hK _ _ ⟨c, rfl, ho⟩ hb (by simp) | exact hK _ _ ⟨c1, rfl, HO1⟩ (Below.refl _ _) (by simp) | exact hK _ _ ⟨_, rfl, hvz, Bq.mk0 _ fa0 rfl⟩ ((Below.refl _ _).alloc (Nat.le_refl _) _) (by simp)))
              | (refine rg_wanted rfl rfl rfl (b' := false) (by first | (simp [hdep]; done) | assumption) rfl (fun K' hKK => ?_); go_wp2_with (first | (go_at_call 33; (with_reducible refine (rzof_half _).mono ?_); rintro e' w1 ⟨c, rfl, ho, hb⟩) | (go_at_call 38; (with_reducible refine (r2pow_half _ c1 e HO1 he64 HFT.out).mono ?_); rintro e' w1 ⟨c, rfl, ho, hb⟩)); first | exact hK _ _ rfl (Below.refl _ _) (by simp) | (first | exact hK _ _ ⟨c, rfl, ho⟩ hb (by simp) | exact hK _ _ ⟨c1, rfl, HO1⟩ (Below.refl _ _) (by simp) | exact hK _ _ ⟨_, rfl, hvz, Bq.mk0 _ fa0 rfl⟩ ((Below.refl _ _).alloc (Nat.le_refl _) _) (by simp)))
              | (refine rg_free rfl rfl (fun K' hKK => ?_); fail)
              | (refine rg_free rfl rfl (fun K' hKK => ?_); go_wp2_with (first | (go_at_call 33; (with_reducible refine (rzof_half _).mono ?_); rintro e' w1 ⟨c, rfl, ho, hb⟩) | (go_at_call 38; (with_reducible refine (r2pow_half _ c1 e HO1 he64 HFT.out).mono ?_); rintro e' w1 ⟨c, rfl, ho, hb⟩)); first | exact hK _ _ rfl (Below.refl _ _) (by simp) | (first | exact hK _ _ ⟨c, rfl, ho⟩ hb (by simp) | exact hK _ _ ⟨c1, rfl, HO1⟩ (Below.refl _ _) (by simp) | exact hK _ _ ⟨_, rfl, hvz, Bq.mk0 _ fa0 rfl⟩ ((Below.refl _ _).alloc (Nat.le_refl _) _) (by simp)))
        all_goals
          intro w' hbw
          repeat (first | refine fin_eq ?_ | refine fin_any (fun x hx => ?_))
          rename_i x15 h15 x16 h16
          obtain ⟨c5, rfl, -⟩ := h15
          obtain ⟨q, rfl, ho⟩ := h16
          obtain ⟨g, rfl, hg, hq⟩ := hx
          have HO := hide ho
          have HQ := hide hq
          have HBW := hide hbw
          have hrel := hide (show ∃ (g' : Nat) (c' : Fa), Value.pointer (some ⟨g, 0, none⟩) = .pointer (some ⟨g', 0, none⟩) ∧ wr.heap.size ≤ g' ∧ Hid (Bq ((w'.setCell ⟨g, 0, none⟩ (.slice q.A q.n q.c)).setCell ⟨g, 1, none⟩ (.slice q.B q.m q.d)) g' c') ∧ Hid (Fo ((w'.setCell ⟨g, 0, none⟩ (.slice q.A q.n q.c)).setCell ⟨g, 1, none⟩ (.slice q.B q.m q.d)) c' (some (hp e))) ∧ Hid (Below wr.heap.size wr ((w'.setCell ⟨g, 0, none⟩ (.slice q.A q.n q.c)).setCell ⟨g, 1, none⟩ (.slice q.B q.m q.d))) from
            ⟨g, q, rfl, hg, hide (HQ.out.fill q), hide (HO.out.fill HQ.out q), hide (Rb.end0 HBW.out hg _ _)⟩)
          obtain ⟨c0, c1, cf, cz, -⟩ := HQ.out
          clear ho hq hbw
          refine fin_nil ?_
          simp only [List.setIfInBounds_toArray, List.set_cons_succ, List.set_cons_zero]
        · skip
          refine wpAny_one (i := 9) (by kernel_rfl) ?_
          refine rg_free rfl rfl (fun K' hKK => ?_)
          go_wp2_with fail
          refine wpAny_one (i := 10) (by kernel_rfl) ?_
          refine rg_free rfl rfl (fun K' hKK => ?_)
          go_wp2_with fail
          refine wpAny_done (by kernel_rfl) ?_ _
          go_wp2_with fail
          go_meet
          case rel => obtain ⟨g', c', h1, hg', h2⟩ := hrel.out; exact ⟨g', c', h1, rfl, hg', h2⟩
        · skip
          refine wpAny_two (i := 7) (j := 9) (by kernel_rfl) ?_ ?_
          · skip
            refine rg_free rfl rfl (fun K' hKK => ?_)
            go_wp2_with fail
            refine wpAny_one (i := 9) (by kernel_rfl) ?_
            refine rg_free rfl rfl (fun K' hKK => ?_)
            go_wp2_with fail
            refine wpAny_one (i := 10) (by kernel_rfl) ?_
            refine rg_free rfl rfl (fun K' hKK => ?_)
            go_wp2_with fail
            refine wpAny_done (by kernel_rfl) ?_ _
            go_wp2_with fail
            go_meet
            case rel => obtain ⟨g', c', h1, hg', h2⟩ := hrel.out; exact ⟨g', c', h1, rfl, hg', h2⟩
          · skip
            refine rg_free rfl rfl (fun K' hKK => ?_)
            go_wp2_with fail
            refine wpAny_one (i := 7) (by kernel_rfl) ?_
            refine rg_free rfl rfl (fun K' hKK => ?_)
            go_wp2_with fail
            refine wpAny_one (i := 10) (by kernel_rfl) ?_
            refine rg_free rfl rfl (fun K' hKK => ?_)
            go_wp2_with fail
            refine wpAny_done (by kernel_rfl) ?_ _
            go_wp2_with fail
            go_meet
            case rel => obtain ⟨g', c', h1, hg', h2⟩ := hrel.out; exact ⟨g', c', h1, rfl, hg', h2⟩
      case rest =>
        obtain ⟨g, q, rfl, rfl, hg, HQ, HO, HB⟩ := hcut
        have hgG : G + 1 < g := Nat.lt_of_lt_of_le HJ.out.f7.sz hg
        have HJ2 := hide (HJ.out.below HB.out)
        have HWF := hide (show fitsR (wS h k + hp e) = true by rw [HE.out]; exact wS_fits (h := h) (k := k + 1) (by omega))
        clear HJ HB hg
        obtain ⟨x0, x1, xf, xz, -⟩ := HJ2.out.f6; obtain ⟨y0, y1, yf, yz, -⟩ := HJ2.out.f7
        obtain ⟨c0, c1, cf, cz, -⟩ := HQ.out
        go_upto_region 11 with (go_at_call 39; (with_reducible refine (r2add_ok _ y q _ _ HJ2.out.o7 HO.out HWF.out).mono ?_); rintro e' w5 ⟨c7, rfl, ho, hb⟩; have HO7 := hide ho; have HJ5 := hide (HJ2.out.below hb); have HQ5 := hide (HQ.out.below hb); have HOQ5 := hide (HO.out.below hb); obtain ⟨t0, t1, tf, tz, -⟩ := HJ5.out.f7; clear ho hb)
        clear x0 x1 xf xz y0 y1 yf yz
        clear c0 c1 cf cz t0 t1 tf tz
        generalize hW : World.setCell (World.setCell w5 _ _) _ _ = v6
        have HJ6 := hide (show RD w G (G + 1) x c7 (fS h bs k) (wS h (k + 1)) v6 by
          rw [← hW]
          have h1 := HJ5.out.set7 HO7.out
          rw [HE.out] at h1
          exact h1)
        have HQ6 := hide (show Bq v6 g q by rw [← hW]; exact HQ5.out.one (fr_fill _ _) (by omega))
        have HOQ6 := hide (show Fo v6 q (some (hp e)) by rw [← hW]; exact HOQ5.out.one (fr_fill _ _) HJ5.out.f7.nb)
        have m2 : v6.cell? ⟨b, o + (n - 1 - k), none⟩ = some (.bool f) := (HJ6.out.bw.cell (by simpa using hb0)).trans e0
        have m3 : b < v6.heap.size := Nat.lt_of_lt_of_le hb0 HJ6.out.bw.size
        obtain ⟨i, hi⟩ : ∃ i, i = n - 1 - k := ⟨_, rfl⟩
        rw [← hi] at m2
        have hs1 : (n : Int) - 1 - (k : Int) = (i : Int) := by omega
        have hs4 : (0 : Int) ≤ (i : Int) := by omega
        have hs5 : (i : Int) < (n : Int) := by omega
        have hs7 : i < n := by omega
        clear hi hW e0 HJ2 HJ5 HQ HQ5 HO HOQ5
        cases f
        · have HFS := hide (fS_f (h := h) HF.out)
          go_wp2_with fail
          go_roundw
          case rel => exact ⟨k + 1, x, c7, by go_num, by omega, hide (by rw [← HFS.out]; exact HJ6.out)⟩
          case measure => simp [intOf] <;> omega
        · have HFS := hide (fS_t (h := h) HF.out)
          have HFF := hide (show fitsR (fS h bs k + hp e) = true by rw [HE.out, HFS.out]; exact fS_fits (h := h) (bs := bs) (k := k + 1) (by omega))
          obtain ⟨x0, x1, xf, xz, -⟩ := HJ6.out.f6; obtain ⟨y0, y1, yf, yz, -⟩ := HJ6.out.f7
          obtain ⟨c0, c1, cf, cz, -⟩ := HQ6.out
          go_wp2_with (go_at_call 39; (with_reducible refine (r2add_ok _ x q _ _ HJ6.out.o6 HOQ6.out HFF.out).mono ?_); rintro e' w7 ⟨c6, rfl, ho, hb⟩; have HO6 := hide ho; have HJ7 := hide (HJ6.out.below hb); obtain ⟨t0, t1, tf, tz, -⟩ := HJ7.out.f6; clear ho hb)
          go_roundw
          case rel => exact ⟨k + 1, c6, c7, by go_num, by omega, hide (by
            have h1 := HJ7.out.set6 HO6.out
            rw [HE.out, HFS.out] at h1
            exact h1)⟩
          case measure => simp [intOf] <;> omega
theorem r28disc_any (w : World) (A : Option Addr) (n c : Nat) (half : Int) (bs : List Bool) (hR : Rs w none 1 bv A bs) (hl : bs.length = n) :
    Calls Try.prog 17 #[.slice A n c, .int .i64 half] w fun e w' => Ret w (discR bs half) e w' := by
  by_cases h1 : 64 < n
  · rw [show discR bs half = (none, 2) by unfold discR; rw [if_pos (by omega)]]
    exact r28disc_big w A n c half h1
  · by_cases h2 : half < 1
    · rw [show discR bs half = (none, 3) by unfold discR; rw [if_neg (by omega), if_pos (.inl h2)]]
      exact r28disc_lo w A n c half (by omega) h2
    · by_cases h3 : 64 < half
      · rw [show discR bs half = (none, 3) by unfold discR; rw [if_neg (by omega), if_pos (.inr h3)]]
        exact r28disc_hi w A n c half (by omega) h3
      · obtain ⟨h, rfl⟩ : ∃ h : Nat, half = (h : Int) := ⟨half.toNat, by omega⟩
        rw [discR_in (by omega) (by omega) (by omega)]
        exact r28disc_ok w A n c h bs hR hl (by omega) (by omega) (by omega)
end Go.Proofs.Ytnofljgmkdommaa

/- Contracts: Estimate, known. -/
namespace Go.Proofs.Ytnofljgmkdommaa
open Go.RowKit

set_option maxRecDepth 100000 in
set_option maxHeartbeats 8000000 in
theorem vaest_ok (w : World) (h : Hist) (A : Option Addr) (n c : Nat) (F R : Nat) (hF : h.fail = (F : Int)) (hR : h.runs = (R : Int)) (hF2 : F ≤ 1073741824) (hR2 : R ≤ 1073741824)
    (hCK : ∀ W, Below w.heap.size w W → Calls Try.prog 30 #[.agg #[.string h.pk, .string h.ts, .int .i64 h.env, .int .i64 h.k, .int .i64 h.runs, .int .i64 h.fail, .int .i64 h.last, .slice A n c]] W fun e w' => e = .returned (.bool true) ∧ Below W.heap.size W w') :
    Calls Try.prog 12 #[.agg #[.string h.pk, .string h.ts, .int .i64 h.env, .int .i64 h.k, .int .i64 h.runs, .int .i64 h.fail, .int .i64 h.last, .slice A n c]] w fun e w' => Ret w (some (mkRat ((F + 1 : Nat) : Int) (R + 2)), 0) e w' := by
  have HCK := hide hCK
  have HF := hide hF
  have HR := hide hR
  clear hCK hF hR
  go_enter Try.func12, Try.ntmps12
  go_upto_region 1 with (fail)
  generalize hW : World.alloc (World.alloc w _) _ = v
  have HC := hide (show Cb v w.heap.size (h.cs A n c) by rw [← hW]; exact (Cb.mk0 (h.cs A n c) (h.cs_nb A n c) _ rfl).alloc _)
  have HRB := hide (show Rb v (w.heap.size + 1) by rw [← hW]; exact Rb.mk0 _ (by simp))
  have HB := hide (show Below w.heap.size w v by rw [← hW]; exact ((Below.refl _ _).alloc (Nat.le_refl _) _).alloc (by simp) _)
  clear hW
  obtain ⟨a0, a1, a2, a3, a4, a5, a6, a7⟩ : _ ∧ _ ∧ _ ∧ _ ∧ _ ∧ _ ∧ _ ∧ _ := ⟨HC.out.cell 0 _ rfl, HC.out.cell 1 _ rfl, HC.out.cell 2 _ rfl, HC.out.cell 3 _ rfl, HC.out.cell 4 _ rfl, HC.out.cell 5 _ rfl, HC.out.cell 6 _ rfl, HC.out.cell 7 _ rfl⟩; have az := HC.out.sz
  go_upto_region 3 with (go_at_call 30; (with_reducible refine (HCK.out _ HB.out).mono ?_); rintro e w1 ⟨rfl, hb⟩; have HC1 := hide (HC.out.below hb); have HR1 := hide (HRB.out.below hb); have HB1 := hide (HB.out.trans (hb.mono HB.out.size)); clear a0 a1 a2 a3 a4 a5 a6 a7 az; obtain ⟨a0, a1, a2, a3, a4, a5, a6, a7⟩ : _ ∧ _ ∧ _ ∧ _ ∧ _ ∧ _ ∧ _ ∧ _ := ⟨HC1.out.cell 0 _ rfl, HC1.out.cell 1 _ rfl, HC1.out.cell 2 _ rfl, HC1.out.cell 3 _ rfl, HC1.out.cell 4 _ rfl, HC1.out.cell 5 _ rfl, HC1.out.cell 6 _ rfl, HC1.out.cell 7 _ rfl⟩; have az := HC1.out.sz; clear hb)
  rw [HF.out] at a5
  rw [HR.out] at a4
  go_wp2_with (go_at_call 31; (with_reducible refine (vaof_any _ _ _ (F + 1) (R + 2) (by omega) (by omega) (by omega) (by omega) (by omega)).mono ?_); rintro e w2 ⟨q, rfl, ho, hb⟩; have HO := hide ho; have HR2 := hide (HR1.out.below hb); have HB2 := hide (HB1.out.trans (hb.mono HB1.out.size)); obtain ⟨s0, s1, sf, sz, -⟩ := HR2.out; clear ho hb)
  refine bodyPost_ret (v := .tuple #[.agg #[.slice q.A q.n q.c, .slice q.B q.m q.d], .int .i64 0]) (by simp [results, Try.results12, go_sem, *]) rfl ⟨q, rfl, HO.out.put2 HR2.out.nb _ _ (by simp), Rb.end0 HB2.out (by omega) _ _⟩
/-- The history of the example behind k runs. -/
def HK (k : Nat) : Hist := ⟨⟨#[112]⟩, ⟨#[116]⟩, 0, 2, (k : Int), if 4 ≤ k then 1 else 0, (k : Int)⟩
def bsK (k : Nat) : List Bk := if 4 ≤ k then [⟨4, 4, 1⟩] else []
theorem HK_ok {k : Nat} (hk : k ≤ 8) : HOk (HK k) := by
  refine ⟨by show usableB ⟨#[112]⟩ ⟨#[116]⟩ = true; decide, by show (0 : Int) ≤ 0; omega, by show (0 : Int) ≤ 63; omega, by show (2 : Int) ≤ 2; omega, by show (2 : Int) ≤ 16; omega, ?_, ?_, by show (k : Int) ≤ 1073741824; omega, by show (0 : Int) ≤ (k : Int); omega, by show (k : Int) ≤ 1073741824; omega, rfl⟩
  · show (0 : Int) ≤ if 4 ≤ k then 1 else 0
    split <;> omega
  · show (if 4 ≤ k then (1 : Int) else 0) ≤ (k : Int)
    split <;> omega
theorem hck (w : World) {k : Nat} (hk : k ≤ 8) (A : Option Addr) (n c : Nat) (hR : Rs w none 3 Bk.vals A (bsK k)) (hn : (bsK k).length = n) (W : World) (hb : Below w.heap.size w W) : Calls Try.prog 30 #[.agg #[.string (HK k).pk, .string (HK k).ts, .int .i64 (HK k).env, .int .i64 (HK k).k, .int .i64 (HK k).runs, .int .i64 (HK k).fail, .int .i64 (HK k).last, .slice A n c]] W fun e w' => e = .returned (.bool true) ∧ Below W.heap.size W w' := by
  by_cases h4 : 4 ≤ k
  · have e1 : bsK k = [⟨4, 4, 1⟩] := if_pos h4
    rw [e1] at hR hn
    obtain rfl : n = 1 := hn.symm
    exact hcheck_of W (HK k) A 1 c (HK_ok hk) (fun V hV => hord_1 V (HK k) A c 4 ((hR.below hb).below hV) (by omega) (by show (4 : Int) ≤ (k : Int); omega)) (fun V hV => hsized_1 V (HK k) A c 4 ((hR.below hb).below hV) (by show (if 4 ≤ k then (1 : Int) else 0) = 1; rw [if_pos h4]) (by show (2 : Int) ≤ 2; omega))
  · have e1 : bsK k = [] := if_neg h4
    rw [e1] at hR hn
    obtain rfl : n = 0 := hn.symm
    exact hcheck_of W (HK k) A 0 c (HK_ok hk) (fun V _ => hord_0 V (HK k) A c) (fun V _ => hsized_0 V (HK k) A c (by show (if 4 ≤ k then (1 : Int) else 0) = 0; rw [if_neg h4]))
/-- What an Add of the example leaves. -/
theorem haddK (w : World) {k : Nat} (hk : k ≤ 7) (A : Option Addr) (n c : Nat) (hR : Rs w none 3 Bk.vals A (bsK k)) (hn : (bsK k).length = n) (b : Bool) (hb : b = decide (k = 3)) :
    Calls Try.prog 29 #[.agg #[.string (HK k).pk, .string (HK k).ts, .int .i64 (HK k).env, .int .i64 (HK k).k, .int .i64 (HK k).runs, .int .i64 (HK k).fail, .int .i64 (HK k).last, .slice A n c], .int .i64 ((k + 1 : Nat) : Int), .bool b] w fun e w' => ∃ A' n' c', e = .returned (.tuple #[.agg #[.string (HK (k + 1)).pk, .string (HK (k + 1)).ts, .int .i64 (HK (k + 1)).env, .int .i64 (HK (k + 1)).k, .int .i64 (HK (k + 1)).runs, .int .i64 (HK (k + 1)).fail, .int .i64 (HK (k + 1)).last, .slice A' n' c'], .int .i64 0]) ∧ Rs w' none 3 Bk.vals A' (bsK (k + 1)) ∧ (bsK (k + 1)).length = n' ∧ (∀ b o, A' = some ⟨b, o, none⟩ → w.heap.size < b) ∧ Below w.heap.size w w' := by
  subst hb
  by_cases h3 : k = 3
  · subst h3
    have e1 : bsK 3 = [] := rfl
    rw [e1] at hn
    obtain rfl : n = 0 := hn.symm
    refine (hadd_yes w (HK 3) A c 4 (by omega) (by omega) (by decide) (by decide) (by decide) (by decide) (by decide) (by decide) (by decide) (fun W hW => hck w (by omega) A 0 c hR rfl W hW)).mono ?_
    rintro e w' ⟨A', c', rfl, hr, ha, hb⟩
    exact ⟨A', 1, c', rfl, hr, rfl, ha, hb⟩
  · have e : bsK (k + 1) = bsK k := by
      unfold bsK
      by_cases h4 : 4 ≤ k
      · rw [if_pos h4, if_pos (by omega)]
      · rw [if_neg h4, if_neg (by omega)]
    have ef : (HK (k + 1)).fail = (HK k).fail := by
      show (if 4 ≤ k + 1 then (1 : Int) else 0) = if 4 ≤ k then 1 else 0
      by_cases h4 : 4 ≤ k
      · rw [if_pos h4, if_pos (by omega)]
      · rw [if_neg h4, if_neg (by omega)]
    rw [show decide (k = 3) = false from decide_eq_false h3]
    refine (hadd_no w (HK k) A n c ((k + 1 : Nat) : Int) (bsK k) hR hn (by rw [← hn]; unfold bsK; split <;> simp) (by omega) (by omega) (by show (k : Int) ≤ _; omega) (by show (0 : Int) ≤ (k : Int); omega) (by show (k : Int) < _; omega) (fun W hW => hck w (by omega) A n c hR hn W hW)).mono ?_
    rintro e' w' ⟨A', c', rfl, hr, ha, hb⟩
    refine ⟨A', n, c', ?_, by rw [e]; exact hr, by rw [e]; exact hn, ha, hb⟩
    rw [ef]
    rfl
end Go.Proofs.Ytnofljgmkdommaa

/- Contract: the maker of specifications of the sequential laws. -/
namespace Go.Proofs.Ytnofljgmkdommaa
open Go.RowKit

theorem fr4 {w : World} {g : Nat} (i j k m : Nat) (a b c d : Value) : Fr w ((((w.setCell ⟨g, i, none⟩ a).setCell ⟨g, j, none⟩ b).setCell ⟨g, k, none⟩ c).setCell ⟨g, m, none⟩ d) (fun x => x = g) := by
  refine Fr.setCell (Fr.setCell (Fr.setCell (Fr.setCell (Fr.refl _ _) ?_ _) ?_ _) ?_ _) ?_ _ <;> exact Or.inr (by rfl)
theorem fr9 {w : World} {g : Nat} (x0 x1 x2 x3 x4 x5 x6 x7 x8 : Value) : Fr w (((((((((w.setCell ⟨g, 0, none⟩ x0).setCell ⟨g, 1, none⟩ x1).setCell ⟨g, 2, none⟩ x2).setCell ⟨g, 3, none⟩ x3).setCell ⟨g, 4, none⟩ x4).setCell ⟨g, 5, none⟩ x5).setCell ⟨g, 6, none⟩ x6).setCell ⟨g, 7, none⟩ x7).setCell ⟨g, 8, none⟩ x8) (fun x => x = g) := by
  refine Fr.setCell (Fr.setCell (Fr.setCell (Fr.setCell (Fr.setCell (Fr.setCell (Fr.setCell (Fr.setCell (Fr.setCell (Fr.refl _ _) ?_ _) ?_ _) ?_ _) ?_ _) ?_ _) ?_ _) ?_ _) ?_ _) ?_ _ <;> exact Or.inr (by rfl)
theorem fr1 {w : World} {g : Nat} (i : Nat) (a : Value) : Fr w (w.setCell ⟨g, i, none⟩ a) (fun x => x = g) := by
  refine Fr.setCell (Fr.refl _ _) ?_ _; exact Or.inr (by rfl)
/-- What the maker returns. -/
def MkS (w : World) (T : Nat) (A : Option Addr) (n c : Nat) (l : List Int) (a most : Nat) (e : Ending) (w' : World) : Prop :=
  ∃ (s : Sv) (lo hi al be : Rat) (M b : Nat), e = .returned (.agg #[.slice s.l.A s.l.n s.l.c, .slice s.l.B s.l.m s.l.d, .slice s.h.A s.h.n s.h.c, .slice s.h.B s.h.m s.h.d, .slice s.a.A s.a.n s.a.c, .slice s.a.B s.a.m s.a.d, .slice s.b.A s.b.n s.b.c, .slice s.b.B s.b.m s.b.d, .int .i64 s.m]) ∧ SQ w' s ∧ OKs s lo hi al be M ∧ M ≤ most ∧ Tp w' T A n c l b ∧ b ≤ a + 12 ∧ Fr w w' (fun b => b = T)
theorem lt_tr {a b c : Rat} (h : a < b) (k : b < c) : a < c := Rat.not_le.1 (fun h2 => Rat.not_lt.2 (Rat.le_trans h2 (Rat.le_of_lt h)) k)
theorem small1_any (w : World) (d : Nat) (h : 1 ≤ d) (h2 : d ≤ 1000) : Calls Try.prog 18 #[.int .i64 1, .int .i64 (d : Int)] w fun e w' => Ret1 w (some (mkRat ((1 : Nat) : Int) d)) e w' := small_any w 1 d (by omega) (by omega) (by omega)
def sv0 : Sv := ⟨fa0, fa0, fa0, fa0, 0, [], [], [], [], [], [], [], []⟩
theorem fq0 (w : World) : Fq w fa0 [] [] := ⟨Ul.nil, Ul.nil, Nat.le_refl _, Nat.le_refl _, by simp, by simp⟩
theorem inn_of {r : Rat} (hc : Chn r) (h : 0 < r ∧ r < 1) : Inn r := ⟨hc, h.1, h.2⟩
theorem inn_mk {d : Nat} (h2 : 2 ≤ d) (h3 : d ≤ 1000) : Inn (mkRat ((1 : Nat) : Int) d) := ⟨mk_chn (by omega) (by omega) h3, mk_pos (by omega) (by omega), mk_lt1 (by omega) (by omega)⟩
end Go.Proofs.Ytnofljgmkdommaa

/- Contract: known of the value laws. -/
namespace Go.Proofs.Ytnofljgmkdommaa
open Go.RowKit

theorem rs_tff (w : World) (t : TypeId) : Rs (w.alloc (.cells #[.bool true, .bool false, .bool false] t)) none 1 bv (some ⟨w.heap.size, 0, none⟩) [true, false, false] := by
  refine fun _ => ⟨w.heap.size, 0, rfl, by simp, by simp, fun k a hk j u hu => ?_⟩
  match j with
  | 0 =>
    simp [bv] at hu
    subst hu
    rw [World.cell?_alloc_new]
    match k with
    | 0 => simp at hk; subst hk; rfl
    | 1 => simp at hk; subst hk; rfl
    | 2 => simp at hk; subst hk; rfl
    | k + 3 => simp at hk
  | j + 1 => simp [bv] at hu
theorem est_ex : (mkRat ((1 + 1 : Nat) : Int) (8 + 2)) = mkRat ((1 : Nat) : Int) 5 := by decide +kernel
theorem disc_ex : discR [true, false, false] 1 = (some (mkRat ((1 : Nat) : Int) 3), 0) := by
  unfold discR
  rw [if_neg (by simp), if_neg (by omega)]
  have : disc (1 : Int).toNat [true, false, false] = mkRat ((1 : Nat) : Int) 3 := by decide +kernel
  rw [this]
theorem small_1 (w : World) (d : Nat) (h : 1 ≤ d) (h2 : d ≤ 1000) : Calls Try.prog 18 #[.int .i64 1, .int .i64 (d : Int)] w fun e w' => Ret1 w (some (mkRat ((1 : Nat) : Int) d)) e w' := small_any w 1 d (by omega) (by omega) (by omega)
theorem small_15 (w : World) : Calls Try.prog 18 #[.int .i64 1, .int .i64 5] w fun e w' => Ret1 w (some (mkRat ((1 : Nat) : Int) 5)) e w' := small_1 w 5 (by omega) (by omega)
theorem small_13 (w : World) : Calls Try.prog 18 #[.int .i64 1, .int .i64 3] w fun e w' => Ret1 w (some (mkRat ((1 : Nat) : Int) 3)) e w' := small_1 w 3 (by omega) (by omega)
set_option maxRecDepth 100000 in
set_option maxHeartbeats 16000000 in
theorem vknown28_any (w : World) : Calls Try.prog 10 #[] w fun e w' => e = .returned (.bool true) ∧ Below w.heap.size w w' := by
  go_enter Try.func10, Try.ntmps10
  go_upto_region 2 with (go_at_call 28; (with_reducible refine (hnew_ok ⟨#[112]⟩ ⟨#[116]⟩ 0 _ (by decide) (by decide)).mono ?_); rintro e w1 ⟨rfl, hb⟩; have HB1 := hide hb; clear hb)
  generalize hW : World.alloc w1 _ = v
  have HC := hide (show Cb v w1.heap.size ((HK 0).cs none 0 0) by rw [← hW]; exact Cb.mk0 ((HK 0).cs none 0 0) ((HK 0).cs_nb none 0 0) _ rfl)
  have HB := hide (show Below w.heap.size w v by rw [← hW]; exact HB1.out.trans (((Below.refl _ _).alloc (Nat.le_refl _) _ : Below w1.heap.size w1 _).mono HB1.out.size))
  obtain ⟨G, hG⟩ : ∃ G, G = w1.heap.size := ⟨_, rfl⟩
  have hGw : w.heap.size ≤ G := by rw [hG]; exact HB1.out.size
  rw [← hG] at HC ⊢
  clear hW hG HB1
  go_upto_region 3 with (fail)
  go_loopw [3] (fun iv' wr => ∃ (i n c : Nat) (A : Option Addr), iv' = .int .i64 (i : Int) ∧ 1 ≤ i ∧ i ≤ 9 ∧ Hid (Cb wr G ((HK (i - 1)).cs A n c)) ∧ Hid (Rs wr none 3 Bk.vals A (bsK (i - 1))) ∧ Hid ((bsK (i - 1)).length = n) ∧ Hid (∀ b o, A = some ⟨b, o, none⟩ → G < b) ∧ Hid (Below w.heap.size w wr)) (fun iv' _ => 10 - (intOf iv').toNat)
  case atStart => exact ⟨1, 0, 0, none, rfl, by omega, by omega, HC, hide Rs.nil, hide rfl, hide (fun b o h => by cases h), HB⟩
  case round =>
    obtain ⟨i, n, c, A, rfl, hi1, hi9, HCr, HRr, HNr, HAr, HBr⟩ := hrel
    clear HC HB
    by_cases hi : i = 9
    · subst hi
      obtain ⟨a0, a1, a2, a3, a4, a5, a6, a7⟩ : _ ∧ _ ∧ _ ∧ _ ∧ _ ∧ _ ∧ _ ∧ _ := ⟨HCr.out.cell 0 _ rfl, HCr.out.cell 1 _ rfl, HCr.out.cell 2 _ rfl, HCr.out.cell 3 _ rfl, HCr.out.cell 4 _ rfl, HCr.out.cell 5 _ rfl, HCr.out.cell 6 _ rfl, HCr.out.cell 7 _ rfl⟩; have az := HCr.out.sz
      have HAE := hide (vaest_ok wr (HK (9 - 1)) A n c 1 8 rfl rfl (by omega) (by omega) (hck wr (by omega) A n c HRr.out HNr.out))
      rw [est_ex] at HAE
      go_upto_region 7 with (go_at_call 12; (with_reducible refine HAE.out.mono ?_); rintro e w2 ⟨q, rfl, ho, hb⟩; dsimp only at ho ⊢; have HO := hide ho; have HB2 := hide (HBr.out.trans (hb.mono HBr.out.size)); clear ho hb)
      generalize hW : World.alloc w2 _ = v3
      have HQ3 := hide (show Bq v3 w2.heap.size q by rw [← hW]; exact Bq.mk0 _ q rfl)
      have HO3 := hide (show Fo v3 q (some (mkRat ((1 : Nat) : Int) 5)) by rw [← hW]; exact HO.out.alloc _)
      have HB3 := hide (show Below w.heap.size w v3 by rw [← hW]; exact HB2.out.alloc HB2.out.size _)
      obtain ⟨g4, hg4⟩ : ∃ x, x = w2.heap.size := ⟨_, rfl⟩
      rw [← hg4] at HQ3 ⊢
      clear a0 a1 a2 a3 a4 a5 a6 a7 az
      clear hW hg4 HAE HO HB2 HCr HRr HNr HAr HBr
      go_upto_region 8 with (go_at_call 16; (with_reducible refine (vadisc_any _ _ 3 3 1 [true, false, false] (rs_tff v3 _) rfl).mono ?_); rintro e w4 ⟨q2, rfl, ho, hb⟩; rw [disc_ex] at ho ⊢; dsimp only at ho ⊢; have HO4 := hide ho; have hb' : Below v3.heap.size v3 w4 := Below.trans ((Below.refl _ _).alloc (Nat.le_refl _) _ : Below v3.heap.size v3 _) (hb.mono (by simp)); have HQ4 := hide (HQ3.out.below hb'); have HO3' := hide (HO3.out.below hb'); have HB4 := hide (HB3.out.trans (hb'.mono HB3.out.size)); clear ho hb hb')
      generalize hW : World.alloc w4 _ = v5
      have HQ6 := hide (show Bq v5 w4.heap.size q2 by rw [← hW]; exact Bq.mk0 _ q2 rfl)
      have HQ5 := hide (show Bq v5 g4 q by rw [← hW]; exact HQ4.out.alloc _)
      have HO5 := hide (show Fo v5 q (some (mkRat ((1 : Nat) : Int) 5)) by rw [← hW]; exact HO3'.out.alloc _)
      have HO6 := hide (show Fo v5 q2 (some (mkRat ((1 : Nat) : Int) 3)) by rw [← hW]; exact HO4.out.alloc _)
      have HB5 := hide (show Below w.heap.size w v5 by rw [← hW]; exact HB4.out.alloc HB4.out.size _)
      obtain ⟨g6, hg6⟩ : ∃ x, x = w4.heap.size := ⟨_, rfl⟩
      rw [← hg6] at HQ6 ⊢
      clear hW hg6 HO4 HQ4 HO3' HB4 HQ3 HO3 HB3
      apply region_seq 17 [35, 36, 37, 38, 39, 40, 41, 42, 43, 44, 45, 46, 47, 48, 49, 50, 0] [eqV _, eqV _, eqV _, eqV _, eqV _, eqV _, eqV _, eqV _, fun x w => ∃ c : Fa, x = .agg #[.slice c.A c.n c.c, .slice c.B c.m c.d] ∧ Fo w c (some (mkRat ((1 : Nat) : Int) 5)), eqV _, eqV _, eqV _, eqV _, fun x w => ∃ c : Fa, x = .agg #[.slice c.A c.n c.c, .slice c.B c.m c.d] ∧ Fo w c (some (mkRat ((1 : Nat) : Int) 3)), eqV _, eqV _, eqV _] [false, false, false, false, false, false, false, false, false, false, false, false, false, false, false, false, false] (by kernel_rfl) (by decide) rfl rfl rfl (by decide) (by kernel_rfl) (by kernel_rfl) ?stb2 ?steps2 ?fin2
      case stb2 => repeat' (first | exact trivial | apply stb_eq | (exact fun x w w' ⟨c, h1, h2⟩ hb => ⟨c, h1, h2.below hb⟩) | apply And.intro)
      case steps2 =>
        repeat' (first | exact trivial | apply And.intro)
        all_goals
          intro a' w' hbw hdf hoff hdep K hK
          (have o4 := hoff 4 rfl; have o5 := hoff 5 rfl; have o6 := hoff 6 rfl; have o7 := hoff 7 rfl)
          (have HG5 := hide (HQ5.out.below hbw); have HG6 := hide (HQ6.out.below hbw); obtain ⟨y0, y1, -, yz, -⟩ := HG5.out; obtain ⟨z0, z1, -, zz, -⟩ := HG6.out)
          replace hdep := hdep _ rfl
          simp only [List.getElem_toArray, List.getElem_cons_succ, List.getElem_cons_zero, List.toList_toArray, depAll, binds_data, binds_chain, binds_guard, binds_phase, binds_text, binds_gc, cond_true, cond_false, true_and, getR, eqV, List.getD_cons_succ, List.getD_cons_zero, and_true] at hdep
          simp only [Nat.zero_add, Nat.reduceAdd, getR, eqV, List.getD_cons_succ, List.getD_cons_zero] at hK
          clear hoff hdf
          (try (obtain ⟨h12, ⟨c1, h13, HO1⟩, -, hg⟩ := hdep))
          first
            | (refine rg_unwanted rfl rfl rfl (b' := false) (by first | (simp [hdep]; done) | assumption) (by decide) ?_; exact hK _ _ rfl (Below.refl _ _) (by simp))
            | (refine rg_unwanted rfl rfl rfl (b' := true) (by first | (simp [hdep]; done) | assumption) (by decide) ?_; exact hK _ _ rfl (Below.refl _ _) (by simp))
            | (refine rg_wanted rfl rfl rfl (b' := true) (by first | (simp [hdep]; done) | assumption) rfl (fun K' hKK => ?_); go_wp2_with (first | (go_at_call 18; (with_reducible refine (small_15 _).mono ?_); rintro e w1 ⟨c1, rfl, ho, hb⟩) | (go_at_call 18; (with_reducible refine (small_13 _).mono ?_); rintro e w1 ⟨c1, rfl, ho, hb⟩) | (go_at_call 14; (with_reducible refine (samefrac_eq _ q c1 _ (HO5.out.below hbw) HO1).mono ?_); rintro e w1 ⟨rfl, hb⟩) | (go_at_call 14; (with_reducible refine (samefrac_eq _ q2 c1 _ (HO6.out.below hbw) HO1).mono ?_); rintro e w1 ⟨rfl, hb⟩)); first | exact hK _ _ rfl (Below.refl _ _) (by simp) | (first | exact hK _ _ rfl hb (by simp) | exact hK _ _ ⟨c1, rfl, ho⟩ hb (by simp)))
            | (refine rg_wanted rfl rfl rfl (b' := false) (by first | (simp [hdep]; done) | assumption) rfl (fun K' hKK => ?_); go_wp2_with (first | (go_at_call 18; (with_reducible refine (small_15 _).mono ?_); rintro e w1 ⟨c1, rfl, ho, hb⟩) | (go_at_call 18; (with_reducible refine (small_13 _).mono ?_); rintro e w1 ⟨c1, rfl, ho, hb⟩) | (go_at_call 14; (with_reducible refine (samefrac_eq _ q c1 _ (HO5.out.below hbw) HO1).mono ?_); rintro e w1 ⟨rfl, hb⟩) | (go_at_call 14; (with_reducible refine (samefrac_eq _ q2 c1 _ (HO6.out.below hbw) HO1).mono ?_); rintro e w1 ⟨rfl, hb⟩)); first | exact hK _ _ rfl (Below.refl _ _) (by simp) | (first | exact hK _ _ rfl hb (by simp) | exact hK _ _ ⟨c1, rfl, ho⟩ hb (by simp)))
            | (refine rg_free rfl rfl (fun K' hKK => ?_); fail)
            | (refine rg_free rfl rfl (fun K' hKK => ?_); go_wp2_with (first | (go_at_call 18; (with_reducible refine (small_15 _).mono ?_); rintro e w1 ⟨c1, rfl, ho, hb⟩) | (go_at_call 18; (with_reducible refine (small_13 _).mono ?_); rintro e w1 ⟨c1, rfl, ho, hb⟩) | (go_at_call 14; (with_reducible refine (samefrac_eq _ q c1 _ (HO5.out.below hbw) HO1).mono ?_); rintro e w1 ⟨rfl, hb⟩) | (go_at_call 14; (with_reducible refine (samefrac_eq _ q2 c1 _ (HO6.out.below hbw) HO1).mono ?_); rintro e w1 ⟨rfl, hb⟩)); first | exact hK _ _ rfl (Below.refl _ _) (by simp) | (first | exact hK _ _ rfl hb (by simp) | exact hK _ _ ⟨c1, rfl, ho⟩ hb (by simp)))
      intro w' hbw
      repeat (first | refine fin_eq ?_ | refine fin_any (fun x hx => ?_))
      refine fin_nil ?_
      (simp only [List.setIfInBounds_toArray, List.set_cons_succ, List.set_cons_zero]; refine wpAny_done (by kernel_rfl) ?_ _)
      go_wp2_with fail
      refine bodyPost_ret (v := .bool true) (by simp [results, Try.results10, go_sem, *]) rfl ⟨rfl, HB5.out.trans (hbw.mono HB5.out.size)⟩
    · have hle : (i : Int) ≤ 8 := by omega
      have hle2 : i ≤ 8 := by omega
      obtain ⟨b, hb⟩ : ∃ b, b = decide (i - 1 = 3) := ⟨_, rfl⟩
      have hb1 : ((i : Int) == 4) = b := by rw [hb]; by_cases h : i = 4 <;> simp [h] <;> omega
      have hb2 : decide ((i : Int) = 4) = b := by rw [hb]; by_cases h : i = 4 <;> simp [h] <;> omega
      have HAD := hide (haddK wr (k := i - 1) (by omega) A n c HRr.out HNr.out b hb)
      rw [show i - 1 + 1 = i by omega] at HAD
      clear hb
      obtain ⟨a0, a1, a2, a3, a4, a5, a6, a7⟩ : _ ∧ _ ∧ _ ∧ _ ∧ _ ∧ _ ∧ _ ∧ _ := ⟨HCr.out.cell 0 _ rfl, HCr.out.cell 1 _ rfl, HCr.out.cell 2 _ rfl, HCr.out.cell 3 _ rfl, HCr.out.cell 4 _ rfl, HCr.out.cell 5 _ rfl, HCr.out.cell 6 _ rfl, HCr.out.cell 7 _ rfl⟩; have az := HCr.out.sz
      have af := HCr.out.fz
      go_upto_region 4 with (go_at_call 29; (with_reducible refine HAD.out.mono ?_); rintro e w2 ⟨A2, n2, c2, rfl, hr, hn, ha, hb⟩; have HA2 := hide (show ∀ b o, A2 = some ⟨b, o, none⟩ → G < b from fun b o h => Nat.lt_trans HCr.out.sz (ha b o h)); have HR2 := hide hr; have HN2 := hide hn; have HC2 := hide (HCr.out.below hb); have HB2 := hide (HBr.out.trans (hb.mono HBr.out.size)); clear a0 a1 a2 a3 a4 a5 a6 a7 az; clear af; obtain ⟨a0, a1, a2, a3, a4, a5, a6, a7⟩ : _ ∧ _ ∧ _ ∧ _ ∧ _ ∧ _ ∧ _ ∧ _ := ⟨HC2.out.cell 0 _ rfl, HC2.out.cell 1 _ rfl, HC2.out.cell 2 _ rfl, HC2.out.cell 3 _ rfl, HC2.out.cell 4 _ rfl, HC2.out.cell 5 _ rfl, HC2.out.cell 6 _ rfl, HC2.out.cell 7 _ rfl⟩; have az := HC2.out.sz; have af := HC2.out.fz; clear hr hn ha hb)
      generalize hW : World.setCell (World.setCell (World.setCell (World.setCell (World.setCell (World.setCell (World.setCell (World.setCell w2 _ _) _ _) _ _) _ _) _ _) _ _) _ _) _ _ = v3
      have HC3 := hide (show Cb v3 G ((HK i).cs A2 n2 c2) by rw [← hW]; exact (((((((HC2.out.put 0 (.string (HK i).pk) (by simp [Hist.cs]) (by simp)).put 1 (.string (HK i).ts) (by simp [Hist.cs]) (by simp)).put 2 (.int .i64 (HK i).env) (by simp [Hist.cs]) (by simp)).put 3 (.int .i64 (HK i).k) (by simp [Hist.cs]) (by simp)).put 4 (.int .i64 (HK i).runs) (by simp [Hist.cs]) (by simp)).put 5 (.int .i64 (HK i).fail) (by simp [Hist.cs]) (by simp)).put 6 (.int .i64 (HK i).last) (by simp [Hist.cs]) (by simp)).put 7 (.slice A2 n2 c2) (by simp [Hist.cs]) (by simp))
      have frp : Fr w2 v3 (fun b => b = G) := by rw [← hW]; (iterate 8 (refine Fr.setCell ?_ (Or.inr (by rfl)) _)); exact Fr.refl _ _
      have HB3 := hide (bw_one' HB2.out frp hGw)
      have HR3 := hide (show Rs v3 none 3 Bk.vals A2 (bsK i) from HR2.out.fr frp (fun hl b o hA _ => by have := HA2.out b o hA; omega))
      clear a0 a1 a2 a3 a4 a5 a6 a7 az
      clear hW frp af
      go_wp2_with fail
      go_roundw
      case rel => exact ⟨i + 1, n2, c2, A2, by go_num, by omega, by omega, by rw [Nat.add_sub_cancel]; exact HC3, by rw [Nat.add_sub_cancel]; exact HR3, by rw [Nat.add_sub_cancel]; exact HN2, HA2, HB3⟩
      case measure => simp [intOf] <;> omega
end Go.Proofs.Ytnofljgmkdommaa
