/- Contracts of the functions that these laws reach: part 11: Contracts: noise.total; Contracts: noise.total, Exactly, AtLeast, AtMost; Contracts: Small. -/
import Derived.Test.YtclflfglhbkfkaaG10
import Derived.Test.YtclflfglhbkfkaaG3
set_option linter.unusedVariables false
set_option linter.unusedSimpArgs false

/- Contracts: noise.total. -/
namespace Go.Proofs.Ytclflfglhbkfkaa
open Go.RowKit

def RT (B n : Nat) (a : Fa) (r : Rat) : Nat → Value → World → Prop
  | 0, x, _ => x = .int .i64 (n : Int)
  | 1, x, _ => x = .agg (rowCells n).toArray
  | 2, x, _ => x = .agg #[.slice a.A a.n a.c, .slice a.B a.m a.d]
  | 3, x, W => ∃ c : Fa, x = .agg #[.slice c.A c.n c.c, .slice c.B c.m c.d] ∧ Fo W c (some (1 - r))
  | 4, x, W => ∃ c : Fa, x = .agg #[.slice c.A c.n c.c, .slice c.B c.m c.d] ∧ Fo W c (some 0)
  | 5, x, W => ∃ b, x = .pointer (some ⟨b, 0, none⟩) ∧ B ≤ b ∧ Rw W b (fun _ => 0) ∧ NB W b
  | 6, x, W => ∃ b, x = .pointer (some ⟨b, 0, none⟩) ∧ B ≤ b ∧ Bq W b fa0
  | 7, x, W => ∃ b, x = .pointer (some ⟨b, 0, none⟩) ∧ B ≤ b ∧ Bq W b fa0
  | _, _, _ => True
theorem RT.st (B n : Nat) (a : Fa) (r : Rat) : ∀ i x w w', RT B n a r i x w → Below w.heap.size w w' → RT B n a r i x w'
  | 0, _, _, _, h, _ => h
  | 1, _, _, _, h, _ => h
  | 2, _, _, _, h, _ => h
  | 3, _, _, _, ⟨c, h1, h2⟩, hb => ⟨c, h1, h2.below hb⟩
  | 4, _, _, _, ⟨c, h1, h2⟩, hb => ⟨c, h1, h2.below hb⟩
  | 5, _, _, _, ⟨b, h1, h2, h3, h4⟩, hb => ⟨b, h1, h2, h3.below hb, h4.below h3.sz hb⟩
  | 6, _, _, _, ⟨b, h1, h2, h3⟩, hb => ⟨b, h1, h2, h3.below hb⟩
  | 7, _, _, _, ⟨b, h1, h2, h3⟩, hb => ⟨b, h1, h2, h3.below hb⟩
  | _ + 8, _, _, _, _, _ => trivial
set_option maxRecDepth 100000 in
set_option maxHeartbeats 16000000 in
theorem total_main (w : World) (a : Fa) (r : Rat) (n : Nat) (fid : FuncId) (G : Nat) (f : Nat → Bool) (hq : Fq w a (lm (rn r)) (lm r.den)) (hn2 : n ≤ 32) (hc : Chn r) (hr : fitsR r = true) (hA : fracOf (lm (rn r)) (lm r.den) = some r) (hch : chO (fracOf (lm (rn r)) (lm r.den)) = true)
    (hcf : ∀ vs W, (callFunc fid vs).run Try.prog W = .ok (.enter fid vs) W)
    (hf : ∀ (W : World) (j : Nat), Below w.heap.size w W → j ≤ 32 → Calls Try.prog fid #[.int .i64 (j : Int), .pointer (some ⟨G, 0, none⟩)] W fun e w' => e = .returned (.bool (f j)) ∧ w' = W) :
    Calls Try.prog 44 #[.agg #[.slice a.A a.n a.c, .slice a.B a.m a.d], .int .i64 (n : Int), .func (Fn.func fid) #[] #[.pointer (some ⟨G, 0, none⟩)]] w fun e w' => Ret w (some (tot r n f), 0) e w' := by
  have hr0 := hc.h0
  have hr1 := hc.h1
  have hfr := hc.fq
  have HF0 := hide hf
  have HCH := hide hch
  have HC := hide hc
  have HOK := hide (show okR (some r) from ⟨hr0, hr⟩)
  have h1 : decide ((n : Int) < 0) = false := decide_eq_false (by omega)
  have hn : decide ((n : Int) > 32) = false := decide_eq_false (by omega)
  have HN := hide hn2
  clear hA hch hf hc
  go_enter Try.func44, Try.ntmps44
  go_upto_region 1 with (fail)
  generalize hW : World.alloc (World.alloc w _) _ = v
  have HF := hide (show F1 w v a (lm (rn r)) (lm r.den) by rw [← hW]; exact F1.mk0 hq _ _)
  obtain ⟨a0, a1, az, r0, r1, rf⟩ := HF.out.ca
  clear hW hq
  go_upto_region 5 with (go_at_call 34; (with_reducible refine (chance_any _ a _ _ HF.out.q).mono ?_); rintro e w1 ⟨rfl, hb⟩; rw [HCH.out]; have HF1 := hide (HF.out.below hb); obtain ⟨e0, e1, ez, s0, s1, sf⟩ := HF1.out.ca; clear hb)
  go_cut [8, 9, 10] from 8 to 36 (fun s8 s9 s10 wx => ∃ b8 b9 b10 cq cs, s8 = .pointer (some ⟨b8, 0, none⟩) ∧ s9 = .pointer (some ⟨b9, 0, none⟩) ∧ s10 = .pointer (some ⟨b10, 0, none⟩) ∧ Hid (TS w wx a (lm (rn r)) (lm r.den) n r b8 b9 b10 cq cs 0))
  case first =>
    refine region_first_many 8 [31, 32, 33, 34, 35, 8, 9, 10] (RT w1.heap.size n a r) (fun i => decide (5 ≤ i)) (by kernel_rfl) (by decide) rfl (by decide) (by kernel_rfl) (by kernel_rfl) (RT.st _ _ _ _) ?_ ?_
    · intro i hi a' w' hbw hdf hoff hdep K hK
      have o1 : a'.tmps.getD 1 undef = .int .i64 (n : Int) := hoff 1 rfl
      have o3 : a'.tmps.getD 3 undef = .pointer (some ⟨w.heap.size, 0, none⟩) := hoff 3 rfl
      have HF2 := hide (HF1.out.below hbw)
      obtain ⟨g0, g1, gz, -⟩ := HF2.out.ca
      have HBW := hide hbw
      have HFO := hide (show Fo w' a (some r) from ⟨HF2.out.q, HOK.out⟩)
      have sw := hbw.size
      clear hoff hdf hbw
      match i, hi with
      | 0, _ =>
        refine rg_in rfl (fun K' hKK => ?_)
        go_wp2_with fail
        exact (hK _ _ rfl (Below.refl _ _) (by simp))
      | 1, _ =>
        have o31 : a'.tmps.getD 31 undef = .int .i64 (n : Int) := hdep _ rfl ⟨0, Ground.data⟩ (by simp) rfl
        refine rg_in rfl (fun K' hKK => ?_)
        go_wp2_with (go_at_call 62; (with_reducible refine (row_any _ n hn2).mono ?_); rintro e w2 ⟨rfl, hb⟩; have HB := hide hb; clear hb)
        exact (hK _ _ rfl HB.out (by simp))
      | 2, _ =>
        refine rg_in rfl (fun K' hKK => ?_)
        go_wp2_with fail
        exact (hK _ _ rfl (Below.refl _ _) (by simp))
      | 3, _ =>
        have o33 : a'.tmps.getD 33 undef = .agg #[.slice a.A a.n a.c, .slice a.B a.m a.d] := hdep _ rfl ⟨2, Ground.data⟩ (by simp) rfl
        refine rg_in rfl (fun K' hKK => ?_)
        go_wp2_with (go_at_call 69; (with_reducible refine (other_any _ a r HFO.out hr1 hfr).mono ?_); rintro e w2 ⟨c, rfl, ho, hb⟩; have HB := hide hb; have HO := hide ho; clear hb ho)
        exact (hK _ _ ⟨c, rfl, HO.out⟩ HB.out (by simp))
      | 4, _ =>
        refine rg_in rfl (fun K' hKK => ?_)
        go_wp2_with (go_at_call 64; (with_reducible refine (whole0_any _).mono ?_); rintro e w2 ⟨c, rfl, ho, hb⟩; have HB := hide hb; have HO := hide ho; clear hb ho)
        exact (hK _ _ ⟨c, rfl, HO.out⟩ HB.out (by simp))
      | 5, _ =>
        refine rg_in rfl (fun K' hKK => ?_)
        go_wp2_with fail
        exact (hK _ _ ⟨_, rfl, sw, Rw.mk0 _ _ rfl, Rw.nb0 _ _ rfl⟩ ((Below.refl _ _).alloc (Nat.le_refl _) _) (fun _ => ⟨_, rfl, Nat.le_refl _, by simp⟩))
      | 6, _ =>
        refine rg_in rfl (fun K' hKK => ?_)
        go_wp2_with fail
        exact (hK _ _ ⟨_, rfl, sw, Bq.mk0 _ fa0 rfl⟩ ((Below.refl _ _).alloc (Nat.le_refl _) _) (fun _ => ⟨_, rfl, Nat.le_refl _, by simp⟩))
      | 7, _ =>
        refine rg_in rfl (fun K' hKK => ?_)
        go_wp2_with fail
        exact (hK _ _ ⟨_, rfl, sw, Bq.mk0 _ fa0 rfl⟩ ((Below.refl _ _).alloc (Nat.le_refl _) _) (fun _ => ⟨_, rfl, Nat.le_refl _, by simp⟩))
    · intro x w2 hbw hx hne
      obtain ⟨b8, e8, h8, q8, n8⟩ := hx 5 (by decide)
      obtain ⟨b9, e9, h9, q9⟩ := hx 6 (by decide)
      obtain ⟨b10, e10, h10, q10⟩ := hx 7 (by decide)
      obtain ⟨cq, e34, o34⟩ := hx 3 (by decide)
      obtain ⟨cs, e35, o35⟩ := hx 4 (by decide)
      have e32 : x 1 = .agg (rowCells n).toArray := hx 1 (by decide)
      have d89 : b8 ≠ b9 := fun h => hne 5 6 (by decide) (by decide) (by decide) rfl rfl (by rw [e8, e9, h])
      have d80 : b8 ≠ b10 := fun h => hne 5 7 (by decide) (by decide) (by decide) rfl rfl (by rw [e8, e10, h])
      have d90 : b9 ≠ b10 := fun h => hne 6 7 (by decide) (by decide) (by decide) rfl rfl (by rw [e9, e10, h])
      simp only [show (List.range 8).map (fun i => some (x i)) = [some (x 0), some (x 1), some (x 2), some (x 3), some (x 4), some (x 5), some (x 6), some (x 7)] from rfl, e8, e9, e10, e34, e35, e32]
      generalize x 0 = x0
      generalize x 2 = x2
      have HX := hide hbw
      clear hx hne hbw e8 e9 e10 e34 e35 e32
      have HTH := hide q8.there
      simp only [fillT, List.setIfInBounds_toArray, List.set_cons_succ, List.set_cons_zero]
      refine wpAny_one (i := 8) (by kernel_rfl) ?_
      refine rg_store_mid 81 (.tmp 8) (.tmp 32) rfl rfl rfl rfl b8 0 (rowCells n).toArray rfl rfl (by rw [List.size_toArray, rowCells_len]; exact HTH.out) (by rw [List.size_toArray, rowCells_len]; rfl) (all_oneCell_toArray (rowCells_one n)) ?_
      have HF2 := HF1.out.below HX.out
      have z2 := HX.out.size
      have hfc := fr_cells (w := w2) (g := b8) (rowCells n) 0 (Fr.refl w2 _)
      have HR3 := hide (q8.filled (n := n))
      have HF3 := hide (HF2.one hfc n8 (by omega))
      have HQ9 := hide (q9.one hfc (Ne.symm d89))
      have HQ10 := hide (q10.one hfc (Ne.symm d80))
      have HO34 := hide (o34.one hfc n8)
      have HO35 := hide (o35.one hfc n8)
      generalize hW : w2.setCells b8 0 (rowCells n).toArray.toList = w3 at hfc HR3 HF3 HQ9 HQ10 HO34 HO35 ⊢
      clear hW q8 q9 q10 n8 HF2 hfc o34 o35
      obtain ⟨c90, c91, cf9, cz9, -⟩ := HQ9.out
      obtain ⟨c00, c01, cf0, cz0, -⟩ := HQ10.out
      refine wpAny_one (i := 9) (by kernel_rfl) ?_
      refine rg_in rfl (fun K' hKK => ?_)
      go_wp2_with fail
      refine wpAny_one (i := 10) (by kernel_rfl) ?_
      refine rg_in rfl (fun K' hKK => ?_)
      go_wp2_with fail
      refine wpAny_done (by kernel_rfl) ?_ _
      go_wp2_with fail
      go_meet
      case rel =>
        have hf9 := fr_fill (w := w3) (g := b9) (.slice cq.A cq.n cq.c) (.slice cq.B cq.m cq.d)
        have hn9 := HQ9.out.nb
        have hT : TS w ((w3.setCell ⟨b9, 0, none⟩ (.slice cq.A cq.n cq.c)).setCell ⟨b9, 1, none⟩ (.slice cq.B cq.m cq.d)) a (lm (rn r)) (lm r.den) n r b8 b9 b10 cq cs 0 → True := fun _ => trivial
        have g1 := HF3.out.one hf9 hn9 (by omega)
        have g2 := HR3.out.one hf9 d89
        have g3 := HQ9.out.fill cq
        have g4 := HO34.out.one hf9 hn9
        have g5 := HQ10.out.one hf9 (Ne.symm d90)
        have g6 := HO35.out.one hf9 hn9
        have hf10 := fr_fill (w := ((w3.setCell ⟨b9, 0, none⟩ (.slice cq.A cq.n cq.c)).setCell ⟨b9, 1, none⟩ (.slice cq.B cq.m cq.d))) (g := b10) (.slice cs.A cs.n cs.c) (.slice cs.B cs.m cs.d)
        exact ⟨b8, b9, b10, cq, cs, rfl, rfl, rfl, hide ⟨g1.one hf10 g5.nb (by omega), g2.one hf10 d80, g3.one hf10 d90, g4.one hf10 g5.nb, g5.fill cs, g6.one hf10 g5.nb, d80, d90, by omega⟩⟩
  case rest =>
    obtain ⟨b8, b9, b10, cq, cs, rfl, rfl, rfl, HT⟩ := hcut
    go_wp2_with fail
    go_loopw [38] (fun i wr => ∃ (j : Nat) (cs : Fa), i = .int .i64 (j : Int) ∧ j ≤ n + 1 ∧ Hid (TS w wr a (lm (rn r)) (lm r.den) n r b8 b9 b10 cq cs (sm r n f j))) (fun i _ => n + 1 - (intOf i).toNat)
    case atStart => exact ⟨0, cs, rfl, by omega, HT⟩
    case round =>
      obtain ⟨j, cs, rfl, hj, HT⟩ := hrel
      clear HF HF1 e0 e1 ez s0 s1 sf a0 a1 az r0 r1 rf
      by_cases hjn : j = n + 1
      · subst hjn
        obtain ⟨a0, a1, az, r0, r1, rf⟩ := HT.out.f1.ca
        have c00 := HT.out.s.c0
        have c01 := HT.out.s.c1
        go_wp2_with fail
        refine bodyPost_ret (v := .tuple #[.agg #[.slice cs.A cs.n cs.c, .slice cs.B cs.m cs.d], .int .i64 0]) (by simp [results, Try.results44, go_sem, *]) rfl (HT.out.f1.end rfl HT.out.so)
      · have hlt : (j : Int) < (n : Int) + 1 := by omega
        have hj32 : j ≤ 32 := by omega
        have HBw := hide HT.out.f1.bw
        cases hfj : f j
        · have HFJ := hide hfj
          have HS := hide (show sm r n f (j + 1) = sm r n f j by show sm r n f j + (if f j then _ else 0) = _; rw [hfj, if_neg (by simp)]; grind)
          clear hfj
          go_wp2_with ((with_reducible refine (HF0.out _ j HBw.out hj32).mono ?_); rintro e w1 ⟨rfl, rfl⟩; rw [HFJ.out])
          go_roundw
          case rel => exact ⟨j + 1, cs, by go_num, by omega, by rw [HS.out]; exact HT⟩
          case measure => simp [intOf]; omega
        · have HFJ := hide hfj
          have HS := hide (show sm r n f (j + 1) = sm r n f j + tm r n j by show sm r n f j + (if f j then _ else 0) = _; rw [hfj, if_pos rfl])
          clear hfj
          have hC := HC.out
          have HA := hide (show Fo wr a (some r) from ⟨HT.out.f1.q, HOK.out⟩)
          obtain ⟨a0, a1, az, -⟩ := HT.out.f1.ca
          have z8 := HT.out.rw.sz
          have z9 := HT.out.q.sz
          have z10 := HT.out.s.sz
          have hnj : (n : Int) - (j : Int) = ((n - j : Nat) : Int) := by omega
          have g0 : (0 : Int) ≤ (j : Int) := by omega
          have g1 : (j : Int) < 33 := by omega
          have hch : ch n j < 18446744073709551616 := by
            have h1 := ch_le n j
            have h2 : 2 ^ n ≤ 2 ^ 32 := Nat.pow_le_pow_right (by omega) hn2
            omega
          have HCH2 := hide hch
          have HFT := hide (show fitsR ((ch n j : Rat) * r ^ j * (1 - r) ^ (n - j)) = true from hC.ftm hn2 (by omega))
          clear hch hC
          go_upto_region 13 with (first
            | ((with_reducible refine (HF0.out _ j HBw.out hj32).mono ?_); rintro e w1 ⟨rfl, rfl⟩; rw [HFJ.out])
            | (go_at_call 74; (with_reducible refine (fpow_ok _ a r j HA.out (by omega) (HC.out.fp hj32)).mono ?_); rintro e w2 ⟨c12, rfl, ho, hb⟩; have HO12 := hide ho; have HT2 := hide (HT.out.below hb); have s2 := hb.size; have q0 := HT2.out.q.c0; have q1 := HT2.out.q.c1; have qz := HT2.out.q.sz; clear ho hb)
            | (go_at_call 74; (with_reducible refine (fpow_ok _ cq (1 - r) (n - j) (HT2.out.qo.alloc _) (by omega) (HC.out.fp' (by omega))).mono ?_); rintro e w3 ⟨c14, rfl, ho, hb⟩; have HO14 := hide ho; have HT3 := hide ((HT2.out.alloc _).below hb); have HX12 := hide ((Fx.mk0 HO12.out 26 rfl).below hb); have s3 : w2.heap.size < w3.heap.size := (by have := hb.size; simp at this; omega); have k8 := HT3.out.rw.c j (by omega); have kz := HT3.out.rw.sz; clear ho hb)
            | (go_at_call 61; (with_reducible refine (nof_any _ (ch n j) HCH2.out).mono ?_); rintro e w4 ⟨A4, m4, d4, rfl, hd4, hm4, hu, hb⟩; have HU4 := hide hu; have HT4 := hide ((HT3.out.alloc _).below hb); have HX12b := hide ((HX12.out.alloc _).below hb); have HX14 := hide ((Fx.mk0 HO14.out 26 rfl).below hb); have s4 : w3.heap.size < w4.heap.size := (by have := hb.size; simp at this; omega); clear hu hb)
            | (go_at_call 61; (with_reducible refine (nof_one _).mono ?_); rintro e w5 ⟨A5, m5, d5, rfl, hd5, hm5, hu, hb⟩; have HU5 := hide hu; have HU4b := hide (HU4.out.below hb); have HT5 := hide (HT4.out.below hb); have HX12c := hide (HX12b.out.below hb); have HX14b := hide (HX14.out.below hb); have s5 := hb.size; clear hu hb)
            | (go_at_call 75; (with_reducible refine (fmake_nat _ (ch n j) A4 m4 d4 A5 m5 d5 HU4b.out HU5.out (by omega) (by omega) HCH2.out).mono ?_); rintro e w6 ⟨c16, rfl, ho, hb⟩; have HO16 := hide ho; have HT6 := hide (HT5.out.below hb); have HX12d := hide (HX12c.out.below hb); have HX14c := hide (HX14b.out.below hb); have s6 := hb.size; clear ho hb))
          have hgw := HT.out.g0
          generalize hW : World.alloc w6 _ = v6
          have HT7 := hide (show TS w v6 a (lm (rn r)) (lm r.den) n r b8 b9 b10 cq cs (sm r n f j) by rw [← hW]; exact HT6.out.alloc _)
          have HX12e := hide (show Fx v6 w2.heap.size c12 (some (r ^ j)) by rw [← hW]; exact HX12d.out.alloc _)
          have HX14d := hide (show Fx v6 w3.heap.size c14 (some ((1 - r) ^ (n - j))) by rw [← hW]; exact HX14c.out.alloc _)
          have HX16 := hide (show Fx v6 w6.heap.size c16 (some (ch n j : Rat)) by rw [← hW]; exact Fx.mk0 HO16.out 26 rfl)
          clear hW
          obtain ⟨x0, x1, xf, xz, -⟩ := HX16.out.b
          obtain ⟨y0, y1, yf, yz, -⟩ := HX12e.out.b
          go_upto_region 14 with (go_at_call 70; (with_reducible refine (fmul_ok _ c16 c12 _ _ HX16.out.o HX12e.out.o (HC.out.fcp HN.out hj32)).mono ?_); rintro e w7 ⟨c17, rfl, ho, hb⟩; have HO17 := hide ho; have HT8 := hide (HT7.out.below hb); have HX14e := hide (HX14d.out.below hb); have HX16b := hide (HX16.out.below hb); obtain ⟨p0, p1, pf, pz, -⟩ := HX16b.out.b; clear ho hb)
          generalize hW : World.setCell (World.setCell w7 _ _) _ _ = v7
          have HT9 := hide (show TS w v7 a (lm (rn r)) (lm r.den) n r b8 b9 b10 cq cs (sm r n f j) by rw [← hW]; exact HT8.out.far (fr_fill _ _) HX16b.out.b.nb (by omega) (by omega) (by omega) (by omega))
          have HX14f := hide (show Fx v7 w3.heap.size c14 (some ((1 - r) ^ (n - j))) by rw [← hW]; exact HX14e.out.one (fr_fill _ _) HX16b.out.b.nb (by omega))
          have HX16c := hide (show Fx v7 w6.heap.size c17 (some ((ch n j : Rat) * r ^ j)) by rw [← hW]; exact HX16b.out.put HO17.out)
          clear hW
          obtain ⟨k0, k1, kf, kz, -⟩ := HX16c.out.b
          obtain ⟨l0, l1, lf, lz, -⟩ := HX14f.out.b
          go_upto_region 15 with (go_at_call 70; (with_reducible refine (fmul_ok _ c17 c14 _ _ HX16c.out.o HX14f.out.o HFT.out).mono ?_); rintro e w8 ⟨c18, rfl, ho, hb⟩; have HO18 : Hid (Fo w8 c18 (some (tm r n j))) := hide ho; have HT10 := hide (HT9.out.below hb); have HX16d := hide (HX16c.out.below hb); obtain ⟨p0, p1, pf, pz, -⟩ := HX16d.out.b; clear ho hb)
          generalize hW : World.setCell (World.setCell w8 _ _) _ _ = v8
          have HT11 := hide (show TS w v8 a (lm (rn r)) (lm r.den) n r b8 b9 b10 cq cs (sm r n f j) by rw [← hW]; exact HT10.out.far (fr_fill _ _) HX16d.out.b.nb (by omega) (by omega) (by omega) (by omega))
          have HX16e := hide (show Fx v8 w6.heap.size c18 (some (tm r n j)) by rw [← hW]; exact HX16d.out.put HO18.out)
          clear hW
          obtain ⟨m0, m1, mf, mz, -⟩ := HX16e.out.b
          obtain ⟨n0, n1, nf, nz, -⟩ := HT11.out.s
          go_wp2_with (go_at_call 23; (with_reducible refine (fadd_ok _ cs c18 _ _ HT11.out.so HX16e.out.o (by rw [← HS.out]; exact HC.out.fsm HN.out f (by omega))).mono ?_); rintro e w9 ⟨c19, rfl, ho, hb⟩; rw [← HS.out] at ho; have HO19 := hide ho; have HT12 := hide (HT11.out.below hb); obtain ⟨t0, t1, tf, tz, -⟩ := HT12.out.s; clear ho hb)
          go_roundw
          case rel => exact ⟨j + 1, c19, by go_num, by omega, hide (HT12.out.put HO19.out)⟩
          case measure => simp [intOf]; omega
end Go.Proofs.Ytclflfglhbkfkaa

/- Contracts: noise.total, Exactly, AtLeast, AtMost. -/
namespace Go.Proofs.Ytclflfglhbkfkaa
open Go.RowKit

set_option maxRecDepth 100000 in
set_option maxHeartbeats 8000000 in
theorem total_any (w : World) (a : Fa) (l k : List Nat) (n : Int) (fid : FuncId) (G : Nat) (f : Nat → Bool) (hq : Fq w a l k)
    (hcf : ∀ vs W, (callFunc fid vs).run Try.prog W = .ok (.enter fid vs) W)
    (hf : ∀ (W : World) (j : Nat), Below w.heap.size w W → j ≤ 32 → Calls Try.prog fid #[.int .i64 (j : Int), .pointer (some ⟨G, 0, none⟩)] W fun e w' => e = .returned (.bool (f j)) ∧ w' = W) :
    Calls Try.prog 44 #[.agg #[.slice a.A a.n a.c, .slice a.B a.m a.d], .int .i64 n, .func (Fn.func fid) #[] #[.pointer (some ⟨G, 0, none⟩)]] w fun e w' => Ret w (totR (fracOf l k) n f) e w' := by
  cases hch : chO (fracOf l k)
  · have HCH := hide hch
    have HX := hide (show totR (fracOf l k) n f = (none, 41) by unfold totR; rw [if_neg (by rw [hch]; simp)])
    clear hch hf hcf
    go_enter Try.func44, Try.ntmps44
    go_upto_region 1 with (fail)
    generalize hW : World.alloc (World.alloc w _) _ = v
    have HF := hide (show F1 w v a (l) (k) by rw [← hW]; exact F1.mk0 hq _ _)
    obtain ⟨a0, a1, az, r0, r1, rf⟩ := HF.out.ca
    clear hW hq
    go_wp2_with (go_at_call 34; (with_reducible refine (chance_any _ a _ _ HF.out.q).mono ?_); rintro e w1 ⟨rfl, hb⟩; rw [HCH.out]; have HF1 := hide (HF.out.below hb); obtain ⟨e0, e1, ez, s0, s1, sf⟩ := HF1.out.ca; clear hb)
    refine bodyPost_ret (v := .tuple #[.agg #[.slice none 0 0, .slice none 0 0], .int .i64 41]) (by simp [results, Try.results44, go_sem, *]) rfl (HF1.out.err HX.out)
  · by_cases h0 : n < 0
    · have HCH := hide hch
      have HX := hide (show totR (fracOf l k) n f = (none, 3) by unfold totR; rw [if_pos hch, if_pos (.inl h0)])
      have d0 : decide (n < 0) = true := decide_eq_true h0
      clear hch hf hcf h0
      go_enter Try.func44, Try.ntmps44
      go_upto_region 1 with (fail)
      generalize hW : World.alloc (World.alloc w _) _ = v
      have HF := hide (show F1 w v a (l) (k) by rw [← hW]; exact F1.mk0 hq _ _)
      obtain ⟨a0, a1, az, r0, r1, rf⟩ := HF.out.ca
      clear hW hq
      go_wp2_with (go_at_call 34; (with_reducible refine (chance_any _ a _ _ HF.out.q).mono ?_); rintro e w1 ⟨rfl, hb⟩; rw [HCH.out]; have HF1 := hide (HF.out.below hb); obtain ⟨e0, e1, ez, s0, s1, sf⟩ := HF1.out.ca; clear hb)
      refine bodyPost_ret (v := .tuple #[.agg #[.slice none 0 0, .slice none 0 0], .int .i64 3]) (by simp [results, Try.results44, go_sem, *]) rfl (HF1.out.err HX.out)
    · by_cases h2 : 32 < n
      · have HCH := hide hch
        have HX := hide (show totR (fracOf l k) n f = (none, 3) by unfold totR; rw [if_pos hch, if_pos (.inr h2)])
        have d0 : decide (n < 0) = false := decide_eq_false h0
        have d1 : decide (n > 32) = true := decide_eq_true h2
        clear hch hf hcf h0 h2
        go_enter Try.func44, Try.ntmps44
        go_upto_region 1 with (fail)
        generalize hW : World.alloc (World.alloc w _) _ = v
        have HF := hide (show F1 w v a (l) (k) by rw [← hW]; exact F1.mk0 hq _ _)
        obtain ⟨a0, a1, az, r0, r1, rf⟩ := HF.out.ca
        clear hW hq
        go_wp2_with (go_at_call 34; (with_reducible refine (chance_any _ a _ _ HF.out.q).mono ?_); rintro e w1 ⟨rfl, hb⟩; rw [HCH.out]; have HF1 := hide (HF.out.below hb); obtain ⟨e0, e1, ez, s0, s1, sf⟩ := HF1.out.ca; clear hb)
        refine bodyPost_ret (v := .tuple #[.agg #[.slice none 0 0, .slice none 0 0], .int .i64 3]) (by simp [results, Try.results44, go_sem, *]) rfl (HF1.out.err HX.out)
      · cases hA : fracOf l k with
        | none => rw [hA] at hch; simp [chO] at hch
        | some r =>
          obtain ⟨rfl, rfl, hr0, hr⟩ := fracOf_some hA
          rw [hA] at hch
          have hc := chO_chn rfl hr0 hch
          obtain ⟨m, rfl⟩ : ∃ m : Nat, n = m := ⟨n.toNat, by omega⟩
          have hX : totR (some r) m f = (some (tot r m f), 0) := by
            unfold totR
            rw [if_pos hch, if_neg (by omega)]; rfl
          rw [hX]
          exact total_main w a r m fid G f hq (by omega) hc hr hA (by rw [hA]; exact hch) hcf hf
set_option maxRecDepth 100000 in
set_option maxHeartbeats 4000000 in
theorem exactly1_any (w : World) (j : Nat) (k : Int) (G : Nat) (h0 : w.cell? ⟨G, 0, none⟩ = some (.int .i64 k)) :
  Calls Try.prog 49 #[.int .i64 (j : Int), .pointer (some ⟨G, 0, none⟩)] w fun e w' => e = .returned (.bool (decide ((j : Int) = k))) ∧ w' = w := by
  go_enter Try.func49, Try.ntmps49
  go_wp2_with fail
  go_ret
  exact ⟨by first | (simp; done) | (simp; rfl), rfl⟩
set_option maxRecDepth 100000 in
set_option maxHeartbeats 4000000 in
theorem atleast1_any (w : World) (j : Nat) (k : Int) (G : Nat) (h0 : w.cell? ⟨G, 0, none⟩ = some (.int .i64 k)) :
  Calls Try.prog 45 #[.int .i64 (j : Int), .pointer (some ⟨G, 0, none⟩)] w fun e w' => e = .returned (.bool (decide (k ≤ (j : Int)))) ∧ w' = w := by
  go_enter Try.func45, Try.ntmps45
  go_wp2_with fail
  go_ret
  exact ⟨by first | (simp; done) | (simp; rfl), rfl⟩
set_option maxRecDepth 100000 in
set_option maxHeartbeats 4000000 in
theorem atmost1_any (w : World) (j : Nat) (k : Int) (G : Nat) (h0 : w.cell? ⟨G, 0, none⟩ = some (.int .i64 k)) :
  Calls Try.prog 57 #[.int .i64 (j : Int), .pointer (some ⟨G, 0, none⟩)] w fun e w' => e = .returned (.bool (decide ((j : Int) ≤ k))) ∧ w' = w := by
  go_enter Try.func57, Try.ntmps57
  go_wp2_with fail
  go_ret
  exact ⟨by first | (simp; done) | (simp; rfl), rfl⟩
theorem calls_func {fid : FuncId} {fn : Func} {c : Code} (hf : Try.prog.funcs[fid]? = some fn) (hname : (fn.name == "runtime.NumGoroutine") = false) (hb : fn.body = some c) (vs : Array Value) (w : World) : (callFunc fid vs).run Try.prog w = .ok (.enter fid vs) w := by
  unfold callFunc
  simp [Sem.run_bind, go_sem, hf, hb]
  simpa using hname
set_option maxRecDepth 100000 in
set_option maxHeartbeats 4000000 in
theorem exactly_any (w : World) (a : Fa) (l k : List Nat) (n m : Int) (hq : Fq w a l k) :
    Calls Try.prog 17 #[.agg #[.slice a.A a.n a.c, .slice a.B a.m a.d], .int .i64 n, .int .i64 m] w fun e w' => Ret w (totR (fracOf l k) n (fun j => decide ((j : Int) = m))) e w' := by
  have hcf := fun (vs : Array Value) (W : World) => calls_func (fid := 49) (fn := Try.f49) rfl (by kernel_rfl) rfl vs W
  have HCF := hide hcf
  clear hcf
  go_enter Try.func17, Try.ntmps17
  go_upto_region 1 with (fail)
  generalize hW : World.alloc (World.alloc (World.alloc w _) _) _ = v
  have HQ := hide (show Fq v a l k by rw [← hW]; exact ((hq.alloc _).alloc _).alloc _)
  have a0 : v.cell? ⟨w.heap.size, 0, none⟩ = some (.slice a.A a.n a.c) := by rw [← hW]; clear hW; go_simp
  have a1 : v.cell? ⟨w.heap.size, 1, none⟩ = some (.slice a.B a.m a.d) := by rw [← hW]; clear hW; go_simp
  have hk : v.cell? ⟨w.heap.size + 1, 0, none⟩ = some (.int .i64 m) := by rw [← hW]; clear hW; go_simp
  have HR := hide (show Rb v (w.heap.size + 2) by rw [← hW]; exact Rb.mk0 _ (by simp))
  have HB := hide (show Below w.heap.size w v by rw [← hW]; exact (((Below.refl _ _).alloc (Nat.le_refl _) _).alloc (by simp) _).alloc (by simp; omega) _)
  have hz : w.heap.size + 2 < v.heap.size := HR.out.sz
  obtain ⟨r0, r1, rf, rz, -⟩ := HR.out
  have HFN := hide (show ∀ (W : World) (j : Nat), Below v.heap.size v W → j ≤ 32 → Calls Try.prog 49 #[.int .i64 (j : Int), .pointer (some ⟨w.heap.size + 1, 0, none⟩)] W fun e w' => e = .returned (.bool (decide ((j : Int) = m))) ∧ w' = W from
    fun W j hb hj => exactly1_any W j m (w.heap.size + 1) (by rw [hb.cell (by simp; omega)]; exact hk))
  clear hW hq
  go_wp2_with (go_at_call 44; (with_reducible refine (total_any _ a l k n 49 (w.heap.size + 1) (fun j => decide ((j : Int) = m)) HQ.out HCF.out HFN.out).mono ?_); rintro e w1 ⟨c, rfl, ho, hb⟩; have HO := hide ho; have HB1 := hide (HB.out.trans (hb.mono HB.out.size)); have HR1 := hide (HR.out.below hb); obtain ⟨z0, z1, zf, zz, -⟩ := HR1.out; clear ho hb)
  have HE := hide (show totR (fracOf l k) n (fun j => decide ((j : Int) = m)) = totR (fracOf l k) n (fun j => decide ((j : Int) = m)) from rfl)
  refine bodyPost_ret (v := .tuple #[.agg #[.slice c.A c.n c.c, .slice c.B c.m c.d], .int .i64 (totR (fracOf l k) n (fun j => decide ((j : Int) = m))).2]) (by simp [results, Try.results17, go_sem, *]) rfl (Ret.mk0 rfl HO.out HR1.out HB1.out (by omega))
set_option maxRecDepth 100000 in
set_option maxHeartbeats 4000000 in
theorem atleast_any (w : World) (a : Fa) (l k : List Nat) (n m : Int) (hq : Fq w a l k) :
    Calls Try.prog 13 #[.agg #[.slice a.A a.n a.c, .slice a.B a.m a.d], .int .i64 n, .int .i64 m] w fun e w' => Ret w (totR (fracOf l k) n (fun j => decide (m ≤ (j : Int)))) e w' := by
  have hcf := fun (vs : Array Value) (W : World) => calls_func (fid := 45) (fn := Try.f45) rfl (by kernel_rfl) rfl vs W
  have HCF := hide hcf
  clear hcf
  go_enter Try.func13, Try.ntmps13
  go_upto_region 1 with (fail)
  generalize hW : World.alloc (World.alloc (World.alloc w _) _) _ = v
  have HQ := hide (show Fq v a l k by rw [← hW]; exact ((hq.alloc _).alloc _).alloc _)
  have a0 : v.cell? ⟨w.heap.size, 0, none⟩ = some (.slice a.A a.n a.c) := by rw [← hW]; clear hW; go_simp
  have a1 : v.cell? ⟨w.heap.size, 1, none⟩ = some (.slice a.B a.m a.d) := by rw [← hW]; clear hW; go_simp
  have hk : v.cell? ⟨w.heap.size + 1, 0, none⟩ = some (.int .i64 m) := by rw [← hW]; clear hW; go_simp
  have HR := hide (show Rb v (w.heap.size + 2) by rw [← hW]; exact Rb.mk0 _ (by simp))
  have HB := hide (show Below w.heap.size w v by rw [← hW]; exact (((Below.refl _ _).alloc (Nat.le_refl _) _).alloc (by simp) _).alloc (by simp; omega) _)
  have hz : w.heap.size + 2 < v.heap.size := HR.out.sz
  obtain ⟨r0, r1, rf, rz, -⟩ := HR.out
  have HFN := hide (show ∀ (W : World) (j : Nat), Below v.heap.size v W → j ≤ 32 → Calls Try.prog 45 #[.int .i64 (j : Int), .pointer (some ⟨w.heap.size + 1, 0, none⟩)] W fun e w' => e = .returned (.bool (decide (m ≤ (j : Int)))) ∧ w' = W from
    fun W j hb hj => atleast1_any W j m (w.heap.size + 1) (by rw [hb.cell (by simp; omega)]; exact hk))
  clear hW hq
  go_wp2_with (go_at_call 44; (with_reducible refine (total_any _ a l k n 45 (w.heap.size + 1) (fun j => decide (m ≤ (j : Int))) HQ.out HCF.out HFN.out).mono ?_); rintro e w1 ⟨c, rfl, ho, hb⟩; have HO := hide ho; have HB1 := hide (HB.out.trans (hb.mono HB.out.size)); have HR1 := hide (HR.out.below hb); obtain ⟨z0, z1, zf, zz, -⟩ := HR1.out; clear ho hb)
  have HE := hide (show totR (fracOf l k) n (fun j => decide (m ≤ (j : Int))) = totR (fracOf l k) n (fun j => decide (m ≤ (j : Int))) from rfl)
  refine bodyPost_ret (v := .tuple #[.agg #[.slice c.A c.n c.c, .slice c.B c.m c.d], .int .i64 (totR (fracOf l k) n (fun j => decide (m ≤ (j : Int)))).2]) (by simp [results, Try.results13, go_sem, *]) rfl (Ret.mk0 rfl HO.out HR1.out HB1.out (by omega))
set_option maxRecDepth 100000 in
set_option maxHeartbeats 4000000 in
theorem atmost_any (w : World) (a : Fa) (l k : List Nat) (n m : Int) (hq : Fq w a l k) :
    Calls Try.prog 20 #[.agg #[.slice a.A a.n a.c, .slice a.B a.m a.d], .int .i64 n, .int .i64 m] w fun e w' => Ret w (totR (fracOf l k) n (fun j => decide ((j : Int) ≤ m))) e w' := by
  have hcf := fun (vs : Array Value) (W : World) => calls_func (fid := 57) (fn := Try.f57) rfl (by kernel_rfl) rfl vs W
  have HCF := hide hcf
  clear hcf
  go_enter Try.func20, Try.ntmps20
  go_upto_region 1 with (fail)
  generalize hW : World.alloc (World.alloc (World.alloc w _) _) _ = v
  have HQ := hide (show Fq v a l k by rw [← hW]; exact ((hq.alloc _).alloc _).alloc _)
  have a0 : v.cell? ⟨w.heap.size, 0, none⟩ = some (.slice a.A a.n a.c) := by rw [← hW]; clear hW; go_simp
  have a1 : v.cell? ⟨w.heap.size, 1, none⟩ = some (.slice a.B a.m a.d) := by rw [← hW]; clear hW; go_simp
  have hk : v.cell? ⟨w.heap.size + 1, 0, none⟩ = some (.int .i64 m) := by rw [← hW]; clear hW; go_simp
  have HR := hide (show Rb v (w.heap.size + 2) by rw [← hW]; exact Rb.mk0 _ (by simp))
  have HB := hide (show Below w.heap.size w v by rw [← hW]; exact (((Below.refl _ _).alloc (Nat.le_refl _) _).alloc (by simp) _).alloc (by simp; omega) _)
  have hz : w.heap.size + 2 < v.heap.size := HR.out.sz
  obtain ⟨r0, r1, rf, rz, -⟩ := HR.out
  have HFN := hide (show ∀ (W : World) (j : Nat), Below v.heap.size v W → j ≤ 32 → Calls Try.prog 57 #[.int .i64 (j : Int), .pointer (some ⟨w.heap.size + 1, 0, none⟩)] W fun e w' => e = .returned (.bool (decide ((j : Int) ≤ m))) ∧ w' = W from
    fun W j hb hj => atmost1_any W j m (w.heap.size + 1) (by rw [hb.cell (by simp; omega)]; exact hk))
  clear hW hq
  go_wp2_with (go_at_call 44; (with_reducible refine (total_any _ a l k n 57 (w.heap.size + 1) (fun j => decide ((j : Int) ≤ m)) HQ.out HCF.out HFN.out).mono ?_); rintro e w1 ⟨c, rfl, ho, hb⟩; have HO := hide ho; have HB1 := hide (HB.out.trans (hb.mono HB.out.size)); have HR1 := hide (HR.out.below hb); obtain ⟨z0, z1, zf, zz, -⟩ := HR1.out; clear ho hb)
  have HE := hide (show totR (fracOf l k) n (fun j => decide ((j : Int) ≤ m)) = totR (fracOf l k) n (fun j => decide ((j : Int) ≤ m)) from rfl)
  refine bodyPost_ret (v := .tuple #[.agg #[.slice c.A c.n c.c, .slice c.B c.m c.d], .int .i64 (totR (fracOf l k) n (fun j => decide ((j : Int) ≤ m))).2]) (by simp [results, Try.results20, go_sem, *]) rfl (Ret.mk0 rfl HO.out HR1.out HB1.out (by omega))
end Go.Proofs.Ytclflfglhbkfkaa

/- Contracts: Small. -/
namespace Go.Proofs.Ytclflfglhbkfkaa
open Go.RowKit

/-- A slice of one limb just built. -/
theorem ul_one {w : World} {x : Nat} (hx : x < 4294967296) (t : TypeId) {g : Nat} (hg : g = w.heap.size) : Ul (w.alloc (.cells #[.int .u32 (x : Int)] t)) none (some ⟨g, 0, none⟩) 1 [x] := by
  subst hg
  refine ⟨fun _ => ⟨w.heap.size, 0, rfl, by simp, by simp, fun k a hk j u hu => ?_⟩, rfl, fun y hy => by simp at hy; omega⟩
  match k, j with
  | 0, 0 =>
    simp [uv] at hk hu
    subst hk
    subst hu
    rw [World.cell?_alloc_new]
    rfl
  | k + 1, _ => simp at hk
  | 0, j + 1 => simp [uv] at hu
theorem tmod_nat (a b : Nat) : ((a : Int)).tmod (b : Int) = ((a % b : Nat) : Int) := rfl
theorem tdiv_nat (a b : Nat) : ((a : Int)).tdiv (b : Int) = ((a / b : Nat) : Int) := rfl
set_option maxRecDepth 100000 in
set_option maxHeartbeats 8000000 in
theorem small_any (w : World) (x y : Nat) (hx : x < 2147483648) (hy : y < 2147483648) (h0 : 0 < y) :
    Calls Try.prog 43 #[.int .i64 (x : Int), .int .i64 (y : Int)] w fun e w' => Ret1 w (some (mkRat x y)) e w' := by
  go_enter Try.func43, Try.ntmps43
  go_upto_region 1 with (fail)
  generalize hW : World.alloc w _ = v
  have HRB := hide (show Rb v w.heap.size by rw [← hW]; exact Rb.mk0 _ rfl)
  have HBV := hide (show Below w.heap.size w v by rw [← hW]; exact (Below.refl _ _).alloc (Nat.le_refl _) _)
  clear hW
  go_wp2_with fail
  go_loopw [5, 6] (fun p q wr => ∃ a b : Nat, p = .int .i64 (a : Int) ∧ q = .int .i64 (b : Int) ∧ a < 2147483648 ∧ b < 2147483648 ∧ Hid (Nat.gcd a b = Nat.gcd x y) ∧ Hid (Below v.heap.size v wr)) (fun _ q _ => (intOf q).toNat)
  case atStart => exact ⟨x, y, rfl, rfl, hx, hy, hide rfl, hide (Below.refl _ _)⟩
  case round =>
    obtain ⟨a, b, rfl, rfl, ha, hb, HG, HB⟩ := hrel
    by_cases hb0 : b = 0
    · subst hb0
      rw [Nat.gcd_zero_right] at HG
      have hg : a = Nat.gcd x y := HG.out
      have hap : 0 < a := by rw [hg]; exact Nat.gcd_pos_of_pos_right _ h0
      have ha0 : ((a : Int) == 0) = false := by simp; omega
      have hden : (mkRat x y).den = y / a := by rw [hg]; exact mk_den x y h0
      have hrn : rn (mkRat x y) = x / a := by rw [hg]; exact mk_num x y h0
      have hyp : y / a ≠ 0 := by
        have := Nat.div_pos (Nat.le_of_dvd h0 (by rw [hg]; exact Nat.gcd_dvd_right x y)) hap
        omega
      have hxp' : x ≠ 0 → x / a ≠ 0 := fun hx0 => by
        have := Nat.div_pos (Nat.le_of_dvd (Nat.pos_of_ne_zero hx0) (by rw [hg]; exact Nat.gcd_dvd_left x y)) hap
        omega
      obtain ⟨qy, hqy⟩ : ∃ q, q = y / a := ⟨_, rfl⟩
      obtain ⟨qx, hqx⟩ : ∃ q, q = x / a := ⟨_, rfl⟩
      have hy1 : qy < 2147483648 := by rw [hqy]; exact Nat.lt_of_le_of_lt (Nat.div_le_self _ _) hy
      have hx1 : qx < 2147483648 := by rw [hqx]; exact Nat.lt_of_le_of_lt (Nat.div_le_self _ _) hx
      rw [← hqy] at hden hyp
      rw [← hqx] at hrn hxp'
      have HD := hide (show lm (mkRat x y).den = [qy] by rw [hden]; exact lm_small (by omega) hyp)
      have HN := hide (show x ≠ 0 → lm (rn (mkRat x y)) = [qx] from fun h => by rw [hrn]; exact lm_small (by omega) (hxp' h))
      have HN0 := hide (show x = 0 → lm (rn (mkRat x y)) = [] from fun h => by subst h; rw [hrn, hqx, Nat.zero_div, lm_zero])
      have HOK := hide (show okR (some (mkRat x y)) from ⟨mk_nonneg x y, fits64 (by omega) (by omega) h0⟩)
      have e1 : (y : Int) / (a : Int) = (qy : Int) := by rw [hqy]; rfl
      have e2 : (x : Int) / (a : Int) = (qx : Int) := by rw [hqx]; rfl
      have w1 : (qy : Int) % 4294967296 = (qy : Int) := by omega
      have w2 : (qx : Int) % 4294967296 = (qx : Int) := by omega
      have HR := hide (HRB.out.below HB.out)
      obtain ⟨r0, r1, rf, rz, -⟩ := HR.out
      have rz1 : w.heap.size < wr.heap.size + 1 := by omega
      have rz2 : w.heap.size < wr.heap.size + 1 + 1 := by omega
      have HBW := hide (HBV.out.trans (HB.out.mono HBV.out.size))
      clear hden hrn hyp hxp' hqy hqx hg HG HB
      by_cases hx0 : x = 0
      · have hN := HN0.out hx0
        subst hx0
        have HNN := hide hN
        clear hN HN HN0
        go_wp2_with fail
        refine bodyPost_ret (v := .agg #[.slice none 0 0, .slice (some ⟨wr.heap.size, 0, none⟩) 1 1]) (by simp [results, Try.results43, go_sem, *]) rfl ⟨⟨none, 0, 0, some ⟨wr.heap.size, 0, none⟩, 1, 1⟩, rfl, ?_, ?_⟩
        · refine ⟨⟨?_, ?_, Nat.le_refl _, Nat.le_refl _, by show 0 ≤ 9223372036854775807; omega, by show 1 ≤ 9223372036854775807; omega⟩, HOK.out⟩
          · show Ul _ none none 0 (lm (rn (mkRat _ y))); rw [HNN.out]; exact Ul.nil
          · show Ul _ none _ 1 (lm (mkRat _ y).den); rw [HD.out]; exact (ul_one (by omega) _ (by simp)).alloc _
        · exact ((Rb.end0 HBW.out (Nat.le_refl _) _ _).alloc (by simp; omega) _).alloc (by simp; omega) _
      · have HNN := hide (HN.out hx0)
        clear HN HN0
        have hxp : (0 : Int) < (x : Int) := by omega
        go_wp2_with fail
        refine bodyPost_ret (v := .agg #[.slice (some ⟨wr.heap.size + 1 + 1, 0, none⟩) 1 1, .slice (some ⟨wr.heap.size, 0, none⟩) 1 1]) (by simp [results, Try.results43, go_sem, *]) rfl ⟨⟨some ⟨wr.heap.size + 1 + 1, 0, none⟩, 1, 1, some ⟨wr.heap.size, 0, none⟩, 1, 1⟩, rfl, ?_, ?_⟩
        · refine ⟨⟨?_, ?_, Nat.le_refl _, Nat.le_refl _, by show 1 ≤ 9223372036854775807; omega, by show 1 ≤ 9223372036854775807; omega⟩, HOK.out⟩
          · show Ul _ none _ 1 (lm (rn (mkRat _ y))); rw [HNN.out]; exact ul_one (by omega) _ (by simp)
          · show Ul _ none _ 1 (lm (mkRat _ y).den); rw [HD.out]; exact ((ul_one (by omega) _ (by simp)).alloc _).alloc _
        · exact (((Rb.end0 HBW.out (Nat.le_refl _) _ _).alloc (by simp; omega) _).alloc (by simp; omega) _).alloc (by simp; omega) _
    · have e1 := tmod_nat a b
      have hm := Nat.mod_lt a (Nat.pos_of_ne_zero hb0)
      have hbI : ((b : Int) == 0) = false := by simp; omega
      go_wp2_with fail
      go_quiet (fail)
      go_wp2_with fail
      go_roundw
      case rel => exact ⟨b, a % b, rfl, by go_num, hb, by omega, hide (by rw [← HG.out]; exact gcd_step a b), hide (HB.out.trans ((Dr.below ⟨_, rfl⟩).mono HB.out.size))⟩
      case measure => simp [intOf]; omega
end Go.Proofs.Ytclflfglhbkfkaa
