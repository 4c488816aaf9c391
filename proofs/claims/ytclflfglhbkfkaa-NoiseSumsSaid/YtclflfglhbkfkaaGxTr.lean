/- The walk of the law NoiseSums. -/
import Derived.Test.YtclflfglhbkfkaaG14
set_option linter.unusedVariables false
set_option linter.unusedSimpArgs false

/- The walk of the law NoiseSums. -/
namespace Go.Proofs.Ytclflfglhbkfkaa
open Go.RowKit

theorem cntL_take {l : List Bool} {j : Nat} {b : Bool} (h : l[j]? = some b) : cntL (l.take (j + 1)) = cntL (l.take j) + if b then 1 else 0 := by
  rw [List.take_add_one, h]
  exact cntL_snoc _ _
theorem cntL_le (l : List Bool) : cntL l ≤ l.length := List.count_le_length
theorem exactly_okI (w : World) (a : Fa) (r : Rat) (n k : Nat) (ha : Fo w a (some r)) (hc : Chn r) (hn : n ≤ 32) : Calls Try.prog 17 #[.agg #[.slice a.A a.n a.c, .slice a.B a.m a.d], .int .i64 (n : Int), .int .i64 (k : Int)] w fun e w' => RetV w (tot r n (fun i => decide (i = k))) e w' := by
  have h := exactly_ok w a r n (k : Int) ha hc hn
  have e : (fun j : Nat => decide ((j : Int) = (k : Int))) = fun i => decide (i = k) := by
    funext j
    exact decide_eq_decide.2 (by omega)
  rwa [e] at h
set_option maxRecDepth 100000 in
set_option maxHeartbeats 16000000 in
theorem sums_walk (w : World) (A : Option Addr) (n c : Nat) (l : List Int) (hA : Rs w none 1 iv A l) (hl : l.length = n) (N K : Int) :
    Calls Try.prog 10 #[.slice A n c, .int .i64 N, .int .i64 K] w fun e w' => e = .returned (.bool true) ∧ Below w.heap.size w w' := by
  have HP := hide (tp_new (w := w) (c := c) hA hl 31)
  obtain ⟨m, hm, hF⟩ := fold_nat N 7 (by omega) (by omega)
  obtain ⟨kk, hkk, hK⟩ := fold_nat K ((m : Int) + 1) (by omega) (by omega)
  have HF := hide hF
  have HK := hide hK
  clear hA hl hF hK
  have hm32 : m ≤ 32 := by omega
  have hm6 : m ≤ 6 := by omega
  have hm63 : (m : Int) < 64 := by omega
  have hm0 : (0 : Int) ≤ (m : Int) := by omega
  obtain ⟨S, hS⟩ : ∃ S : Nat, S = 2 ^ m := ⟨_, rfl⟩
  have hS64 : S ≤ 64 := by rw [hS]; exact Nat.pow_le_pow_right (n := 2) (by omega) hm6
  have hwS : wrap64 ((2 : Int) ^ m) = (S : Int) := by
    have e : ((2 : Int) ^ m) = (S : Int) := by rw [hS]; push_cast; rfl
    rw [e]
    exact IntWalk.wrap64_in _ ⟨by omega, by omega⟩
  have HSS := hide hS
  clear hS
  go_enter Try.func10, Try.ntmps10
  go_upto_region 2 with (first
    | (go_at_call 16; refine (chancem_any _ w.heap.size A n c l 0 HP.out (by omega)).mono ?_; rintro e w1 ⟨c1, r, rfl, ho1, hc1, -, hf⟩; have HB1 := hide (fr_new rfl hf); have HO1 := hide ho1; have HC1 := hide hc1; clear ho1 hc1 hf)
    | (go_at_call 12; (with_reducible refine (HF.out _).mono ?_); rintro e w' ⟨rfl, rfl⟩))
  generalize hW : World.alloc w1 _ = v1
  have HX1 := hide (show BX w v1 [(w1.heap.size, c1, some r)] by rw [← hW]; exact (BX.push ⟨HB1.out, by simp⟩ HO1.out 26 rfl))
  clear hW HO1 HB1
  have hvz := (HX1.out.get 0 rfl).b.sz
  go_wp2_with (go_at_call 12; (with_reducible refine (HK.out _).mono ?_); rintro e w' ⟨rfl, rfl⟩)
  go_loopw [8, 9] (fun s i wr => ∃ (x k cc : Nat) (A : Option Addr) (fs : List Fa), s = .slice A k cc ∧ i = .int .i64 (x : Int) ∧ x ≤ S ∧ Hid (OFr v1 wr A k cc fs (trm r m (fun i => decide (i = kk)) x))) (fun _ i _ => S - (intOf i).toNat)
  case atStart => exact ⟨0, 0, 0, none, [], rfl, rfl, by omega, hide (OFr.nil (Fr.refl _ _))⟩
  case round =>
    obtain ⟨x, k, cc, A, fs, rfl, rfl, hx, HO⟩ := hrel
    have H5 := hide ((HX1.out.get 0 rfl).fr0 HO.out.fr)
    obtain ⟨p0, p1, pf, pz, -⟩ := H5.out.b
    have hkx := trm_len r m (fun i => decide (i = kk)) x
    rw [HO.out.lo] at hkx
    by_cases hxn : x = S
    · subst hxn
      have HE := hide (show sumQ (trm r m (fun i => decide (i = kk)) x) = tot r m (fun i => decide (i = kk)) by rw [HSS.out, trm_tot])
      have HFT := hide (show ∀ j, j ≤ k → fitsR (sumQ ((trm r m (fun i => decide (i = kk)) x).take j)) = true from fun j _ => by rw [HSS.out]; exact trm_fit HC1.out hm32 _ j)
      have HBW := hide (HX1.out.bw.trans ((HO.out.fr.below (Nat.le_refl _) (fun _ _ h => h)).mono HX1.out.bw.size))
      have HNUM := hide (show ch m kk = k by rw [← HO.out.lo, HSS.out, trm_num])
      have HCL := hide (show chooseL (m : Int) (kk : Int) = lm k by unfold chooseL; rw [if_neg (by omega), if_neg (by omega), Int.toNat_natCast, Int.toNat_natCast, HNUM.out])
      have HCE := hide (show chooseE (m : Int) = 0 from if_neg (by omega))
      have hwk : wrap64 (k : Int) = (k : Int) := IntWalk.wrap64_in _ ⟨by omega, by omega⟩
      go_upto_region 20 with (go_at_call 39; (with_reducible refine (fsum_ok _ A k cc fs _ HO.out.sl (by omega) HFT.out).mono ?_); rintro e w2 ⟨c2, rfl, ho, hb⟩; rw [HE.out] at ho; have HO2 := hide ho; have HB2 := hide (HBW.out.trans (hb.mono HBW.out.size)); have H52 := hide (H5.out.below hb); clear ho hb)
      generalize hW : World.alloc w2 _ = v2
      have HX2 := hide (show BX w v2 [(w2.heap.size, c2, some (tot r m fun i => decide (i = kk))), (w1.heap.size, c1, some r)] by
        rw [← hW]
        refine BX.push ⟨HB2.out, fun y hy => ?_⟩ HO2.out 26 rfl
        simp at hy
        subst hy
        exact H52.out)
      clear hW HO2 HB2 H52 HBW HFT HE
      obtain ⟨_, _, _, _, -⟩ := (HX2.out.get 1 rfl).b
      go_upto_region 21 with (go_at_call 17; (with_reducible refine (exactly_okI _ c1 r m kk (HX2.out.get 1 rfl).o HC1.out hm32).mono ?_); rintro e w3 ⟨c3, rfl, ho, hb⟩; have HO3 := hide ho; have HX3 := hide (HX2.out.below hb); clear ho hb)
      generalize hW : World.alloc w3 _ = v3
      have HX4 := hide (show BX w v3 [(w3.heap.size, c3, some (tot r m fun i => decide (i = kk))), (w2.heap.size, c2, some (tot r m fun i => decide (i = kk))), (w1.heap.size, c1, some r)] by rw [← hW]; exact HX3.out.push HO3.out 26 rfl)
      clear hW HO3 HX2 HX3
      go_wp2_with (first
        | (go_at_call 25; (with_reducible refine (choose_any _ (m : Int) (kk : Int)).mono ?_); rintro e w5 ⟨A5, m5, d5, he, hd5, hm5, hu, hb⟩; rw [HCE.out] at he; rw [HCL.out] at hu; subst he; have HU5 := hide hu; have HX5 := hide (HX4.out.below hb); obtain ⟨_, _, _, _, -⟩ := (HX5.out.get 0 rfl).b; obtain ⟨_, _, _, _, -⟩ := (HX5.out.get 1 rfl).b; clear hu hb)
        | (go_at_call 40; (with_reducible refine (uint_ok _ A5 m5 d5 k HU5.out (by omega)).mono ?_); rintro e w6 ⟨rfl, rfl⟩)
        | (go_at_call 22; (with_reducible refine (samefrac_eq _ c2 c3 _ (HX5.out.get 1 rfl).o (HX5.out.get 0 rfl).o).mono ?_); rintro e w7 ⟨rfl, hb⟩; have HX6 := hide (HX5.out.below hb); clear hb)
        | (go_at_call 15; (with_reducible refine (known_any _).mono ?_); rintro e w8 ⟨rfl, hb⟩; have HX7 := hide (HX6.out.below hb); clear hb))
      go_ret
      exact ⟨rfl, HX7.out.bw⟩
    · have hxS : x < S := by omega
      have hlt : (x : Int) < (S : Int) := by omega
      go_wp2_with (go_at_call 38; (with_reducible refine (bits_any _ x m (by omega) (by omega)).mono ?_); rintro e w2 ⟨A2, c2, rfl, hr, hb⟩; have HR2 := hide hr; have HO2 := hide (HO.out.below hb); have H52 := hide (H5.out.below hb); clear hr hb)
      go_loopw [11, 12] (fun f i W => ∃ j : Nat, f = .int .i64 (cntL ((bitL x m).take j) : Int) ∧ i = .int .i64 (j : Int) ∧ j ≤ m ∧ W = w2) (fun _ i _ => m - (intOf i).toNat)
      case atStart => exact ⟨0, rfl, rfl, by omega, rfl⟩
      case round =>
        obtain ⟨j, rfl, rfl, hj, rfl⟩ := hrel
        by_cases hjm : j = m
        · subst hjm
          rw [List.take_of_length_le (by rw [bitL_len]; omega)]
          have hcl := cntL_le (bitL x j)
          rw [bitL_len] at hcl
          have HTR := hide (trm_succ r j (fun i => decide (i = kk)) x)
          obtain ⟨q, hq⟩ : ∃ q, q = cntL (bitL x j) := ⟨_, rfl⟩
          rw [← hq] at HTR hcl ⊢
          clear hq
          obtain ⟨y0, y1, yf, yz, -⟩ := H52.out.b
          by_cases hqk : q = kk
          · have hq2 : ((q : Int) == (kk : Int)) = true := by simp [hqk]
            rw [decide_eq_true hqk, if_pos rfl] at HTR
            clear hqk
            go_upto_region 15 with (go_at_call 36; (with_reducible refine (seq_ok _ c1 r A2 j c2 _ H52.out.o HR2.out (bitL_len x j) hm32 HC1.out).mono ?_); rintro e w3 ⟨c3, rfl, ho, hb⟩; have HO3 := hide ho; have HR3 := hide (HO2.out.below hb); clear ho hb)
            generalize hW : World.alloc w3 _ = v3
            have HR4 := hide (show OFr v1 v3 A k cc fs (trm r j (fun i => decide (i = kk)) x) by rw [← hW]; exact HR3.out.alloc _)
            have HX3 := hide (show Fx v3 w3.heap.size c3 (some (sqL r (bitL x j))) by rw [← hW]; exact Fx.mk0 HO3.out 26 rfl)
            clear hW HO3 HR3
            obtain ⟨z0, z1, zf, zz, -⟩ := HX3.out.b
            go_wp2_with (at_builtin; refine wl_app_frac (w0 := v1) rfl _ _ _ Try.underlying40 rfl A k cc fs _ c3 (sqL r (bitL x j)) rfl rfl HR4.out HX3.out.o (by omega) ?_; intro A4 d4 w4 ho2 _ _; have HO4 := hide ho2; clear ho2)
            go_roundw
            case rel => exact ⟨x + 1, k + 1, d4, A4, _, rfl, by go_num, by omega, hide (by rw [HTR.out]; exact HO4.out)⟩
            case measure => simp [intOf]; omega
          · have hq2 : ((q : Int) == (kk : Int)) = false := by simp; omega
            rw [decide_eq_false hqk, if_neg (by simp)] at HTR
            clear hqk
            go_wp2_with (go_at_call 36; (with_reducible refine (seq_ok _ c1 r A2 j c2 _ H52.out.o HR2.out (bitL_len x j) hm32 HC1.out).mono ?_); rintro e w3 ⟨c3, rfl, ho, hb⟩; have HO3 := hide ho; have HR3 := hide (HO2.out.below hb); clear ho hb)
            go_roundw
            case rel => exact ⟨x + 1, k, cc, A, fs, rfl, by go_num, by omega, hide (by rw [HTR.out]; exact HR3.out.alloc _)⟩
            case measure => simp [intOf]; omega
        · have hjl : j < (bitL x m).length := by rw [bitL_len]; omega
          have hlt2 : (j : Int) < (m : Int) := by omega
          have hj0 : (0 : Int) ≤ (j : Int) := by omega
          obtain ⟨b, o, rfl, -, hb, hcell⟩ := bools_at HR2.out hjl
          have hcl := cntL_le ((bitL x m).take j)
          have hcl2 : cntL ((bitL x m).take j) ≤ 64 := by
            have : ((bitL x m).take j).length ≤ j := by simp; omega
            omega
          have HCT := hide (cntL_take (List.getElem?_eq_getElem hjl))
          obtain ⟨bb, hbb⟩ : ∃ bb, bb = (bitL x m)[j] := ⟨_, rfl⟩
          rw [← hbb] at hcell HCT
          obtain ⟨q, hq⟩ : ∃ q, q = cntL ((bitL x m).take j) := ⟨_, rfl⟩
          rw [← hq] at HCT hcl2 ⊢
          clear hbb hq hcl
          cases bb
          · go_wp2_with fail
            go_roundw
            case rel => exact ⟨j + 1, by rw [HCT.out]; rfl, by go_num, by omega, by first | rfl | trivial⟩
            case measure => simp [intOf]; omega
          · go_wp2_with fail
            go_roundw
            case rel => exact ⟨j + 1, by rw [HCT.out]; go_num, by go_num, by omega, by first | rfl | trivial⟩
            case measure => simp [intOf]; omega
end Go.Proofs.Ytclflfglhbkfkaa
