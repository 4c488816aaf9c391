/- Contracts of the functions that these laws reach: part 8: Contract: the reference's place. -/
import Derived.Test.YtnokfhkcfebimaaGreatP7
import Derived.BigQuiet
set_option linter.unusedVariables false
set_option linter.unusedSimpArgs false

/- Contract: the reference's place. -/
namespace Go.Proofs.YtnokfhkcfebimaaGreat
open Go.RowKit

theorem ofInt_u64 (a : Nat) (ha : a < 18446744073709551616) : (BitVec.ofInt 64 (a : Int)).toNat = a := by
  rw [BitVec.ofInt_natCast, BitVec.toNat_ofNat]; exact Nat.mod_eq_of_lt (by omega)
theorem u64_and32 (a : Nat) (ha : a < 18446744073709551616) : bits .and .u64 (a : Int) 4294967295 = ((a % 4294967296 : Nat) : Int) := by
  show IntKind.u64.wrap ((BitVec.ofInt 64 (a : Int) &&& BitVec.ofInt 64 4294967295).toNat : Int) = _
  rw [BitVec.toNat_and, ofInt_u64 a ha, show (BitVec.ofInt 64 4294967295).toNat = 2 ^ 32 - 1 from rfl, Nat.and_two_pow_sub_one_eq_mod, IntKind.wrap_u64]
  omega
theorem place_dig {q x c y b : Nat} (hy : y < 4294967296) (hb : b ≤ 1) (hP : q * x + c < 18446744073709551616) : ∃ d w lo : Nat, d < 4294967296 ∧ w ≤ 1 ∧ lo < 4294967296 ∧ bits .and .u64 ((c : Int) + (q : Int) * (x : Int)) 4294967295 = (lo : Int) ∧ IntKind.u64.wrap (IntKind.u64.wrap ((y : Int) - (lo : Int)) - (b : Int)) % 4294967296 = (d : Int) ∧
    IntKind.u64.wrap (IntKind.u64.wrap ((y : Int) - (lo : Int)) - (b : Int)) / 9223372036854775808 = (w : Int) ∧ d + b + (q * x + c) % 4294967296 = y + 4294967296 * w := by
  obtain ⟨d, w, h1, h2, h3, h4, h5⟩ := sub_dig (q := (q * x + c) % 4294967296) hy hb (by omega)
  have e : (c : Int) + (q : Int) * (x : Int) = ((q * x + c : Nat) : Int) := by rw [Int.natCast_add, Int.natCast_mul]; omega
  have e2 : IntKind.u64.wrap (IntKind.u64.wrap ((y : Int) - (((q * x + c) % 4294967296 : Nat) : Int)) - (b : Int)) = IntKind.u64.wrap (IntKind.u64.wrap ((y : Int) - (b : Int)) - (((q * x + c) % 4294967296 : Nat) : Int)) := by
    simp only [IntKind.wrap_u64]
    omega
  exact ⟨d, w, (q * x + c) % 4294967296, h1, h2, by omega, by rw [e]; exact u64_and32 _ hP, by rw [e2]; exact h3, by rw [e2]; exact h4, h5⟩
theorem place_top {y c b : Nat} (hy : y < 4294967296) (hb : b ≤ 1) (hc : c < 4294967296) : ∃ d w : Nat, d < 4294967296 ∧ w ≤ 1 ∧ IntKind.u64.wrap (IntKind.u64.wrap ((y : Int) - (c : Int)) - (b : Int)) % 4294967296 = (d : Int) ∧
    IntKind.u64.wrap (IntKind.u64.wrap ((y : Int) - (c : Int)) - (b : Int)) / 9223372036854775808 = (w : Int) ∧ d + b + c = y + 4294967296 * w := by
  obtain ⟨d, w, h1, h2, h3, h4, h5⟩ := sub_dig (q := c) hy hb hc
  have e2 : IntKind.u64.wrap (IntKind.u64.wrap ((y : Int) - (c : Int)) - (b : Int)) = IntKind.u64.wrap (IntKind.u64.wrap ((y : Int) - (b : Int)) - (c : Int)) := by
    simp only [IntKind.wrap_u64]
    omega
  exact ⟨d, w, h1, h2, by rw [e2]; exact h3, by rw [e2]; exact h4, h5⟩
set_option maxRecDepth 100000 in
set_option maxHeartbeats 8000000 in
theorem r1place_any (w0 w : World) (g N C j m : Nat) (B : Option Addr) (d : Nat) (us vs : List Nat) (q : Nat) (hO : OF w0 w (some ⟨g, 0, none⟩) N C us) (hV : Ul w (some g) B m vs) (hj : j + m < N) (hN : N ≤ 4294967296) (hq : q < 4294967296)
    (hVp : 0 < lv vs) (h1 : lv ((us.drop j).take (m + 1)) / lv vs ≤ q) (h2 : q ≤ lv ((us.drop j).take (m + 1)) / lv vs + 1) :
    Calls Tryz.prog 163 #[.slice (some ⟨g, 0, none⟩) N C, .slice B m d, .int .i64 (j : Int), .int .u64 (q : Int)] w fun e w' => ∃ (s : List Nat) (D : Nat), e = .returned (.int .u32 (D : Int)) ∧ Hid (D = lv ((us.drop j).take (m + 1)) / lv vs) ∧ D < 4294967296 ∧ s.length = m + 1 ∧ lv s = lv ((us.drop j).take (m + 1)) % lv vs ∧ OF w0 w' (some ⟨g, 0, none⟩) N C (splice us j s) ∧ Fr w w' (fun b => b = g) := by
  have HV := hide hV
  have HO := hide hO
  have HVP := hide hVp
  have HQ1 := hide h1
  have HQ2 := hide h2
  obtain ⟨S, hS⟩ : ∃ S, S = (us.drop j).take (m + 1) := ⟨_, rfl⟩
  rw [← hS] at HQ1 HQ2 ⊢
  have HS := hide hS
  have hSl : S.length = m + 1 := by rw [hS, List.length_take, List.length_drop]; have := hO.len; omega
  have HSL := hide hSl
  clear hV hO hVp h1 h2 hS hSl
  have hUN := hide HO.out.len
  go_enter Tryz.func163, Tryz.ntmps163
  go_wp2_with fail
  go_loopw [9, 10, 11, 12] (fun car bor ix xx wr => ∃ (i b c : Nat) (n : List Nat), i ≤ m ∧ b ≤ 1 ∧ c < 4294967296 ∧ bor = .int .u64 (b : Int) ∧ car = .int .u64 (c : Int) ∧ ix = .int .i64 (i : Int) ∧ Hid (n.length = i) ∧ Hid (okL n) ∧ Hid (lv n + q * lv (vs.take i) = lv (S.take i) + 4294967296 ^ i * (c + b)) ∧ Hid (OF w0 wr (some ⟨g, 0, none⟩) N C (splice us j n)) ∧ Hid (Fr w wr (fun b => b = g))) (fun _ _ ix _ _ => m - (intOf ix).toNat)
  case atStart => exact ⟨0, 0, 0, [], by omega, by omega, by omega, rfl, rfl, rfl, hide rfl, hide okL_nil, hide (by simp [lv]), hide (by rw [splice_nil]; exact HO.out), hide (Fr.refl _ _)⟩
  case round =>
    obtain ⟨i, b, c, n, hi, hb, hc, rfl, rfl, rfl, HNL, HNK, HI, HO1, HF⟩ := hrel
    have HV1 := hide (HV.out.fr HF.out (fun _ b o _ hne h => hne (by rw [h])))
    obtain ⟨g', y, hg, -, hgl, hy, hyl, hcy, hfz⟩ := HO1.out.at (k := j + i) (by omega)
    obtain rfl : g = g' := by simpa using hg
    have hy2 : S[i]? = some y := by rw [HS.out, seg_get (by omega), ← splice_get (by rw [HNL.out, hUN.out]; omega) (Nat.le_of_eq HNL.out)]; exact hy
    have HY := hide hy2
    have hfz0 := hfz (j + i)
    clear hfz hy hg hy2
    by_cases him : i < m
    · obtain ⟨b2, o2, x, rfl, -, -, hx, hxl, hcx⟩ := HV1.out.at him
      have HX := hide hx
      clear hx
      have g1 : (0 : Int) ≤ (i : Int) := by omega
      have g2 : (i : Int) < (m : Int) := by omega
      have g3 : (0 : Int) ≤ (i : Int) + (j : Int) := by omega
      have g4 : (i : Int) + (j : Int) < (N : Int) := by omega
      obtain ⟨hm1, hm2⟩ := mul_le hq hxl
      obtain ⟨hd1, hd2⟩ := dig_lt hq hxl hc
      obtain ⟨e, b', lo, he, hb', hlo, r0, r1, r2, r3⟩ := place_dig (q := q) (x := x) (c := c) hyl hb hd2
      have R1 := hide r1
      have R2 := hide r2
      have R3 := hide r3
      have hD1 := hide hd1
      have hcs : IntKind.u64.wrap ((c : Int) + (q : Int) * (x : Int)) = (c : Int) + (q : Int) * (x : Int) := by
        have e : (c : Int) + (q : Int) * (x : Int) = ((q * x + c : Nat) : Int) := by rw [Int.natCast_add, Int.natCast_mul]; omega
        rw [e, IntKind.wrap_u64]; omega
      clear r1 r2 r3 hd1 hd2
      rw [Nat.add_comm j i] at hcy hfz0
      go_wp2_with fail
      refine ⟨?_, by simp [intOf] <;> omega⟩
      have hp := HO1.out.put (k := j + i) (x := e) (by omega) he
      rw [← R1.out, ← HNL.out, splice_set (by rw [HNL.out, hUN.out]; omega)] at hp
      rw [HNL.out, Nat.add_comm j i] at hp
      refine ⟨i + 1, b', (q * x + c) / 4294967296, n ++ [e], by omega, hb', hD1.out, vint R2.out, vint (by rw [Int.natCast_ediv, Int.natCast_add, Int.natCast_mul, Int.add_comm]; rfl), by go_num, hide (by simp [HNL.out]), hide (HNK.out.append (by intro z hz; simp at hz; omega)), hide (red_step HNL.out HX.out HY.out HI.out rfl R3.out), hide hp, hide ?_⟩
      exact Fr.setCell HF.out (Or.inr rfl) _
    · obtain rfl : i = m := by omega
      have gt1 : (0 : Int) ≤ (j : Int) + (i : Int) := by omega
      have gt2 : (j : Int) + (i : Int) < (N : Int) := by omega
      obtain ⟨e, b', he, hb', r1, r2, r3⟩ := place_top hyl hb hc
      have hput := HO1.out.put (k := j + i) (x := e) (by omega) he
      rw [← r1, ← HNL.out, splice_set (by rw [HNL.out, hUN.out]; omega)] at hput
      rw [HNL.out] at hput
      have HP := hide hput
      have hff := hide (Fr.setCell (p := ⟨g, j + i, none⟩) HF.out (Or.inr rfl) (.int .u32 (IntKind.u64.wrap (IntKind.u64.wrap ((y : Int) - (c : Int)) - (b : Int)) % 4294967296)))
      clear hput
      by_cases hb0 : b' = 0
      · subst hb0
        have d1 : (IntKind.u64.wrap (IntKind.u64.wrap ((y : Int) - (c : Int)) - (b : Int)) / 9223372036854775808 == 0) = true := by rw [r2]; rfl
        have he2 : e = y - b - c ∧ c + b ≤ y := by omega
        have HE := hide he2
        have g5 : (q : Int) % 4294967296 = (q : Int) := by omega
        clear r1 r2 r3 he2
        go_wp2_with fail
        go_ret
        have hr := red_no HNL.out HSL.out HV.out.len HY.out rfl rfl HI.out HE.out.2
        rw [← HE.out.1] at hr
        obtain ⟨hq3, hm3⟩ := red_q HVP.out HQ1.out hr
        exact ⟨n ++ [e], q, rfl, hide hq3, hq, by simp [HNL.out], hm3, HP.out, hff.out⟩
      · obtain rfl : b' = 1 := by omega
        have d1 : (IntKind.u64.wrap (IntKind.u64.wrap ((y : Int) - (c : Int)) - (b : Int)) / 9223372036854775808 == 0) = false := by rw [r2]; rfl
        have HE := hide r3
        clear r1 r2 r3
        go_wp2_with fail
        generalize hWW : World.setCell wr _ _ = wq
        rw [hWW] at HP hff
        clear hWW hcy hfz0 d1 HO1 HF HV1
        have hRl : (splice us j (n ++ [e])).length = N := by rw [splice_len (by simp [HNL.out, hUN.out]; omega), hUN.out]
        have HRL := hide hRl
        obtain ⟨R, hR⟩ : ∃ R, R = splice us j (n ++ [e]) := ⟨_, rfl⟩
        rw [← hR] at HP HRL
        have HR := hide hR
        clear hRl hR
        go_loopw [14, 15] (fun car ix wr => ∃ (i' c' : Nat) (n' : List Nat), i' ≤ i ∧ c' ≤ 1 ∧ car = .int .u64 (c' : Int) ∧ ix = .int .i64 (i' : Int) ∧ Hid (n'.length = i') ∧ Hid (okL n') ∧ Hid (lv n' + 4294967296 ^ i' * c' = lv (n.take i') + lv (vs.take i')) ∧ Hid (OF w0 wr (some ⟨g, 0, none⟩) N C (splice R j n')) ∧ Hid (Fr w wr (fun b => b = g))) (fun _ ix _ => i - (intOf ix).toNat)
        case atStart => exact ⟨0, 0, [], by omega, by omega, rfl, rfl, hide rfl, hide okL_nil, hide (by simp [lv]), hide (by rw [splice_nil]; exact HP.out), hff⟩
        case round =>
          obtain ⟨i', c', n', hi', hc', rfl, rfl, HNL2, HNK2, HI2, HO2, HF2⟩ := hrel
          have HV2 := hide (HV.out.fr HF2.out (fun _ b o _ hne h => hne (by rw [h])))
          obtain ⟨g', z, hg, -, hgl2, hz, hzl, hcz, hfz⟩ := HO2.out.at (k := j + i') (by omega)
          obtain rfl : g = g' := by simpa using hg
          have hz2 : (n ++ [e])[i']? = some z := by
            rw [splice_get (by rw [HNL2.out, HRL.out]; omega) (Nat.le_of_eq HNL2.out), HR.out, splice_in (by simp [HNL.out, hUN.out]; omega) (by simp [HNL.out]; omega)] at hz
            exact hz
          have HZ := hide hz2
          have hfz0 := hfz (j + i')
          clear hfz hz hg hz2
          by_cases him2 : i' < i
          · obtain ⟨b2, o2, x, rfl, -, -, hx, hxl, hcx⟩ := HV2.out.at him2
            have HX := hide hx
            clear hx
            have g1 : (0 : Int) ≤ (i' : Int) := by omega
            have g2 : (i' : Int) < (i : Int) := by omega
            have g3 : (0 : Int) ≤ (i' : Int) + (j : Int) := by omega
            have g4 : (i' : Int) + (j : Int) < (N : Int) := by omega
            have HZ2 := hide (show n[i']? = some z by
              have h := HZ.out
              rwa [List.getElem?_append_left (by rw [HNL.out]; omega)] at h)
            rw [Nat.add_comm j i'] at hcz hfz0
            go_upto_region 17 with (fail)
            go_quiet (fail)
            go_wp2_with fail
            refine ⟨?_, by simp [intOf] <;> omega⟩
            have hp := (HO2.out.drewN nq).put (k := j + i') (x := (z + x + c') % 4294967296) (by omega) (by omega)
            have e2 : (((z + x + c') % 4294967296 : Nat) : Int) = ((c' : Int) + ((z : Int) + (x : Int))) % 4294967296 := by omega
            rw [e2, ← HNL2.out, splice_set (by rw [HNL2.out, HRL.out]; omega)] at hp
            rw [HNL2.out, Nat.add_comm j i'] at hp
            refine ⟨i' + 1, (z + x + c') / 4294967296, n' ++ [(z + x + c') % 4294967296], by omega, by omega, vint (by omega), by go_num, hide (by simp [HNL2.out]), hide (HNK2.out.append (by intro z hz; simp at hz; omega)), hide (back_step HNL2.out HX.out HZ2.out HI2.out rfl), hide hp, hide (Fr.setCell (HF2.out.drewN nq) (Or.inr rfl) _)⟩
          · obtain rfl : i' = i := by omega
            obtain rfl : z = e := by
              have h := HZ.out
              rw [List.getElem?_append_right (by rw [HNL.out]; omega), HNL.out, Nat.sub_self] at h
              simpa using h.symm
            have g5 : (c' : Int) % 4294967296 = (c' : Int) := by omega
            have hi2 := HI2.out
            rw [List.take_of_length_le (by have := HNL.out; omega), List.take_of_length_le (by have := HV.out.len; omega)] at hi2
            have hbe := back_end (n' := n') (c' := c') (z := (z + c') % 4294967296) HNK.out HNK2.out HNL.out HNL2.out HSL.out HV.out.len HY.out rfl rfl HI.out hi2 (by have := HE.out; omega) (by omega) ⟨(z + c') / 4294967296, by have := HE.out; omega⟩ HQ2.out HVP.out (by have := lv_lt HV.out.ok; rwa [HV.out.len] at this)
            have HB := hide hbe
            have hq1 : 1 ≤ q := by rw [hbe.1]; exact Nat.le_add_left 1 _
            have g6 : ((q : Int) - 1) % 4294967296 = (q : Int) - 1 := by omega
            have hp := HO2.out.put (k := j + i') (x := (z + c') % 4294967296) (by omega) (by omega)
            rw [← HNL2.out, splice_set (by rw [HNL2.out, HRL.out]; omega), HR.out, splice_splice (by simp [HNL.out, hUN.out]; omega) (by simp [HNL.out, HNL2.out])] at hp
            rw [HNL2.out] at hp
            have g7 : IntKind.u32.wrap ((z : Int) + (c' : Int)) = (((z + c') % 4294967296 : Nat) : Int) := by rw [IntKind.wrap_u32]; omega
            have HPP := hide hp
            clear hbe hi2 hp
            go_wp2_with fail
            go_ret
            exact ⟨n' ++ [(z + c') % 4294967296], q - 1, by rw [Int.natCast_sub hq1]; rfl, hide (by have := HB.out.1; generalize lv S / lv vs = D at *; omega), by omega, by simp [HNL2.out], HB.out.2, HPP.out, Fr.setCell HF2.out (Or.inr rfl) _⟩
end Go.Proofs.YtnokfhkcfebimaaGreat
