/- Contracts of the functions that these laws reach: part 5: Contracts: limbs.reduce; Contracts: bits.Len32, LeadingZeros32, Len; Contracts: slices.Clone of limbs, limbs.Divide. -/
import Derived.Test.YtclflfglhbkfkaaG4
import Derived.Lib.SliceRun
import Derived.Deep.RegionWith
import Derived.Deep.RegionHeld3
set_option linter.unusedVariables false
set_option linter.unusedSimpArgs false

/- Contracts: limbs.reduce. -/
namespace Go.Proofs.Ytclflfglhbkfkaa
open Go.RowKit

/-- us with n laid over it from j on. -/
def splice (us : List Nat) (j : Nat) (n : List Nat) : List Nat := us.take j ++ n ++ us.drop (j + n.length)
theorem splice_nil (us : List Nat) (j : Nat) : splice us j [] = us := by simp [splice]
theorem splice_len {us n : List Nat} {j : Nat} (h : j + n.length ≤ us.length) : (splice us j n).length = us.length := by
  simp [splice]; omega
theorem splice_set {us n : List Nat} {j d : Nat} (h : j + n.length < us.length) : (splice us j n).set (j + n.length) d = splice us j (n ++ [d]) := by
  unfold splice
  have e : (us.take j ++ n).length = j + n.length := by simp; omega
  rw [List.set_append_right _ _ (by rw [e]; omega), e, Nat.sub_self, List.drop_eq_getElem_cons h, List.set_cons_zero]
  simp [Nat.add_assoc]
theorem splice_get {us n : List Nat} {j i : Nat} (h : j + n.length ≤ us.length) (hi : n.length ≤ i) : (splice us j n)[j + i]? = us[j + i]? := by
  unfold splice
  have e : (us.take j ++ n).length = j + n.length := by simp; omega
  rw [List.getElem?_append_right (by rw [e]; omega), e, List.getElem?_drop]
  congr 1; omega
theorem splice_in {us n : List Nat} {j i : Nat} (h : j + n.length ≤ us.length) (hi : i < n.length) : (splice us j n)[j + i]? = n[i]? := by
  unfold splice
  have e : (us.take j ++ n).length = j + n.length := by simp; omega
  rw [List.getElem?_append_left (by rw [e]; omega), List.getElem?_append_right (by simp; omega)]
  congr 1
  simp; omega
theorem splice_splice {us n n' : List Nat} {j : Nat} (h : j + n.length ≤ us.length) (hl : n'.length = n.length) : splice (splice us j n) j n' = splice us j n' := by
  unfold splice
  have e1 : (us.take j).length = j := by simp; omega
  have e2 : (us.take j ++ n).length = j + n.length := by simp; omega
  have e3 : (us.take j ++ n ++ us.drop (j + n.length)).take j = us.take j := by
    rw [List.append_assoc, List.take_append_of_le_length (by omega), List.take_of_length_le (by omega)]
  have e4 : (us.take j ++ n ++ us.drop (j + n.length)).drop (j + n'.length) = us.drop (j + n'.length) := by
    rw [hl, List.drop_append_of_le_length (by omega), List.drop_of_length_le (by omega), List.nil_append]
  rw [e3, e4]
theorem seg_get {us : List Nat} {j m i : Nat} (h : i < m) : ((us.drop j).take m)[i]? = us[j + i]? := by
  rw [List.getElem?_take, if_pos h, List.getElem?_drop]
theorem dig_lt {q x c : Nat} (hq : q < 4294967296) (hx : x < 4294967296) (hc : c < 4294967296) : (q * x + c) / 4294967296 < 4294967296 ∧ q * x + c < 18446744073709551616 := by
  have : q * x ≤ 4294967295 * 4294967295 := Nat.mul_le_mul (by omega) (by omega)
  omega
theorem red_dig {q x c y b : Nat} (hy : y < 4294967296) (hb : b ≤ 1) : ∃ d w : Nat, d < 4294967296 ∧ w ≤ 1 ∧ IntKind.u64.wrap (IntKind.u64.wrap ((y : Int) - (b : Int)) - ((q : Int) * (x : Int) + (c : Int)) % 4294967296) % 4294967296 = (d : Int) ∧
    IntKind.u64.wrap (IntKind.u64.wrap ((y : Int) - (b : Int)) - ((q : Int) * (x : Int) + (c : Int)) % 4294967296) / 9223372036854775808 = (w : Int) ∧ d + b + (q * x + c) % 4294967296 = y + 4294967296 * w := by
  obtain ⟨d, w, h1, h2, h3, h4, h5⟩ := sub_dig (q := (q * x + c) % 4294967296) hy hb (by omega)
  have e : (((q * x + c) % 4294967296 : Nat) : Int) = ((q : Int) * (x : Int) + (c : Int)) % 4294967296 := by omega
  rw [e] at h3 h4
  exact ⟨d, w, h1, h2, h3, h4, h5⟩

set_option maxRecDepth 100000 in
set_option maxHeartbeats 4000000 in
theorem lreduce_any (w0 w : World) (g N C j m cu : Nat) (B : Option Addr) (d : Nat) (us vs : List Nat) (q : Nat) (hO : OF w0 w (some ⟨g, 0, none⟩) N C us) (hV : Ul w (some g) B m vs) (hj : j + m < N) (hN : N ≤ 4294967296) (hq : q < 4294967296)
    (hVp : 0 < lv vs) (h1 : lv ((us.drop j).take (m + 1)) / lv vs ≤ q) (h2 : q ≤ lv ((us.drop j).take (m + 1)) / lv vs + 1) :
    Calls Try.prog 104 #[.slice (some ⟨g, j, none⟩) (m + 1) cu, .slice B m d, .int .u64 (q : Int)] w fun e w' => ∃ (s : List Nat) (D : Nat), e = .returned (.int .u32 (D : Int)) ∧ Hid (D = lv ((us.drop j).take (m + 1)) / lv vs) ∧ D < 4294967296 ∧ s.length = m + 1 ∧ lv s = lv ((us.drop j).take (m + 1)) % lv vs ∧ OF w0 w' (some ⟨g, 0, none⟩) N C (splice us j s) ∧ Fr w w' (fun b => b = g) := by
  have HV := hide hV
  have HO := hide hO
  have HVP := hide hVp
  have HQ1 := hide h1
  have HQ2 := hide h2
  obtain ⟨S, hS⟩ : ∃ S, S = (us.drop j).take (m + 1) := ⟨_, rfl⟩
  rw [← hS] at HQ1 HQ2 ⊢
  have HS := hide hS
  have hSl : S.length = m + 1 := by rw [hS, List.length_take, List.length_drop]; have := hO.len; omega
  have HSL := hide hSl
  clear hV hO hVp h1 h2 hS hSl
  have hUN := hide HO.out.len
  go_enter Try.func104, Try.ntmps104
  go_wp2
  go_loopw [7, 8, 19] (fun bor car ix wr => ∃ (i b c : Nat) (n : List Nat), i ≤ m ∧ b ≤ 1 ∧ c < 4294967296 ∧ bor = .int .u64 (b : Int) ∧ car = .int .u64 (c : Int) ∧ ix = .int .i64 (i : Int) ∧ Hid (n.length = i) ∧ Hid (okL n) ∧ Hid (lv n + q * lv (vs.take i) = lv (S.take i) + 4294967296 ^ i * (c + b)) ∧ Hid (OF w0 wr (some ⟨g, 0, none⟩) N C (splice us j n)) ∧ Hid (Fr w wr (fun b => b = g))) (fun _ _ ix _ => m - (intOf ix).toNat)
  case atStart => exact ⟨0, 0, 0, [], by omega, by omega, by omega, rfl, rfl, rfl, hide rfl, hide okL_nil, hide (by simp [lv]), hide (by rw [splice_nil]; exact HO.out), hide (Fr.refl _ _)⟩
  case round =>
    obtain ⟨i, b, c, n, hi, hb, hc, rfl, rfl, rfl, HNL, HNK, HI, HO1, HF⟩ := hrel
    have HV1 := hide (HV.out.fr HF.out (fun _ b o _ hne h => hne (by rw [h])))
    obtain ⟨g', y, hg, -, hgl, hy, hyl, hcy, hfz⟩ := HO1.out.at (k := j + i) (by omega)
    obtain rfl : g = g' := by simpa using hg
    have hy2 : S[i]? = some y := by rw [HS.out, seg_get (by omega), ← splice_get (by rw [HNL.out, hUN.out]; omega) (Nat.le_of_eq HNL.out)]; exact hy
    have HY := hide hy2
    have hfz0 := hfz (j + i)
    clear hfz hy hg hy2
    by_cases him : i < m
    · obtain ⟨b2, o2, x, rfl, -, -, hx, hxl, hcx⟩ := HV1.out.at him
      have HX := hide hx
      clear hx
      have g1 : (0 : Int) ≤ (i : Int) := by omega
      have g2 : (i : Int) < (m : Int) := by omega
      have g3 : (i : Int) < (m : Int) + 1 := by omega
      obtain ⟨hm1, hm2⟩ := mul_le hq hxl
      obtain ⟨e, b', he, hb', r1, r2, r3⟩ := red_dig (q := q) (x := x) (c := c) hyl hb
      have R1 := hide r1
      have R2 := hide r2
      have R3 := hide r3
      obtain ⟨hd1, hd2⟩ := dig_lt hq hxl hc
      have hD1 := hide hd1
      clear r1 r2 r3 hd1 hd2
      go_wp2
      go_roundw
      case rel =>
        have hp := HO1.out.put (k := j + i) (x := e) (by omega) he
        rw [← R1.out, ← HNL.out, splice_set (by rw [HNL.out, hUN.out]; omega)] at hp
        refine ⟨i + 1, b', (q * x + c) / 4294967296, n ++ [e], by omega, hb', hD1.out, vint R2.out, vint (by omega), by go_num, hide (by simp [HNL.out]), hide (HNK.out.append (by intro z hz; simp at hz; omega)), hide (red_step HNL.out HX.out HY.out HI.out rfl R3.out), hide ?_, hide ?_⟩
        · rw [HNL.out] at hp; exact hp
        · exact Fr.setCell HF.out (Or.inr rfl) _
      case measure => simp [intOf] <;> omega
    · obtain rfl : i = m := by omega
      have g3 : (i : Int) < (i : Int) + 1 := by omega
      obtain ⟨e, b', he, hb', r1, r2, r3⟩ := sub_dig (q := c) hyl hb hc
      have R1 := hide r1
      have hput := HO1.out.put (k := j + i) (x := e) (by omega) he
      rw [← r1, ← HNL.out, splice_set (by rw [HNL.out, hUN.out]; omega)] at hput
      rw [HNL.out] at hput
      have HP := hide hput
      have hff := hide (Fr.setCell (p := ⟨g, j + i, none⟩) HF.out (Or.inr rfl) (.int .u32 (IntKind.u64.wrap (IntKind.u64.wrap ((y : Int) - (b : Int)) - (c : Int)) % 4294967296)))
      clear hput
      by_cases hb0 : b' = 0
      · subst hb0
        have d1 : (IntKind.u64.wrap (IntKind.u64.wrap ((y : Int) - (b : Int)) - (c : Int)) / 9223372036854775808 == 0) = true := by rw [r2]; rfl
        have he2 : e = y - b - c ∧ c + b ≤ y := by omega
        have HE := hide he2
        have g5 : (q : Int) % 4294967296 = (q : Int) := by omega
        clear r1 r2 r3 he2
        go_wp2
        go_ret
        have hr := red_no HNL.out HSL.out HV.out.len HY.out rfl rfl HI.out HE.out.2
        rw [← HE.out.1] at hr
        obtain ⟨hq3, hm3⟩ := red_q HVP.out HQ1.out hr
        exact ⟨n ++ [e], q, rfl, hide hq3, hq, by simp [HNL.out], hm3, HP.out, hff.out⟩
      · obtain rfl : b' = 1 := by omega
        have d1 : (IntKind.u64.wrap (IntKind.u64.wrap ((y : Int) - (b : Int)) - (c : Int)) / 9223372036854775808 == 0) = false := by rw [r2]; rfl
        have HE := hide r3
        clear r1 r2 r3
        go_wp2
        generalize hWW : World.setCell wr _ _ = wq
        rw [hWW] at HP hff
        clear hWW hcy hfz0 d1 HO1 HF HV1 R1
        have hRl : (splice us j (n ++ [e])).length = N := by rw [splice_len (by simp [HNL.out, hUN.out]; omega), hUN.out]
        have HRL := hide hRl
        obtain ⟨R, hR⟩ : ∃ R, R = splice us j (n ++ [e]) := ⟨_, rfl⟩
        rw [← hR] at HP HRL
        have HR := hide hR
        clear hRl hR
        go_loopw [8, 74] (fun car ix wr => ∃ (i' c' : Nat) (n' : List Nat), i' ≤ i ∧ c' ≤ 1 ∧ car = .int .u64 (c' : Int) ∧ ix = .int .i64 (i' : Int) ∧ Hid (n'.length = i') ∧ Hid (okL n') ∧ Hid (lv n' + 4294967296 ^ i' * c' = lv (n.take i') + lv (vs.take i')) ∧ Hid (OF w0 wr (some ⟨g, 0, none⟩) N C (splice R j n')) ∧ Hid (Fr w wr (fun b => b = g))) (fun _ ix _ => i - (intOf ix).toNat)
        case atStart => exact ⟨0, 0, [], by omega, by omega, rfl, rfl, hide rfl, hide okL_nil, hide (by simp [lv]), hide (by rw [splice_nil]; exact HP.out), hff⟩
        case round =>
          obtain ⟨i', c', n', hi', hc', rfl, rfl, HNL2, HNK2, HI2, HO2, HF2⟩ := hrel
          have HV2 := hide (HV.out.fr HF2.out (fun _ b o _ hne h => hne (by rw [h])))
          obtain ⟨g', z, hg, -, hgl2, hz, hzl, hcz, hfz⟩ := HO2.out.at (k := j + i') (by omega)
          obtain rfl : g = g' := by simpa using hg
          have hz2 : (n ++ [e])[i']? = some z := by
            rw [splice_get (by rw [HNL2.out, HRL.out]; omega) (Nat.le_of_eq HNL2.out), HR.out, splice_in (by simp [HNL.out, hUN.out]; omega) (by simp [HNL.out]; omega)] at hz
            exact hz
          have HZ := hide hz2
          have hfz0 := hfz (j + i')
          clear hfz hz hg hz2
          by_cases him2 : i' < i
          · obtain ⟨b2, o2, x, rfl, -, -, hx, hxl, hcx⟩ := HV2.out.at him2
            have HX := hide hx
            clear hx
            have g1 : (0 : Int) ≤ (i' : Int) := by omega
            have g2 : (i' : Int) < (i : Int) := by omega
            have g4 : (i' : Int) < (i : Int) + 1 := by omega
            have HZ2 := hide (show n[i']? = some z by
              have h := HZ.out
              rwa [List.getElem?_append_left (by rw [HNL.out]; omega)] at h)
            go_wp2
            go_roundw
            case rel =>
              have hp := HO2.out.put (k := j + i') (x := (z + x + c') % 4294967296) (by omega) (by omega)
              have e2 : (((z + x + c') % 4294967296 : Nat) : Int) = ((z : Int) + (x : Int) + (c' : Int)) % 4294967296 := by omega
              rw [e2, ← HNL2.out, splice_set (by rw [HNL2.out, HRL.out]; omega)] at hp
              rw [HNL2.out] at hp
              refine ⟨i' + 1, (z + x + c') / 4294967296, n' ++ [(z + x + c') % 4294967296], by omega, by omega, vint (by omega), by go_num, hide (by simp [HNL2.out]), hide (HNK2.out.append (by intro z hz; simp at hz; omega)), hide (back_step HNL2.out HX.out HZ2.out HI2.out rfl), hide hp, hide (Fr.setCell HF2.out (Or.inr rfl) _)⟩
            case measure => simp [intOf] <;> omega
          · obtain rfl : i' = i := by omega
            obtain rfl : z = e := by
              have h := HZ.out
              rw [List.getElem?_append_right (by rw [HNL.out]; omega), HNL.out, Nat.sub_self] at h
              simpa using h.symm
            have g5 : (c' : Int) % 4294967296 = (c' : Int) := by omega
            have hi2 := HI2.out
            rw [List.take_of_length_le (by have := HNL.out; omega), List.take_of_length_le (by have := HV.out.len; omega)] at hi2
            have hbe := back_end (n' := n') (c' := c') (z := (z + c') % 4294967296) HNK.out HNK2.out HNL.out HNL2.out HSL.out HV.out.len HY.out rfl rfl HI.out hi2 (by have := HE.out; omega) (by omega) ⟨(z + c') / 4294967296, by have := HE.out; omega⟩ HQ2.out HVP.out (by have := lv_lt HV.out.ok; rwa [HV.out.len] at this)
            have HB := hide hbe
            have hq1 : 1 ≤ q := by rw [hbe.1]; exact Nat.le_add_left 1 _
            have g6 : ((q : Int) - 1) % 4294967296 = (q : Int) - 1 := by omega
            have hp := HO2.out.put (k := j + i') (x := (z + c') % 4294967296) (by omega) (by omega)
            rw [← HNL2.out, splice_set (by rw [HNL2.out, HRL.out]; omega), HR.out, splice_splice (by simp [HNL.out, hUN.out]; omega) (by simp [HNL.out, HNL2.out])] at hp
            rw [HNL2.out] at hp
            have g7 : IntKind.u32.wrap ((z : Int) + (c' : Int)) = (((z + c') % 4294967296 : Nat) : Int) := by rw [IntKind.wrap_u32]; omega
            have HPP := hide hp
            clear hbe hi2 hp
            go_wp2
            go_ret
            exact ⟨n' ++ [(z + c') % 4294967296], q - 1, by rw [Int.natCast_sub hq1]; rfl, hide (by have := HB.out.1; generalize lv S / lv vs = D at *; omega), by omega, by simp [HNL2.out], HB.out.2, HPP.out, Fr.setCell HF2.out (Or.inr rfl) _⟩
end Go.Proofs.Ytclflfglhbkfkaa

/- Contracts: bits.Len32, LeadingZeros32, Len. -/
namespace Go.Proofs.Ytclflfglhbkfkaa
open Go.RowKit

/-- A table of bit lengths. -/
def tblOk (s : ByteArray) : Bool := (List.range 256).all fun i => match s.data.toList[i]? with
  | some t => decide (t.toNat ≤ 8) && decide (i < 2 ^ t.toNat) && (i == 0 || decide (2 ^ (t.toNat - 1) ≤ i && 1 ≤ t.toNat))
  | none => false
theorem tbl_at {s : ByteArray} (h : tblOk s = true) {i : Nat} (hi : i < 256) (hs : i < s.size) : (s[i]'hs).toNat ≤ 8 ∧ i < 2 ^ (s[i]'hs).toNat ∧ (i ≠ 0 → 2 ^ ((s[i]'hs).toNat - 1) ≤ i ∧ 1 ≤ (s[i]'hs).toNat) := by
  have h1 := List.all_eq_true.1 h i (List.mem_range.2 hi)
  have e : s.data.toList[i]? = some (s[i]'hs) := by
    rw [Array.getElem?_toList, Array.getElem?_eq_getElem]; rfl
  rw [e] at h1
  simp only [Bool.and_eq_true, decide_eq_true_eq, Bool.or_eq_true, beq_iff_eq] at h1
  exact ⟨h1.1.1, h1.1.2, fun h0 => by rcases h1.2 with h2 | h2; exact absurd h2 h0; exact h2⟩
/-- L binary digits. -/
def isLen (x L : Nat) : Prop := x < 2 ^ L ∧ L ≤ 32 ∧ (x ≠ 0 → 2 ^ (L - 1) ≤ x ∧ 1 ≤ L)
theorem len_hi {s : ByteArray} (h : tblOk s = true) {i b x : Nat} (hs : i < s.size) (hi : i < 256) (h0 : i ≠ 0) (hb : b ≤ 24) (he : i = x / 2 ^ b) (w w' : World) (hw : w' = w) :
    ∃ L : Nat, Ending.returned (.int .i64 (wrap64 ((b : Int) + wrap64 ((s[i]'hs).toNat : Int)))) = Ending.returned (.int .i64 (L : Int)) ∧ isLen x L ∧ w' = w := by
  obtain ⟨h1, h2, h3⟩ := tbl_at h hi hs
  obtain ⟨h4, h5⟩ := h3 h0
  generalize (s[i]'hs).toNat = t at *
  have e1 : wrap64 (t : Int) = t := IntWalk.wrap64_in _ ⟨by omega, by omega⟩
  have e2 : wrap64 ((b : Int) + (t : Int)) = ((b + t : Nat) : Int) := by rw [show (b : Int) + (t : Int) = ((b + t : Nat) : Int) by omega]; exact IntWalk.wrap64_in _ ⟨by omega, by omega⟩
  rw [e1, e2]
  refine ⟨b + t, rfl, ⟨?_, by omega, fun _ => ⟨?_, by omega⟩⟩, hw⟩
  · rw [he] at h2
    rw [Nat.pow_add, Nat.mul_comm]
    exact (Nat.div_lt_iff_lt_mul (Nat.pow_pos (by omega))).1 h2
  · rw [he] at h4
    rw [show b + t - 1 = b + (t - 1) by omega, Nat.pow_add, Nat.mul_comm]
    exact (Nat.le_div_iff_mul_le (Nat.pow_pos (by omega))).1 h4
theorem len_lo {s : ByteArray} (h : tblOk s = true) {x : Nat} (hs : x < s.size) (hi : x < 256) (w w' : World) (hw : w' = w) :
    ∃ L : Nat, Ending.returned (.int .i64 (wrap64 (wrap64 ((s[x]'hs).toNat : Int)))) = Ending.returned (.int .i64 (L : Int)) ∧ isLen x L ∧ w' = w := by
  obtain ⟨h1, h2, h3⟩ := tbl_at h hi hs
  generalize (s[x]'hs).toNat = t at *
  have e1 : wrap64 (t : Int) = t := IntWalk.wrap64_in _ ⟨by omega, by omega⟩
  rw [e1, e1]
  exact ⟨t, rfl, ⟨h2, by omega, h3⟩, hw⟩
set_option maxRecDepth 100000 in
set_option maxHeartbeats 4000000 in
theorem len32_any (w : World) (x : Nat) (hx : x < 4294967296) :
    Calls Try.prog 118 #[.int .u32 (x : Int)] w fun e w' => ∃ L : Nat, e = .returned (.int .i64 (L : Int)) ∧ isLen x L ∧ w' = w := by
  by_cases h1 : 65536 ≤ x
  · have d1 : decide ((65536 : Int) ≤ (x : Int)) = true := decide_eq_true (by omega)
    by_cases h2 : 256 ≤ x / 65536
    · have d2 : decide ((256 : Int) ≤ (x : Int) / 65536) = true := decide_eq_true (by omega)
      go_enter Try.func118, Try.ntmps118
      go_wp2
      go_ret
      refine len_hi (b := 24) (i := x / 65536 / 256) (x := x) ?_ _ (by omega) (by omega) (by omega) (by omega) _ _ rfl
      kernel_rfl
    · have d2 : decide ((256 : Int) ≤ (x : Int) / 65536) = false := decide_eq_false (by omega)
      go_enter Try.func118, Try.ntmps118
      go_wp2
      go_ret
      refine len_hi (b := 16) (i := x / 65536) (x := x) ?_ _ (by omega) (by omega) (by omega) (by omega) _ _ rfl
      kernel_rfl
  · have d1 : decide ((65536 : Int) ≤ (x : Int)) = false := decide_eq_false (by omega)
    by_cases h2 : 256 ≤ x
    · have d2 : decide ((256 : Int) ≤ (x : Int)) = true := decide_eq_true (by omega)
      go_enter Try.func118, Try.ntmps118
      go_wp2
      go_ret
      refine len_hi (b := 8) (i := x / 256) (x := x) ?_ _ (by omega) (by omega) (by omega) (by omega) _ _ rfl
      kernel_rfl
    · have d2 : decide ((256 : Int) ≤ (x : Int)) = false := decide_eq_false (by omega)
      go_enter Try.func118, Try.ntmps118
      go_wp2
      go_ret
      refine len_lo (x := x) ?_ _ (by omega) _ _ rfl
      kernel_rfl
set_option maxHeartbeats 4000000 in
theorem lz32_any (w : World) (x : Nat) (hx : x < 4294967296) (h0 : x ≠ 0) :
    Calls Try.prog 102 #[.int .u32 (x : Int)] w fun e w' => ∃ s : Nat, e = .returned (.int .i64 (s : Int)) ∧ s ≤ 31 ∧ x * 2 ^ s < 4294967296 ∧ w' = w := by
  go_enter Try.func102, Try.ntmps102
  go_wp2_with (go_at_call 118; refine (len32_any _ x hx).mono ?_; rintro e w' ⟨L, rfl, hL, rfl⟩; obtain ⟨hl1, hl2, hl3⟩ := hL; obtain ⟨hl4, hl5⟩ := hl3 h0; clear hl3)
  go_ret
  refine ⟨32 - L, by rw [Int.natCast_sub hl2]; rfl, by omega, ?_, rfl⟩
  have : x * 2 ^ (32 - L) < 2 ^ L * 2 ^ (32 - L) := Nat.mul_lt_mul_of_pos_right hl1 (Nat.pow_pos (by omega))
  rw [← Nat.pow_add, show L + (32 - L) = 32 by omega] at this
  omega

set_option maxRecDepth 100000 in
set_option maxHeartbeats 4000000 in
theorem len64_any (w : World) (x : Nat) (hx : x < 65537) :
    Calls Try.prog 121 #[.int .u64 (x : Int)] w fun e w' => ∃ L : Nat, e = .returned (.int .i64 (L : Int)) ∧ isLen x L ∧ w' = w := by
  have d0 : decide ((4294967296 : Int) ≤ (x : Int)) = false := decide_eq_false (by omega)
  by_cases h1 : 65536 ≤ x
  · have d1 : decide ((65536 : Int) ≤ (x : Int)) = true := decide_eq_true (by omega)
    have d2 : decide ((256 : Int) ≤ (x : Int) / 65536) = false := decide_eq_false (by omega)
    go_enter Try.func121, Try.ntmps121
    go_wp2
    go_ret
    refine len_hi (b := 16) (i := x / 65536) (x := x) ?_ _ (by omega) (by omega) (by omega) (by omega) _ _ rfl
    kernel_rfl
  · have d1 : decide ((65536 : Int) ≤ (x : Int)) = false := decide_eq_false (by omega)
    by_cases h2 : 256 ≤ x
    · have d2 : decide ((256 : Int) ≤ (x : Int)) = true := decide_eq_true (by omega)
      go_enter Try.func121, Try.ntmps121
      go_wp2
      go_ret
      refine len_hi (b := 8) (i := x / 256) (x := x) ?_ _ (by omega) (by omega) (by omega) (by omega) _ _ rfl
      kernel_rfl
    · have d2 : decide ((256 : Int) ≤ (x : Int)) = false := decide_eq_false (by omega)
      go_enter Try.func121, Try.ntmps121
      go_wp2
      go_ret
      refine len_lo (x := x) ?_ _ (by omega) _ _ rfl
      kernel_rfl
set_option maxHeartbeats 4000000 in
theorem blen_any (w : World) (x : Nat) (hx : x < 65537) :
    Calls Try.prog 113 #[.int .u64 (x : Int)] w fun e w' => ∃ L : Nat, e = .returned (.int .i64 (L : Int)) ∧ isLen x L ∧ w' = w := by
  go_enter Try.func113, Try.ntmps113
  go_wp2_with (go_at_call 121; refine (len64_any _ x hx).mono ?_; rintro e w' ⟨L, rfl, hL, rfl⟩)
  go_ret
  exact ⟨L, rfl, hL, rfl⟩
end Go.Proofs.Ytclflfglhbkfkaa

/- Contracts: slices.Clone of limbs, limbs.Divide. -/
namespace Go.Proofs.Ytclflfglhbkfkaa
open Go.RowKit

set_option maxRecDepth 100000 in
set_option maxHeartbeats 4000000 in
theorem lclone_any (w : World) (av : Option Nat) (A : Option Addr) (n c : Nat) (l : List Nat) (hU : Ul w av A n l) (hn : n ≤ 1000000) :
    Calls Try.prog 97 #[.slice A n c] w fun e w' => ∃ A' c', e = .returned (.slice A' n c') ∧ OF w w' A' n c' l := by
  have HU := hide hU
  clear hU
  rcases A with _ | a
  · have hl : l = [] := by
      rcases l with _ | ⟨x, l⟩
      · rfl
      · obtain ⟨b, o, h, _⟩ := HU.out.1 (by simp)
        cases h
    have hn0 : n = 0 := by have := HU.out.len; rw [hl] at this; exact this.symm
    subst hn0
    subst hl
    have hnil := fun W => Lib.run_eql_slice_nil (P := Try.prog) W 23 83 none 0 c 0 0 Try.underlying23
    go_enter Try.func97, Try.ntmps97
    go_wp2
    go_ret
    exact ⟨none, 0, rfl, OF.nil (Fr.refl _ _)⟩
  · have hnil := fun W => Lib.run_eql_slice_nil (P := Try.prog) W 23 83 (some a) n c 0 0 Try.underlying23
    go_enter Try.func97, Try.ntmps97
    go_wp2_with (at_builtin; refine wl_appall_u32 (w0 := w) rfl _ _ _ Try.underlying23 rfl (some ⟨w.heap.size, 0, none⟩) 0 0 [] av (some a) n c l rfl rfl (OF.new (Fr.refl _ _)) (HU.out.alloc _) (by omega) ?_; intro A2 c2 w2 ho2; have HO2 := hide ho2; clear ho2)
    go_ret
    rw [Nat.zero_add, List.nil_append] at *
    exact ⟨A2, c2, rfl, HO2.out⟩

theorem lm_len1 {y : Nat} (h : (lm y).length = 1) : lm y = [y] ∧ y < 4294967296 ∧ 0 < y := by
  have h1 : y < 4294967296 ^ 1 := lm_length_le.1 (by omega)
  have h2 : y ≠ 0 := by rintro rfl; rw [lm_zero] at h; simp at h
  exact ⟨lm_small (by omega) h2, by omega, by omega⟩
set_option maxRecDepth 100000 in
set_option maxHeartbeats 8000000 in
theorem ldiv_any (w : World) (av av' : Option Nat) (A : Option Addr) (n c : Nat) (B : Option Addr) (m d : Nat) (x y : Nat) (hU : Ul w av A n (lm x)) (hV : Ul w av' B m (lm y)) (hn : n ≤ 1000000) (hm : m ≤ 1000000) (hy : 0 < y) :
    Calls Try.prog 86 #[.slice A n c, .slice B m d] w fun e w' => ∃ A' m' c' A2 m2 c2, e = .returned (.tuple #[.slice A' m' c', .slice A2 m2 c2]) ∧ m' ≤ c' ∧ m2 ≤ c2 ∧ Ul w' none A' m' (lm (x / y)) ∧ Ul w' none A2 m2 (lm (x % y)) ∧ Below w.heap.size w w' := by
  have HU := hide hU
  have HV := hide hV
  clear hU hV
  by_cases hlt : x < y
  · have HD := hide (Nat.div_eq_of_lt hlt)
    have HM := hide (Nat.mod_eq_of_lt hlt)
    have HC := hide (cmpN_lt hlt)
    clear hlt
    go_enter Try.func86, Try.ntmps86
    go_wp2_with (first
      | (go_at_call 47; refine (lcmp_any _ av av' _ _ _ _ _ _ x y HU.out HV.out (by omega) (by omega)).mono ?_; rintro e w1 ⟨rfl, hd⟩; rw [HC.out]; have HD1 := hide hd; clear hd)
      | (go_at_call 97; refine (lclone_any _ av _ _ _ _ (HU.out.dr HD1.out) (by omega)).mono ?_; rintro e w2 ⟨A2, c2, rfl, ho2⟩; have HO2 := hide ho2; clear ho2))
    go_ret2
    exact ⟨none, 0, 0, A2, n, c2, rfl, by omega, HO2.out.cap, by rw [HD.out, lm_zero]; exact Ul.nil, by rw [HM.out]; exact HO2.out.ul, HD1.out.below.trans ((fr_below HO2.out.fr).mono HD1.out.below.size)⟩
  · have hc0 : ¬ cmpN x y < 0 := fun h => hlt (cmpN_neg.1 h)
    have hc1 : decide (cmpN x y < 0) = false := decide_eq_false hc0
    clear hc0
    by_cases hm1 : m = 1
    · subst hm1
      obtain ⟨hl1, hy1, hy2⟩ := lm_len1 HV.out.len
      obtain ⟨b, o, p, rfl, -, -, hp, hpl, hcell⟩ := HV.out.at (k := 0) (by omega)
      obtain rfl : p = y := by rw [hl1] at hp; simpa using hp.symm
      clear hp hl1
      go_enter Try.func86, Try.ntmps86
      go_wp2_with (first
        | (go_at_call 47; refine (lcmp_any _ av av' _ _ _ _ _ _ x p HU.out HV.out (by omega) (by omega)).mono ?_; rintro e w1 ⟨rfl, hd⟩; have HD1 := hide hd; have hcell1 : w1.cell? ⟨b, o, none⟩ = some (.int .u32 (p : Int)) := (by obtain ⟨k, rfl⟩ := hd; simpa using hcell); clear hd)
        | (go_at_call 101; refine (lsmall_any _ av _ _ _ x p (HU.out.dr HD1.out) (by omega) hpl hy2).mono ?_; rintro e w2 ⟨A2, m2, c2, r, rfl, hc2, hr, HR, hu2, hb2⟩; have HU2 := hide hu2; have HB2 := hide hb2; clear hu2 hb2)
        | (go_at_call 89; refine (lof_any _ r (by omega)).mono ?_; rintro e w3 ⟨A3, m3, c3, rfl, hc3, -, hu3, hb3⟩; have HU3 := hide hu3; have HB3 := hide hb3; clear hu3 hb3))
      go_ret2
      exact ⟨A2, m2, c2, A3, m3, c3, rfl, hc2, hc3, HU2.out.below HB3.out, by rw [← HR.out]; exact HU3.out, HD1.out.below.trans ((HB2.out.trans (HB3.out.mono HB2.out.size)).mono HD1.out.below.size)⟩
    · have hm0 : m ≠ 0 := by
        rintro rfl
        have := lm_eq_nil.1 (List.eq_nil_of_length_eq_zero HV.out.len)
        omega
      have hmn : m ≤ n := by
        have := lm_length_mono (Nat.not_lt.1 hlt)
        rwa [HU.out.len, HV.out.len] at this
      obtain ⟨tb, htb, htb0, htbl, -⟩ := lm_top HV.out.len (by omega)
      obtain ⟨b, o, p, rfl, -, -, hp, hpl, hcell⟩ := HV.out.at (k := m - 1) (by omega)
      obtain rfl : tb = p := by rw [htb] at hp; injection hp
      have HTB := hide htb
      clear htb hp
      have hd1 : ((m : Int) == 1) = false := by simp; omega
      obtain ⟨K, hK⟩ : ∃ K, K = n - m + 1 := ⟨_, rfl⟩
      have HK := hide hK
      have hKm : K + m ≤ n + 1 := by omega
      have hKn : n + 1 ≤ K + m := by omega
      clear hK
      have gi0 : (0 : Int) ≤ (m : Int) - 1 := by omega
      have gi1 : (m : Int) - 1 < (m : Int) := by omega
      go_enter Try.func86, Try.ntmps86
      go_wp2_with (first
        | (go_at_call 47; refine (lcmp_any _ av av' _ _ _ _ _ _ x y HU.out HV.out (by omega) (by omega)).mono ?_; rintro e w1 ⟨rfl, hd⟩; have HD1 := hide hd; have hcell1 : w1.cell? ⟨b, o + (m - 1), none⟩ = some (.int .u32 (tb : Int)) := (by obtain ⟨k, rfl⟩ := hd; simpa using hcell); clear hd)
        | (go_at_call 102; refine (lz32_any _ tb hpl htb0).mono ?_; rintro e w1' ⟨s, rfl, hs, hts, rfl⟩; have HTS := hide hts; clear hts)
        | (go_at_call 103; (with_reducible refine (lshift_any _ av _ n _ x s (HU.out.dr HD1.out) (by omega) hs).mono ?_); rintro e w2 ⟨us, rfl, hus, hou⟩; have HUS := hide hus; have HOU := hide hou; have hbl2 := fr_below hou.fr; have HB2 := hide hbl2; clear hus hou hbl2)
        | (go_at_call 103; (with_reducible refine (lshift_any _ av' _ m _ y s ((HV.out.dr HD1.out).below HB2.out) (by omega) hs).mono ?_); rintro e w3 ⟨vs, rfl, hvs, hov⟩; have HVS := hide hvs; have HOV := hide hov; have hbl3 := fr_below hov.fr; have HB3 := hide hbl3; clear hvs hov hbl3)
        | (go_at_call 87; refine (trim_any _ (some w1'.heap.size) _ _ _ vs (HOV.out.ulav (by intro t ht; injection ht with ht; obtain ⟨g, _, hg, _, hgl, _⟩ := HOU.out.at (k := 0) (by omega); injection hg with hg; injection hg with hg; omega)) (by omega) (by omega)).mono ?_; rintro e w4 ⟨m3, rfl, hm3, hu3, rfl⟩; rw [HVS.out] at hu3; obtain rfl : m = m3 := (hu3.len.symm.trans (shl_len HV.out.len (by omega) HTB.out hs HTS.out hy)).symm; have HU3 := hide hu3; clear hu3)
        | (at_make; refine wl_make_u32 (w0 := w1') rfl _ _ _ Try.underlying23 rfl K K _ _ rfl rfl (by omega) (by omega) (by omega) (by omega) (HOU.out.fr.below_ HB3.out) ?_; intro w5 ho5 hs5 hb5; have HO5 := hide ho5; have HB5 := hide hb5; clear ho5 hb5))
      have hg1 : w1'.heap.size < w2.heap.size := by
        obtain ⟨g, _, hg, _, hgl, _⟩ := HOU.out.at (k := 0) (by omega)
        injection hg with hg
        injection hg with hg
        omega
      have hg2 : w2.heap.size < w4.heap.size := by
        obtain ⟨g, _, hg, _, hgl, _⟩ := HOV.out.at (k := 0) (by omega)
        injection hg with hg
        injection hg with hg
        omega
      have HOU5 := hide ((HOU.out.below HB3.out).below HB5.out)
      have HV5 := hide (HU3.out.below HB5.out)
      have HST := hide (div_start HU.out.len HV.out.len hmn (by omega) HOU.out.len HUS.out)
      rw [← HK.out] at HST
      have HBW := hide (HD1.out.below.trans ((HB2.out.trans ((HB3.out.trans (HB5.out.mono HB3.out.size)).mono HB2.out.size)).mono HD1.out.below.size))
      have hw1 := HD1.out.below.size
      have hbase := HO5.out.fr.size
      obtain ⟨gu, hgu⟩ : ∃ g, g = w1'.heap.size := ⟨_, rfl⟩
      obtain ⟨gv, hgv⟩ : ∃ g, g = w2.heap.size := ⟨_, rfl⟩
      obtain ⟨gq, hgq⟩ : ∃ g, g = w4.heap.size := ⟨_, rfl⟩
      rw [← hgu, ← hgv] at hg1
      rw [← hgv, ← hgq] at hg2
      rw [← hgu] at HOU5 hw1
      rw [← hgu, ← hgv] at HV5
      rw [← hgq] at HO5 ⊢
      rw [← hgu, ← hgv]
      have hgw : w1'.heap.size ≤ gu := by omega
      clear hgu hgv hgq hcell hcell1 HOU HOV HB2 HB3 HB5 HU3
      go_loopw [12] (fun i wr => ∃ (k : Nat) (us qs : List Nat), k ≤ K ∧ i = .int .i64 ((k : Int) - 1) ∧ Hid (OF w1' wr (some ⟨gu, 0, none⟩) (n + 1) (n + 1) us) ∧ Hid (OF w1' wr (some ⟨gq, 0, none⟩) K K qs) ∧ Hid (Ul wr (some gu) (some ⟨gv, 0, none⟩) m (lm (y * 2 ^ s))) ∧ Hid (x * 2 ^ s = lv us + y * 2 ^ s * (4294967296 ^ k * lv (qs.drop k))) ∧ Hid (lv (us.drop k) < y * 2 ^ s)) (fun i _ => (intOf i + 1).toNat)
      case atStart => exact ⟨K, us, _, by omega, by go_num, HOU5, HO5, HV5, hide (by rw [List.drop_eq_nil_of_le (by simp), HUS.out]; simp [lv]), HST⟩
      case round =>
        obtain ⟨k, us, qs, hk, rfl, HU1, HQ1, HV1, HI, HL⟩ := hrel
        clear HOU5 HO5 HV5 HST HUS HVS
        by_cases hk0 : k = 0
        · subst hk0
          have h0 : x * 2 ^ s = lv us + y * 2 ^ s * (1 * lv qs) := HI.out
          rw [Nat.one_mul] at h0
          have hlt0 : lv us < y * 2 ^ s := HL.out
          have hsp : 0 < 2 ^ s := Nat.pow_pos (by omega)
          have hVp : 0 < y * 2 ^ s := Nat.mul_pos hy hsp
          have hq0 : lv qs = x / y := by
            rw [← Nat.mul_div_mul_right x y hsp, h0, Nat.add_mul_div_left _ _ hVp, Nat.div_eq_of_lt hlt0, Nat.zero_add]
          have hr0 : lv us / 2 ^ s = x % y := by
            have e : x * 2 ^ s % (y * 2 ^ s) = lv us := by rw [h0, Nat.add_mul_mod_self_left, Nat.mod_eq_of_lt hlt0]
            rw [← e, Nat.mul_mod_mul_right, Nat.mul_div_cancel _ hsp]
          have HQR := hide hq0
          have HRR := hide hr0
          have hbw := HBW.out
          clear h0 hlt0 hq0 hr0 hsp hVp
          go_wp2_with (first
            | (go_at_call 87; (with_reducible refine (trim_any _ none (some ⟨gq, 0, none⟩) K K qs HQ1.out.ul (by omega) (by omega)).mono ?_); rintro e w6 ⟨m6, rfl, hm6, hu6, rfl⟩; rw [HQR.out] at hu6; have HU6 := hide hu6; clear hu6)
            | (go_at_call 87; (with_reducible refine (trim_any _ none (some ⟨gu, 0, none⟩) (n + 1) (n + 1) us HU1.out.ul (by omega) (by omega)).mono ?_); rintro e w7 ⟨m7, rfl, hm7, hu7, rfl⟩; have HU7 := hide hu7; clear hu7)
            | (go_at_call 106; refine (lunshift_any _ none _ m7 _ (lv us) s HU7.out (by omega) hs).mono ?_; rintro e w8 ⟨A8, m8, c8, rfl, hc8, hu8, hb8⟩; rw [HRR.out] at hu8; have HU8 := hide hu8; have HB8 := hide hb8; clear hu8 hb8))
          go_ret2
          exact ⟨_, m6, _, A8, m8, c8, rfl, hm6, hc8, HU6.out.below HB8.out, HU8.out, (HD1.out.below.trans ((fr_below HQ1.out.fr).mono HD1.out.below.size)).trans (HB8.out.mono (Nat.le_trans HD1.out.below.size HQ1.out.fr.size))⟩
        · obtain ⟨j, rfl⟩ : ∃ j, k = j + 1 := ⟨k - 1, by omega⟩
          have gj0 : (0 : Int) ≤ (j : Int) := by omega
          have gj1 : (j : Int) ≤ (j : Int) + (m : Int) + 1 := by omega
          have gj2 : (j : Int) + (m : Int) + 1 ≤ (n : Int) + 1 := by omega
          have gj3 : (j : Int) < (K : Int) := by omega
          have gj4 : (0 : Int) ≤ (j : Int) + (m : Int) + 1 := by omega
          go_upto_region 12 with (fail)
          have hj1 : ¬ n + 1 = j := by omega
          have hw1 : IntKind.i64.wrap ((j : Int) + (m : Int)) = (j : Int) + (m : Int) := IntWalk.i64_in _ (by omega)
          have hw2 : IntKind.i64.wrap ((j : Int) + (m : Int) + 1) = (j : Int) + (m : Int) + 1 := IntWalk.i64_in _ (by omega)
          have hlen : ((j : Int) + (m : Int) + 1).toNat - j = m + 1 := by omega
          have HSEG := hide (HU1.out.seg (j := j) (k := m + 1) (by omega))
          obtain ⟨tv, htv, htv0, -, -⟩ := lm_top HV1.out.len (by omega)
          have HTV := hide htv
          have hub := (okL.get HU1.out.ok (i := j) (List.getElem?_eq_getElem (by have := HU1.out.len; omega)))
          have hdl := lv_drop (List.getElem?_eq_getElem (l := us) (i := j) (by have := HU1.out.len; omega))
          have HDB := hide (show lv (us.drop j) < y * 2 ^ s * 4294967296 by have := HL.out; omega)
          have hVlt := lm_lt_pow (y * 2 ^ s)
          rw [HV1.out.len] at hVlt
          have HSG := hide (drop_seg (u := us) (j := j) (m := m + 1) HU1.out.ok (by
            have h1 := HDB.out
            have h2 : y * 2 ^ s * 4294967296 ≤ 4294967296 ^ m * 4294967296 := Nat.mul_le_mul_right _ (Nat.le_of_lt hVlt)
            rw [← Nat.pow_succ] at h2
            exact Nat.lt_of_lt_of_le h1 h2) (by have := HU1.out.len; omega))
          have HVP := hide (show 0 < y * 2 ^ s from Nat.mul_pos hy (Nat.pow_pos (by omega)))
          clear htv hub hdl hVlt
          go_region_with (first
            | (go_at_call 105; refine (lguess_any _ none (some gu) (some ⟨gu, j, none⟩) m _ (some ⟨gv, 0, none⟩) _ _ _ HSEG.out.drew HV1.out.drew (by omega) (by omega) ⟨tv, HTV.out, by omega⟩ (by rw [HSG.out, lv_lm]; exact HDB.out)).mono ?_; rintro e w6 ⟨q, rfl, hq, hq1, hq2, hd6⟩; rw [lv_lm] at hq1 hq2; have HQ1q := hide hq1; have HQ2q := hide hq2; have HD6 := hide ((Dr.refl wr).drew.trans hd6); clear hq1 hq2 hd6)
            | (go_at_call 104; refine (lreduce_any w1' _ gu (n + 1) (n + 1) j m _ (some ⟨gv, 0, none⟩) _ us (lm (y * 2 ^ s)) q (HU1.out.frS (HD6.out.fr (fun _ => False)) (fun h => h) (fun _ h => h.elim)) (HV1.out.dr HD6.out) (by omega) (by omega) hq (by rw [lv_lm]; exact HVP.out) (by rw [lv_lm]; exact HQ1q.out) (by rw [lv_lm]; exact HQ2q.out)).mono ?_; rintro e w7 ⟨sg, D, rfl, HD, hD, hsl, hsv, ho7, hf7⟩; have HSV := hide hsv; have HSL := hide hsl; have HO7 := hide ho7; have HF7 := hide hf7; have hq7 := (HQ1.out.frS (HD6.out.fr (fun _ => False)) (fun h => h) (fun _ h => h.elim)).frS hf7 (by omega) (by intro k hk; omega); obtain ⟨gq', z7, hgq', -, hgl7, -, -, hcz7, hfz7⟩ := hq7.at (k := j) (by omega); obtain rfl : gq = gq' := (by simpa using hgq'); have hfz8 := hfz7 j; have HQ7 := hide hq7; have HV7 := hide ((HV1.out.dr HD6.out).fr hf7 (fun _ b o hA hne h => by injection hA with hA; injection hA with hA; omega)); clear hsv hsl ho7 hf7 hq7 hfz7 hgq'))
          go_wp2
          go_roundw
          case rel =>
            have hqs := HQ7.out.put (k := j) (x := D) (by omega) hD
            have hsl := HSL.out
            have hul := HU1.out.len
            have hspl : (splice us j sg).length = us.length := splice_len (by omega)
            have hdrop : lv ((splice us j sg).drop j) = lv sg := by
              have e1 : (splice us j sg).drop j = sg ++ us.drop (j + sg.length) := by
                unfold splice
                rw [List.append_assoc, List.drop_append_of_le_length (by simp; omega), List.drop_of_length_le (by simp; omega), List.nil_append]
              have e2 : lv (us.drop (j + sg.length)) = 0 := by
                rw [hsl]
                have h1 := lv_take_drop (us.drop j) (m + 1) (by rw [List.length_drop]; omega)
                rw [HSG.out, List.drop_drop] at h1
                rcases Nat.eq_zero_or_pos (lv (us.drop (j + (m + 1)))) with h0 | h0
                · exact h0
                · have := Nat.mul_pos (pow_pos' (m + 1)) h0
                  omega
              rw [e1, lv_append, e2]
              simp
            have htake : lv ((splice us j sg).take j) = lv (us.take j) := by
              unfold splice
              rw [List.append_assoc, List.take_append_of_le_length (by simp; omega), List.take_of_length_le (by simp; omega)]
            have hTu := lv_take_drop us j (by omega)
            have hTs := lv_take_drop (splice us j sg) j (by omega)
            have hsv := HSV.out
            rw [HSG.out, lv_lm] at hsv
            have hDD := HD.out
            rw [HSG.out, lv_lm] at hDD
            refine ⟨j, splice us j sg, qs.set j D, by omega, rfl, hide ?_, hide hqs, hide ?_, hide ?_, hide ?_⟩
            · exact HO7.out.frS (Fr.setCell (S := fun b => b = gq) (p := ⟨gq, j, none⟩) (Fr.refl _ _) (Or.inr rfl) _) (by omega) (by intro k hk; omega)
            · exact HV7.out.fr (Fr.setCell (S := fun b => b = gq) (p := ⟨gq, j, none⟩) (Fr.refl _ _) (Or.inr rfl) _) (fun _ b o hA _ h => by injection hA with hA; injection hA with hA; omega)
            · have hst := div_step (d := D) (by have := HQ1.out.len; omega) HI.out (lv (us.take j)) (lv (us.drop j)) hTu hDD
              rw [hst, hTs, hdrop, htake, hsv]
            · rw [hdrop, hsv]
              exact Nat.mod_lt _ HVP.out
          case measure => simp [intOf] <;> omega
end Go.Proofs.Ytclflfglhbkfkaa
